/- What is proved of functions, and plain facts, part 3. Conditions: none. -/
import Derived.Test.YtmalpmnmknpphaaSShapeParts2
import Derived.KernelRfl
import Derived.ProofKit
import Derived.ChangeArms
import Derived.WideShapes
import Derived.OpenShut
import Derived.Below
set_option linter.defProp false
set_option linter.unusedSectionVars false
set_option linter.unusedSimpArgs false
set_option linter.unusedVariables false
namespace Go.Proofs.Ytmalpmnmknpphaa.TM
open Go
abbrev Keys:=List (Nat × Nat) × List (Nat × Nat)
def Eff.keys (e:Eff):Keys:=(e.ups.map fun u => keyN u.1,e.touch.map keyN)
def apartK (ops:Array Oper) (oi:Oper) (ei:Keys) (oj:Oper) (ej:Keys):Bool :=
  oi.apart ops oj && (ei.1.all fun u => !(ej.2.any fun b => b == u) && !(ej.1.any fun v => v == u)) && (ej.1.all fun u => !(ei.2.any fun b => b == u))
def drawK (ops:Array Oper) (ks:List Keys):Bool :=
  (ops.toList.zipIdx.all fun q => (dirs q.1).all fun d => d < q.2) &&
  ((ops.toList.zip ks).zipIdx.all fun qj => (((ops.toList.zip ks).take qj.2).zipIdx).all fun qi =>
    ((beforeL ops.toList []).getD qj.2 0).testBit qi.2 || apartK ops qi.1.1 qi.1.2 qj.1.1 qj.1.2)
theorem apartK_eq (ops:Array Oper) (oi:Oper) (ei:Eff) (oj:Oper) (ej:Eff):apartK ops oi ei.keys oj ej.keys=apartE ops oi ei oj ej:=by
  simp only [apartK,apartE,Eff.keys,List.all_map,List.any_map]
  rfl
theorem zip_keys (os:List Oper) (es:List Eff):os.zip (es.map Eff.keys)=(os.zip es).map fun q => (q.1,q.2.keys):=by
  rw [List.zip_map_right]; rfl
theorem drawK_eq (ops:Array Oper) (effs:List Eff):drawK ops (effs.map Eff.keys)=drawOK ops effs:=by
  unfold drawK drawOK
  rw [zip_keys]
  congr 1
  rw [Bool.eq_iff_iff,List.all_eq_true,List.all_eq_true]
  have hz:∀ (l:List (Oper × Eff)) (n:Nat) (q:(Oper × Keys) × Nat),q ∈ ((l.map fun q => (q.1,q.2.keys)).zipIdx n) ↔ ∃ p ∈ l.zipIdx n,q=((p.1.1,p.1.2.keys),p.2):=by
    intro l n q
    rw [List.zipIdx_map,List.mem_map]
    constructor
    · rintro ⟨p,hp,rfl⟩; exact ⟨p,hp,rfl⟩
    · rintro ⟨p,hp,rfl⟩; exact ⟨p,hp,rfl⟩
  constructor
  · intro hh p hp
    have h1:=hh _ ((hz _ 0 _).2 ⟨p,hp,rfl⟩)
    rw [List.all_eq_true] at h1 ⊢
    intro q hq
    have h2:=h1 ((q.1.1,q.1.2.keys),q.2) (by rw [← List.map_take]; exact (hz _ 0 _).2 ⟨q,hq,rfl⟩)
    simpa only [apartK_eq] using h2
  · intro hh p hp
    obtain ⟨p',hp',rfl⟩:=(hz _ 0 _).1 hp
    have h1:=hh _ hp'
    rw [List.all_eq_true] at h1 ⊢
    intro q hq
    simp only at hq
    rw [← List.map_take] at hq
    obtain ⟨q',hq',rfl⟩:=(hz _ 0 _).1 hq
    simpa only [apartK_eq] using h1 _ hq'
inductive Dep (c:Code):Type where
  | mk
inductive DepA (ops:Array Oper):Type where
  | mk
def XInv (ops:Array Oper) (ds:List (Option Tmp)) (i:Nat) (os:List Oper):Prop:=ops.toList.drop i=os ∧ ds.reverse=(ops.toList.take i).map (·.dst)
structure XPf (ops:Array Oper) (ds:List (Option Tmp)) (i:Nat) (os:List Oper):Type where
  h:XInv ops ds i os
inductive It where
  | lk (c:Code) (d:Dep c)
  | xops (id:Nat) (ops:Array Oper) (ds:List (Option Tmp)) (i:Nat) (os:List Oper) (pf:XPf ops ds i os)
  | xcall (id:Nat) (ops:Array Oper) (ds:List (Option Tmp)) (i:Nat) (o:Oper) (os:List Oper) (pf:XPf ops ds i (o::os))
  | xdops (id:Nat) (ops:Array Oper) (ds:List (Option Tmp)) (i:Nat) (os:List Oper) (pf:XPf ops ds i os) (acc:List Keys)
  | xdcall (id:Nat) (ops:Array Oper) (ds:List (Option Tmp)) (i:Nat) (o:Oper) (os:List Oper) (pf:XPf ops ds i (o::os)) (acc:List Keys)
  | code (c:Code)
  | ops (id:Nat) (ops:Array Oper) (i:Nat) (os:List Oper)
  | one (id:Nat) (ops:Array Oper) (i:Nat) (o:Oper) (os:List Oper)
  | dops (id:Nat) (ops:Array Oper) (i:Nat) (os:List Oper) (acc:List Keys)
  | done (id:Nat) (ops:Array Oper) (i:Nat) (o:Oper) (os:List Oper) (acc:List Keys)
  | inB (id:Nat)
  | call (id:Nat) (ops:Array Oper) (i:Nat) (o:Oper) (os:List Oper)
  | dcall (id:Nat) (ops:Array Oper) (i:Nat) (o:Oper) (os:List Oper) (acc:List Keys)
def K (P:Program) (C:CallRel) (h0:Heap) (base:Name) (Qf:Ex → List PV → Heap → Prop):List It → Ex → List PV → Heap → Prop
  | [],e,t,h => Qf e t h
  | .inB _::k,.normal,t,h => K P C h0 base Qf k .normal t h
  | .inB id::k,.exit j,t,h => if j=id then K P C h0 base Qf k .normal t h else K P C h0 base Qf k (.exit j) t h
  | .code c::k,.normal,t,h => W P C h0 base c t h (K P C h0 base Qf k)
  | .lk c _::k,.normal,t,h => W P C h0 base c t h (K P C h0 base Qf k)
  | .xops id ops _ i os _::k,.normal,t,h => WOps P C base id ops i os t h (K P C h0 base Qf k .normal)
  | .xcall id ops _ i o os _::k,.normal,t,h => ∃ v h',StepR P C ((id,i)::base) t h o.op v h' ∧ WOps P C base id ops (i + 1) os (putT t o.dst v) h' (K P C h0 base Qf k .normal)
  | .xdops id ops _ i os _ acc::k,.normal,t,h => ∃ effs,drawK ops (acc.reverse ++ effs.map Eff.keys)=true ∧ Effs P C base id ops i os effs t h (K P C h0 base Qf k .normal)
  | .xdcall id ops _ i o os _ acc::k,.normal,t,h => ∃ e effs,LocalR P C ((id,i)::base) t h o.op e ∧ drawK ops (acc.reverse ++ e.keys::effs.map Eff.keys)=true ∧
      Effs P C base id ops (i + 1) os effs (putT t o.dst e.val) (h.ups e.ups) (K P C h0 base Qf k .normal)
  | .ops id ops i os::k,.normal,t,h => WOps P C base id ops i os t h (K P C h0 base Qf k .normal)
  | .one id ops i o os::k,.normal,t,h => ∃ v h',StepR P C ((id,i)::base) t h o.op v h' ∧ WOps P C base id ops (i + 1) os (putT t o.dst v) h' (K P C h0 base Qf k .normal)
  | .dops id ops i os acc::k,.normal,t,h => ∃ effs,drawK ops (acc.reverse ++ effs.map Eff.keys)=true ∧ Effs P C base id ops i os effs t h (K P C h0 base Qf k .normal)
  | .done id ops i o os acc::k,.normal,t,h => ∃ e effs,LocalR P C ((id,i)::base) t h o.op e ∧ drawK ops (acc.reverse ++ e.keys::effs.map Eff.keys)=true ∧
      Effs P C base id ops (i + 1) os effs (putT t o.dst e.val) (h.ups e.ups) (K P C h0 base Qf k .normal)
  | .call id ops i o os::k,.normal,t,h => ∃ v h',StepR P C ((id,i)::base) t h o.op v h' ∧ WOps P C base id ops (i + 1) os (putT t o.dst v) h' (K P C h0 base Qf k .normal)
  | .dcall id ops i o os acc::k,.normal,t,h => ∃ e effs,LocalR P C ((id,i)::base) t h o.op e ∧ drawK ops (acc.reverse ++ e.keys::effs.map Eff.keys)=true ∧
      Effs P C base id ops (i + 1) os effs (putT t o.dst e.val) (h.ups e.ups) (K P C h0 base Qf k .normal)
  | _::k,e,t,h => K P C h0 base Qf k e t h
section
variable {P:Program} {C:CallRel} {h0:Heap} {base:Name} {Qf:Ex → List PV → Heap → Prop} {k:List It} {t:List PV} {h:Heap}
theorem K_nil (e:Ex):K P C h0 base Qf [] e t h=Qf e t h:=rfl
theorem K_ret (it:It):K P C h0 base Qf (it::k) .ret t h=K P C h0 base Qf k .ret t h:=by cases it <;> rfl
theorem K_inB (id:Nat):K P C h0 base Qf (.inB id::k) .normal t h=K P C h0 base Qf k .normal t h:=rfl
theorem K_exit_inB (id j:Nat):K P C h0 base Qf (.inB id::k) (.exit j) t h=if j=id then K P C h0 base Qf k .normal t h else K P C h0 base Qf k (.exit j) t h:=rfl
theorem K_exit_code (c:Code) (j:Nat):K P C h0 base Qf (.code c::k) (.exit j) t h=K P C h0 base Qf k (.exit j) t h:=rfl
theorem K_skip:K P C h0 base Qf (.code .skip::k) .normal t h=K P C h0 base Qf k .normal t h:=rfl
theorem K_seq (a b:Code):K P C h0 base Qf (.code (.seq a b)::k) .normal t h=K P C h0 base Qf (.code a::.code b::k) .normal t h:=by
  show W P C h0 base a t h _=W P C h0 base a t h _
  congr 1
  funext e t' h'
  cases e <;> rfl
variable (P C h0 base Qf) in
def Kif (p:PV) (x y:Code) (k:List It) (t:List PV) (h:Heap):Prop :=
  match p with
  | .i (.v (.bool b)) => if b=true then K P C h0 base Qf (.code x::k) .normal t h else K P C h0 base Qf (.code y::k) .normal t h
  | _ => False
theorem Kif_true (x y:Code):Kif P C h0 base Qf (.i (.v (.bool true))) x y k t h=K P C h0 base Qf (.code x::k) .normal t h:=rfl
theorem Kif_false (x y:Code):Kif P C h0 base Qf (.i (.v (.bool false))) x y k t h=K P C h0 base Qf (.code y::k) .normal t h:=rfl
theorem K_cond (c:Operand) (x y:Code):K P C h0 base Qf (.code (.cond c x y)::k) .normal t h=Kif P C h0 base Qf (St.opnd t c) x y k t h:=rfl
theorem K_block (id:Nat) (b:Code):K P C h0 base Qf (.code (.block id b)::k) .normal t h=K P C h0 base Qf (.code b::.inB id::k) .normal t h:=by
  show W P C h0 base b t h _=W P C h0 base b t h _
  congr 1
  funext e t' h'
  cases e with
  | normal => rfl
  | ret => rfl
  | exit j =>
    rw [K_exit_inB]
    by_cases hj:j=id
    · rw [if_pos hj,if_pos (by rw [hj])]
    · rw [if_neg hj,if_neg (by simpa using hj)]
theorem K_exit (id:Nat):K P C h0 base Qf (.code (.exit id)::k) .normal t h=K P C h0 base Qf k (.exit id) t h:=rfl
theorem K_retc:K P C h0 base Qf (.code .ret::k) .normal t h=K P C h0 base Qf k .ret t h:=rfl
theorem K_region (id:Nat) (ops:Array Oper):K P C h0 base Qf (.code (.region id ops false)::k) .normal t h=K P C h0 base Qf (.ops id ops 0 ops.toList::k) .normal t h:=rfl
theorem K_draw (id:Nat) (ops:Array Oper):K P C h0 base Qf (.code (.region id ops true)::k) .normal t h=K P C h0 base Qf (.dops id ops 0 ops.toList []::k) .normal t h:=by
  show (∃ effs,_ ∧ _)=(∃ effs,_ ∧ _)
  congr 1
  funext effs
  rw [← drawK_eq]; rfl
theorem K_ops_nil (id:Nat) (ops:Array Oper) (i:Nat):K P C h0 base Qf (.ops id ops i []::k) .normal t h=K P C h0 base Qf k .normal t h:=rfl
variable (P C h0 base Qf) in
def Kgrd (g:Option Bool) (id:Nat) (ops:Array Oper) (i:Nat) (o:Oper) (os:List Oper) (k:List It) (t:List PV) (h:Heap):Prop :=
  match g with
  | none => False
  | some g => if g=true then K P C h0 base Qf (.one id ops i o os::k) .normal t h else K P C h0 base Qf (.ops id ops (i + 1) os::k) .normal (putT t o.dst undefP) h
theorem Kgrd_true (id:Nat) (ops:Array Oper) (i:Nat) (o:Oper) (os:List Oper):Kgrd P C h0 base Qf (some true) id ops i o os k t h=K P C h0 base Qf (.one id ops i o os::k) .normal t h:=rfl
theorem Kgrd_false (id:Nat) (ops:Array Oper) (i:Nat) (o:Oper) (os:List Oper):Kgrd P C h0 base Qf (some false) id ops i o os k t h=K P C h0 base Qf (.ops id ops (i + 1) os::k) .normal (putT t o.dst undefP) h:=rfl
theorem K_ops (id:Nat) (ops:Array Oper) (i:Nat) (o:Oper) (os:List Oper):K P C h0 base Qf (.ops id ops i (o::os)::k) .normal t h=Kgrd P C h0 base Qf (guardB ops t o) id ops i o os k t h:=by
  show WOps P C base id ops i (o::os) t h _=_
  unfold WOps Kgrd
  cases guardB ops t o with
  | none => rfl
  | some g => cases g <;> rfl
variable (P C h0 base Qf) in
def Kres (r:Option Out) (id:Nat) (ops:Array Oper) (i:Nat) (o:Oper) (os:List Oper) (k:List It) (t:List PV) (h:Heap):Prop :=
  match r with
  | some out => K P C h0 base Qf (.ops id ops (i + 1) os::k) .normal (putT t o.dst out.val) (h.ups out.ups)
  | none => False
theorem Kres_some (v:PV) (us:List (Name × Box)) (id:Nat) (ops:Array Oper) (i:Nat) (o:Oper) (os:List Oper):Kres P C h0 base Qf (some ⟨v,us⟩) id ops i o os k t h=K P C h0 base Qf (.ops id ops (i + 1) os::k) .normal (putT t o.dst v) (h.ups us):=rfl
def callB:Op → Bool
  | .call { callee:=.value _,.. } => true
  | _ => false
theorem calleeOf_none {c:Call} (hc:callB (.call c)=false) (t:List PV):calleeOf t c=none:=by
  obtain ⟨callee,args,ts⟩:=c
  cases callee <;> first|rfl|simp [callB] at hc
theorem callX_call {c:Call} (hc:callX (.call c)=false):callB (.call c)=false:=by
  obtain ⟨callee,args,ts⟩:=c
  cases callee with
  | value f => cases hc
  | _ => rfl
theorem K_one_op (id:Nat) (ops:Array Oper) (i:Nat) (o:Oper) (os:List Oper) (hc:callX o.op=false):K P C h0 base Qf (.one id ops i o os::k) .normal t h =
    match stepOp P h ((id,i)::base) (St.opnd t) o.op with
    | some out => K P C h0 base Qf (.ops id ops (i + 1) os::k) .normal (putT t o.dst out.val) (h.ups out.ups)
    | none => False:=by
  show (∃ v h',_ ∧ _)=_
  apply propext
  constructor
  · rintro ⟨v,h',hs|⟨s',out,hx,_⟩|⟨c,g,args,ho,hcal,_⟩,hw⟩
    · obtain ⟨out,hs,rfl,rfl⟩:=hs
      rw [hs]; exact hw
    · rw [hc] at hx; cases hx
    · rw [ho] at hc
      rw [calleeOf_none (callX_call hc)] at hcal; cases hcal
  · intro hw
    split at hw
    · rename_i out hs
      exact ⟨_,_,.inl ⟨out,hs,rfl,rfl⟩,hw⟩
    · exact hw.elim
theorem K_dops_nil (id:Nat) (ops:Array Oper) (i:Nat) (acc:List Keys):K P C h0 base Qf (.dops id ops i [] acc::k) .normal t h=(drawK ops acc.reverse=true ∧ K P C h0 base Qf k .normal t h):=by
  show (∃ effs,_ ∧ _)=_
  apply propext
  constructor
  · rintro ⟨effs,h1,h2⟩
    cases effs with
    | nil => simp only [List.map_nil,List.append_nil] at h1; exact ⟨h1,h2⟩
    | cons e es => exact h2.elim
  · rintro ⟨h1,h2⟩
    exact ⟨[],by simpa using h1,h2⟩
variable (P C h0 base Qf) in
def Kdgrd (g:Option Bool) (id:Nat) (ops:Array Oper) (i:Nat) (o:Oper) (os:List Oper) (acc:List Keys) (k:List It) (t:List PV) (h:Heap):Prop :=
  match g with
  | none => False
  | some g => if g=true then K P C h0 base Qf (.done id ops i o os acc::k) .normal t h else K P C h0 base Qf (.dops id ops (i + 1) os (([],[])::acc)::k) .normal (putT t o.dst undefP) h
theorem Kdgrd_true (id:Nat) (ops:Array Oper) (i:Nat) (o:Oper) (os:List Oper) (acc:List Keys):Kdgrd P C h0 base Qf (some true) id ops i o os acc k t h=K P C h0 base Qf (.done id ops i o os acc::k) .normal t h:=rfl
theorem Kdgrd_false (id:Nat) (ops:Array Oper) (i:Nat) (o:Oper) (os:List Oper) (acc:List Keys):Kdgrd P C h0 base Qf (some false) id ops i o os acc k t h=K P C h0 base Qf (.dops id ops (i + 1) os (([],[])::acc)::k) .normal (putT t o.dst undefP) h:=rfl
theorem K_dops (id:Nat) (ops:Array Oper) (i:Nat) (o:Oper) (os:List Oper) (acc:List Keys):K P C h0 base Qf (.dops id ops i (o::os) acc::k) .normal t h =
    Kdgrd P C h0 base Qf (guardB ops t o) id ops i o os acc k t h:=by
  show (∃ effs,_ ∧ _)=_
  unfold Kdgrd
  apply propext
  constructor
  · rintro ⟨effs,h1,h2⟩
    cases effs with
    | nil => exact h2.elim
    | cons e es =>
      obtain ⟨h2,h3⟩:=h2
      unfold EffR at h2
      cases hg:guardB ops t o with
      | none => rw [hg] at h2; exact h2
      | some g =>
        rw [hg] at h2
        cases g with
        | true => simp only [if_true]; exact ⟨e,es,h2,by simpa using h1,h3⟩
        | false =>
          simp only [Bool.false_eq_true,if_false]
          subst h2
          exact ⟨es,by simpa [Eff.keys] using h1,h3⟩
  · intro hw
    cases hg:guardB ops t o with
    | none => rw [hg] at hw; exact hw.elim
    | some g =>
      rw [hg] at hw
      cases g with
      | true =>
        simp only [if_true] at hw
        obtain ⟨e,es,h1,h2,h3⟩:=hw
        exact ⟨e::es,by simpa using h2,by unfold EffR; rw [hg]; exact h1,h3⟩
      | false =>
        simp only [Bool.false_eq_true,if_false] at hw
        obtain ⟨es,h1,h2⟩:=hw
        exact ⟨⟨undefP,[],[]⟩::es,by simpa [Eff.keys] using h1,by unfold EffR; rw [hg],h2⟩
variable (P C h0 base Qf) in
def Kdres (r:Option Out) (id:Nat) (ops:Array Oper) (i:Nat) (o:Oper) (os:List Oper) (acc:List Keys) (k:List It) (t:List PV) (h:Heap):Prop :=
  match r with
  | some out => K P C h0 base Qf (.dops id ops (i + 1) os ((out.ups.map fun u => keyN u.1,(((id,i)::base)::touchL o.op (opndsP t o.op)).map keyN)::acc)::k) .normal (putT t o.dst out.val) (h.ups out.ups)
  | none => False
theorem Kdres_some (v:PV) (us:List (Name × Box)) (id:Nat) (ops:Array Oper) (i:Nat) (o:Oper) (os:List Oper) (acc:List Keys):Kdres P C h0 base Qf (some ⟨v,us⟩) id ops i o os acc k t h =
    K P C h0 base Qf (.dops id ops (i + 1) os ((us.map fun u => keyN u.1,(((id,i)::base)::touchL o.op (opndsP t o.op)).map keyN)::acc)::k) .normal (putT t o.dst v) (h.ups us):=rfl
theorem K_done_op (id:Nat) (ops:Array Oper) (i:Nat) (o:Oper) (os:List Oper) (acc:List Keys) (hc:callX o.op=false):K P C h0 base Qf (.done id ops i o os acc::k) .normal t h =
    match stepOp P h ((id,i)::base) (St.opnd t) o.op with
    | some out => K P C h0 base Qf (.dops id ops (i + 1) os ((out.ups.map fun u => keyN u.1,(((id,i)::base)::touchL o.op (opndsP t o.op)).map keyN)::acc)::k) .normal (putT t o.dst out.val) (h.ups out.ups)
    | none => False:=by
  show (∃ e effs,_ ∧ _ ∧ _)=_
  apply propext
  constructor
  · rintro ⟨e,effs,hs|⟨s',out,hx,_⟩|⟨c,g,args,v,us,ho,hcal,_⟩,h1,h2⟩
    · obtain ⟨out,hs,rfl⟩:=hs
      rw [hs]
      exact ⟨effs,by simpa [Eff.keys] using h1,h2⟩
    · rw [hc] at hx; cases hx
    · rw [ho] at hc
      rw [calleeOf_none (callX_call hc)] at hcal; cases hcal
  · intro hw
    split at hw
    · rename_i out hs
      obtain ⟨effs,h1,h2⟩:=hw
      exact ⟨⟨out.val,out.ups,_⟩,effs,.inl ⟨out,hs,rfl⟩,by simpa [Eff.keys] using h1,h2⟩
    · exact hw.elim
variable (P C h0 base Qf) in
def Kone (b:Bool) (id:Nat) (ops:Array Oper) (i:Nat) (o:Oper) (os:List Oper) (k:List It) (t:List PV) (h:Heap):Prop :=
  if b=true then K P C h0 base Qf (.call id ops i o os::k) .normal t h else Kres P C h0 base Qf (stepOp P h ((id,i)::base) (St.opnd t) o.op) id ops i o os k t h
theorem Kone_call (id:Nat) (ops:Array Oper) (i:Nat) (o:Oper) (os:List Oper):Kone P C h0 base Qf true id ops i o os k t h=K P C h0 base Qf (.call id ops i o os::k) .normal t h:=rfl
theorem Kone_op (id:Nat) (ops:Array Oper) (i:Nat) (o:Oper) (os:List Oper):Kone P C h0 base Qf false id ops i o os k t h=Kres P C h0 base Qf (stepOp P h ((id,i)::base) (St.opnd t) o.op) id ops i o os k t h:=rfl
theorem K_one (id:Nat) (ops:Array Oper) (i:Nat) (o:Oper) (os:List Oper):K P C h0 base Qf (.one id ops i o os::k) .normal t h=Kone P C h0 base Qf (callX o.op) id ops i o os k t h:=by
  unfold Kone
  by_cases hc:callX o.op=true
  · rw [if_pos hc]; rfl
  · rw [if_neg hc,K_one_op _ _ _ _ _ (by simpa using hc)]; rfl
variable (P C h0 base Qf) in
def Kdone (b:Bool) (id:Nat) (ops:Array Oper) (i:Nat) (o:Oper) (os:List Oper) (acc:List Keys) (k:List It) (t:List PV) (h:Heap):Prop :=
  if b=true then K P C h0 base Qf (.dcall id ops i o os acc::k) .normal t h else Kdres P C h0 base Qf (stepOp P h ((id,i)::base) (St.opnd t) o.op) id ops i o os acc k t h
theorem Kdone_call (id:Nat) (ops:Array Oper) (i:Nat) (o:Oper) (os:List Oper) (acc:List Keys):Kdone P C h0 base Qf true id ops i o os acc k t h=K P C h0 base Qf (.dcall id ops i o os acc::k) .normal t h:=rfl
theorem Kdone_op (id:Nat) (ops:Array Oper) (i:Nat) (o:Oper) (os:List Oper) (acc:List Keys):Kdone P C h0 base Qf false id ops i o os acc k t h=Kdres P C h0 base Qf (stepOp P h ((id,i)::base) (St.opnd t) o.op) id ops i o os acc k t h:=rfl
theorem K_done (id:Nat) (ops:Array Oper) (i:Nat) (o:Oper) (os:List Oper) (acc:List Keys):K P C h0 base Qf (.done id ops i o os acc::k) .normal t h=Kdone P C h0 base Qf (callX o.op) id ops i o os acc k t h:=by
  unfold Kdone
  by_cases hc:callX o.op=true
  · rw [if_pos hc]; rfl
  · rw [if_neg hc,K_done_op _ _ _ _ _ _ (by simpa using hc)]; rfl
def CallsP (P:Program) (g:FuncId) (args:List PV) (v:PV):Prop:=∀ base,∃ u hu,CallR P base g args Heap.none u hu ∧ lowerT hu u=some v
theorem K_call_pure {id : Nat} {ops : Array Oper} {i : Nat} {o : Oper} {os : List Oper} {c : Call} {g : FuncId} {args largs : List PV} {v : PV} (hs : CallsP P g largs v) (ho : o.op = .call c) (hcal : calleeOf t c = some (g, args)) (he : enterB P g = true)
    (hl:mapO (lowerA h) args=some largs)
    (hk:K P (CallR P) h0 base Qf (.ops id ops (i + 1) os::k) .normal (putT t o.dst v) (h.ups (if scalT v then [] else freezeOf h (args.flatMap boxesA)))) :
    K P (CallR P) h0 base Qf (.call id ops i o os::k) .normal t h:=by
  obtain ⟨u,hu,h1,h2⟩:=hs ((id,i)::base)
  exact ⟨v,_,.inr (.inr ⟨c,g,args,ho,hcal,he,.inr ⟨_,.inl ⟨largs,u,hu,hl,h1,h2,rfl⟩,rfl⟩⟩),hk⟩
theorem K_call_shared {id : Nat} {ops : Array Oper} {i : Nat} {o : Oper} {os : List Oper} {c : Call} {g : FuncId} {args : List PV} {v : PV} {h' : Heap} (hs : CallR P ((id, i) :: base) g args h v h') (ho : o.op = .call c) (hcal : calleeOf t c = some (g, args)) (he : enterB P g = true)
    (hk:K P (CallR P) h0 base Qf (.ops id ops (i + 1) os::k) .normal (putT t o.dst v) h') :
    K P (CallR P) h0 base Qf (.call id ops i o os::k) .normal t h :=
  ⟨v,_,.inr (.inr ⟨c,g,args,ho,hcal,he,.inl hs⟩),hk⟩
theorem K_dcall_pure {id : Nat} {ops : Array Oper} {i : Nat} {o : Oper} {os : List Oper} {acc : List Keys} {c : Call} {g : FuncId} {args largs : List PV} {v : PV} (hs : CallsP P g largs v) (ho : o.op = .call c) (hcal : calleeOf t c = some (g, args)) (he : enterB P g = true)
    (hl:mapO (lowerA h) args=some largs)
    (hk:K P (CallR P) h0 base Qf (.dops id ops (i + 1) os (((if scalT v then [] else freezeOf h (args.flatMap boxesA)).map fun u => keyN u.1,(((id,i)::base)::(args.flatMap boxesA ++ refsL (opndsP t o.op))).map keyN)::acc)::k) .normal (putT t o.dst v)
      (h.ups (if scalT v then [] else freezeOf h (args.flatMap boxesA)))) :
    K P (CallR P) h0 base Qf (.dcall id ops i o os acc::k) .normal t h:=by
  obtain ⟨u,hu,h1,h2⟩:=hs ((id,i)::base)
  obtain ⟨effs,h3,h4⟩:=hk
  refine ⟨⟨v,_,_⟩,effs,.inr (.inr ⟨c,g,args,v,_,ho,hcal,he,.inl ⟨largs,u,hu,hl,h1,h2,rfl⟩,rfl⟩),?_,h4⟩
  simpa [Eff.keys] using h3
def CallsA (P:Program) (g:FuncId) (args:List PV) (vf:Name → PV) (cs:List IV):Prop:=∀ base,∃ b u hu,CallR P base g args Heap.none u hu ∧ hu b=some (.row false cs) ∧ ∀ s,adoptT hu b s u=some (vf s)
theorem forget_nil {ks:List Bool} (hl:ks.length=t.length):Forget h0 t h ks []:=⟨hl,fun b hb => by simp at hb,fun b hb => by simp at hb,fun c cs _ b hb => by simp at hb⟩
theorem drop_nil (h:Heap):h.drop []=h:=by funext c; simp [Heap.drop]
def Again (h0:Heap) (ks:List Bool) (bs:List Name) (n:Nat) (It:Nat → List PV × Heap) (j:Nat) (t:List PV) (h:Heap):Prop :=
  j < n ∧ Forget h0 t h ks bs ∧ keepT ks t=(It (j + 1)).1 ∧ h.drop bs=(It (j + 1)).2
def Round (P:Program) (C:CallRel) (h0:Heap) (base:Name) (Qf:Ex → List PV → Heap → Prop) (k:List It) (ks:List Bool) (bs:List Name) (n:Nat) (It:Nat → List PV × Heap) (j:Nat):Ex → List PV → Heap → Prop
  | .normal,t,h => Again h0 ks bs n It j t h
  | e,t,h => K P C h0 base Qf k e t h
theorem Round_normal {ks:List Bool} {bs:List Name} {n:Nat} {It:Nat → List PV × Heap} {j:Nat}:Round P C h0 base Qf k ks bs n It j .normal t h=Again h0 ks bs n It j t h:=rfl
theorem Round_exit {ks:List Bool} {bs:List Name} {n:Nat} {It:Nat → List PV × Heap} {j id:Nat}:Round P C h0 base Qf k ks bs n It j (.exit id) t h=K P C h0 base Qf k (.exit id) t h:=rfl
theorem Round_ret {ks:List Bool} {bs:List Name} {n:Nat} {It:Nat → List PV × Heap} {j:Nat}:Round P C h0 base Qf k ks bs n It j .ret t h=K P C h0 base Qf k .ret t h:=rfl
theorem wmono (c:Code) {t:List PV} {h:Heap} {Q Q':Ex → List PV → Heap → Prop} (hw:W P C h0 base c t h Q) (hq:∀ e t h,Q e t h → Q' e t h):W P C h0 base c t h Q' :=
  W_mono (fun _ _ _ _ _ _ h => h) c t h hq hw
def AgainI (h0:Heap) (ks:List Bool) (bs:List Name) (I:Nat → List PV → Heap → Prop) (j:Nat) (t:List PV) (h:Heap):Prop :=
  ∃ i,j=i + 1 ∧ Forget h0 t h ks bs ∧ I i (keepT ks t) (h.drop bs)
def RoundI (P:Program) (C:CallRel) (h0:Heap) (base:Name) (Qf:Ex → List PV → Heap → Prop) (k:List It) (ks:List Bool) (bs:List Name) (I:Nat → List PV → Heap → Prop) (j:Nat):Ex → List PV → Heap → Prop
  | .normal,t,h => AgainI h0 ks bs I j t h
  | e,t,h => K P C h0 base Qf k e t h
theorem RoundI_normal {ks:List Bool} {bs:List Name} {I:Nat → List PV → Heap → Prop} {j:Nat}:RoundI P C h0 base Qf k ks bs I j .normal t h=AgainI h0 ks bs I j t h:=rfl
theorem RoundI_exit {ks:List Bool} {bs:List Name} {I:Nat → List PV → Heap → Prop} {j id:Nat}:RoundI P C h0 base Qf k ks bs I j (.exit id) t h=K P C h0 base Qf k (.exit id) t h:=rfl
theorem RoundI_ret {ks:List Bool} {bs:List Name} {I:Nat → List PV → Heap → Prop} {j:Nat}:RoundI P C h0 base Qf k ks bs I j .ret t h=K P C h0 base Qf k .ret t h:=rfl
theorem K_loopI {b : Code} (ks : List Bool) (bs : List Name) (n : Nat) (I : Nat → List PV → Heap → Prop) (h1 : Forget h0 t h ks bs) (h2 : I n (keepT ks t) (h.drop bs))
    (hr:∀ j t h,I j t h → K P C h0 base (RoundI P C h0 base Qf k ks bs I j) [.code b] .normal t h):K P C h0 base Qf (.code (.loop b)::k) .normal t h:=by
  have key:∀ j t h,Forget h0 t h ks bs → I j (keepT ks t) (h.drop bs) → WLoop h0 (W P C h0 base b) ks bs (j + 1) t h (K P C h0 base Qf k):=by
    intro d
    induction d with
    | zero =>
      intro t h hf hi
      refine ⟨hf,?_⟩
      refine wmono _ (hr 0 _ _ hi) fun e t' h' hq => ?_
      cases e with
      | normal => obtain ⟨i,hi,_⟩:AgainI h0 ks bs I 0 t' h':=hq; omega
      | exit id => exact hq
      | ret => exact hq
    | succ d ih =>
      intro t h hf hi
      refine ⟨hf,?_⟩
      refine wmono _ (hr (d + 1) _ _ hi) fun e t' h' hq => ?_
      cases e with
      | normal =>
        obtain ⟨i,hi,hf',hn⟩:AgainI h0 ks bs I (d + 1) t' h':=hq
        have:d=i:=by omega
        subst this
        exact ih t' h' hf' hn
      | exit id => exact hq
      | ret => exact hq
  exact ⟨n + 1,ks,bs,key n t h h1 h2⟩
def RoundX (P:Program) (C:CallRel) (h0:Heap) (base:Name) (Qf:Ex → List PV → Heap → Prop) (k:List It) (ks:List Bool) (bs:List Name) (I:Nat → List PV → Heap → Prop) (x:Nat) (E:List PV → Heap → Prop) (j:Nat):Ex → List PV → Heap → Prop
  | .normal,t,h => AgainI h0 ks bs I j t h
  | .exit id,t,h => if id=x then E t h else K P C h0 base Qf k (.exit id) t h
  | e,t,h => K P C h0 base Qf k e t h
theorem RoundX_normal {ks:List Bool} {bs:List Name} {I:Nat → List PV → Heap → Prop} {x:Nat} {E:List PV → Heap → Prop} {j:Nat}:RoundX P C h0 base Qf k ks bs I x E j .normal t h=AgainI h0 ks bs I j t h:=rfl
theorem RoundX_exit {ks:List Bool} {bs:List Name} {I:Nat → List PV → Heap → Prop} {x:Nat} {E:List PV → Heap → Prop} {j id:Nat}:RoundX P C h0 base Qf k ks bs I x E j (.exit id) t h=if id=x then E t h else K P C h0 base Qf k (.exit id) t h:=rfl
theorem RoundX_ret {ks:List Bool} {bs:List Name} {I:Nat → List PV → Heap → Prop} {x:Nat} {E:List PV → Heap → Prop} {j:Nat}:RoundX P C h0 base Qf k ks bs I x E j .ret t h=K P C h0 base Qf k .ret t h:=rfl
theorem K_mono {k:List It} {e:Ex} {t:List PV} {h:Heap} {Q Q':Ex → List PV → Heap → Prop} {b:Code} (hq:∀ e t h,Q e t h → Q' e t h) (hk:K P C h0 base Q [.code b] .normal t h):K P C h0 base Q' [.code b] .normal t h :=
  wmono b hk hq
theorem K_loopX {b : Code} (ks : List Bool) (bs : List Name) (n : Nat) (I : Nat → List PV → Heap → Prop) (x : Nat) (E : List PV → Heap → Prop) (h1 : Forget h0 t h ks bs) (h2 : I n (keepT ks t) (h.drop bs))
    (hr:∀ j t h,I j t h → K P C h0 base (RoundX P C h0 base Qf k ks bs I x E j) [.code b] .normal t h) (hx:∀ t h,E t h → K P C h0 base Qf k (.exit x) t h):K P C h0 base Qf (.code (.loop b)::k) .normal t h:=by
  refine K_loopI ks bs n I h1 h2 fun j t h hi => K_mono (e:=.normal) (k:=[]) (fun e t h hq => ?_) (hr j t h hi)
  cases e with
  | normal => exact hq
  | ret => exact hq
  | exit id =>
    rw [RoundX_exit] at hq
    show K P C h0 base Qf k (.exit id) t h
    by_cases e:id=x
    · rw [if_pos e] at hq; subst e; exact hx t h hq
    · rw [if_neg e] at hq; exact hq
def Shape (T:(Nat → PV) → List PV) (t:List PV):Prop:=∃ f,t=T f
theorem Shape.of {T:(Nat → PV) → List PV} {t:List PV} (h:t=T (fun i => t.getD i undefP)):Shape T t:=⟨_,h⟩
end
section
variable {P:Program} {C:CallRel} {h0:Heap} {base:Name}
theorem WOps_point {id:Nat} {ops:Array Oper}:∀ (os:List Oper) (i:Nat) (t:List PV) (h:Heap) {Q:List PV → Heap → Prop},WOps P C base id ops i os t h Q → ∃ t' h',Q t' h' ∧ WOps P C base id ops i os t h fun t2 h2 => t2=t' ∧ h2=h'
  | [],i,t,h,Q,hw => ⟨t,h,hw,rfl,rfl⟩
  | o::os,i,t,h,Q,hw => by
    unfold WOps at hw ⊢
    split at hw
    · exact hw.elim
    · exact WOps_point os (i + 1) _ _ hw
    · obtain ⟨v,h',hs,hw⟩:=hw
      obtain ⟨t',h2,hq,hw'⟩:=WOps_point os (i + 1) _ _ hw
      exact ⟨t',h2,hq,v,h',hs,hw'⟩
theorem Effs_point {id:Nat} {ops:Array Oper}:∀ (os:List Oper) (es:List Eff) (i:Nat) (t:List PV) (h:Heap) {Q:List PV → Heap → Prop},Effs P C base id ops i os es t h Q → ∃ t' h',Q t' h' ∧ Effs P C base id ops i os es t h fun t2 h2 => t2=t' ∧ h2=h'
  | [],[],i,t,h,Q,hw => ⟨t,h,hw,rfl,rfl⟩
  | o::os,e::es,i,t,h,Q,hw => by
    obtain ⟨t',h2,hq,hw'⟩:=Effs_point os es (i + 1) _ _ hw.2
    exact ⟨t',h2,hq,hw.1,hw'⟩
  | [],_::_,_,_,_,_,hw => hw.elim
  | _::_,[],_,_,_,_,hw => hw.elim
theorem W_point:∀ (c:Code) (t:List PV) (h:Heap) {Q:Ex → List PV → Heap → Prop},W P C h0 base c t h Q → ∃ e t' h',Q e t' h' ∧ W P C h0 base c t h fun e2 t2 h2 => e2=e ∧ t2=t' ∧ h2=h':=by
  intro c
  induction c with
  | skip => intro t h Q hw; exact ⟨_,_,_,hw,rfl,rfl,rfl⟩
  | exit id => intro t h Q hw; exact ⟨_,_,_,hw,rfl,rfl,rfl⟩
  | ret => intro t h Q hw; exact ⟨_,_,_,hw,rfl,rfl,rfl⟩
  | region id ops draw =>
    intro t h Q hw
    unfold W at hw ⊢
    split at hw
    · rename_i hd
      obtain ⟨effs,h1,h2⟩:=hw
      obtain ⟨t',h',hq,h3⟩:=Effs_point _ _ _ _ _ h2
      refine ⟨.normal,t',h',hq,?_⟩
      rw [if_pos hd]
      exact ⟨effs,h1,Effs_mono (fun _ _ _ _ _ _ h => h) _ _ _ _ _ (fun t2 h2 he => ⟨rfl,he⟩) h3⟩
    · rename_i hd
      obtain ⟨t',h',hq,h3⟩:=WOps_point _ _ _ _ hw
      refine ⟨.normal,t',h',hq,?_⟩
      rw [if_neg hd]
      exact WOps_mono (fun _ _ _ _ _ _ h => h) _ _ _ _ (fun t2 h2 he => ⟨rfl,he⟩) h3
  | seq a b iha ihb =>
    intro t h Q hw
    obtain ⟨e,t',h',hq,hw'⟩:=iha t h hw
    cases e with
    | normal =>
      obtain ⟨e2,t2,h2,hq2,hw2⟩:=ihb t' h' hq
      refine ⟨e2,t2,h2,hq2,W_mono (fun _ _ _ _ _ _ h => h) a _ _ (fun e3 t3 h3 he => ?_) hw'⟩
      obtain ⟨rfl,rfl,rfl⟩:=he
      exact hw2
    | exit id =>
      refine ⟨.exit id,t',h',hq,W_mono (fun _ _ _ _ _ _ h => h) a _ _ (fun e3 t3 h3 he => ?_) hw'⟩
      obtain ⟨rfl,rfl,rfl⟩:=he
      exact ⟨rfl,rfl,rfl⟩
    | ret =>
      refine ⟨.ret,t',h',hq,W_mono (fun _ _ _ _ _ _ h => h) a _ _ (fun e3 t3 h3 he => ?_) hw'⟩
      obtain ⟨rfl,rfl,rfl⟩:=he
      exact ⟨rfl,rfl,rfl⟩
  | cond c x y ihx ihy =>
    intro t h Q hw
    unfold W at hw ⊢
    split at hw
    · rename_i b hb
      split at hw
      · rename_i hbt
        obtain ⟨e,t',h',hq,hw'⟩:=ihx t h hw
        exact ⟨e,t',h',hq,by rw [if_pos hbt]; exact hw'⟩
      · rename_i hbt
        obtain ⟨e,t',h',hq,hw'⟩:=ihy t h hw
        exact ⟨e,t',h',hq,by rw [if_neg hbt]; exact hw'⟩
    · exact hw.elim
  | block id b ih =>
    intro t h Q hw
    obtain ⟨e,t',h',hq,hw'⟩:=ih t h hw
    by_cases he:e=.exit id
    · rw [if_pos he] at hq
      refine ⟨.normal,t',h',hq,W_mono (fun _ _ _ _ _ _ h => h) b _ _ (fun e3 t3 h3 hh => ?_) hw'⟩
      obtain ⟨rfl,rfl,rfl⟩:=hh
      rw [if_pos he]; exact ⟨rfl,rfl,rfl⟩
    · rw [if_neg he] at hq
      refine ⟨e,t',h',hq,W_mono (fun _ _ _ _ _ _ h => h) b _ _ (fun e3 t3 h3 hh => ?_) hw'⟩
      obtain ⟨rfl,rfl,rfl⟩:=hh
      rw [if_neg he]; exact ⟨rfl,rfl,rfl⟩
  | loop b ih =>
    intro t h Q hw
    obtain ⟨n,ks,bs,hw⟩:=hw
    have key:∀ (n:Nat) (t:List PV) (h:Heap),WLoop h0 (W P C h0 base b) ks bs n t h Q → ∃ e t' h',Q e t' h' ∧ WLoop h0 (W P C h0 base b) ks bs n t h fun e2 t2 h2 => e2=e ∧ t2=t' ∧ h2=h':=by
      intro n
      induction n with
      | zero => intro t h hw; exact hw.elim
      | succ n ihn =>
        intro t h hw
        obtain ⟨hf,hw⟩:=hw
        obtain ⟨e,t',h',hq,hw'⟩:=ih _ _ hw
        cases e with
        | normal =>
          obtain ⟨e2,t2,h2,hq2,hw2⟩:=ihn t' h' hq
          refine ⟨e2,t2,h2,hq2,hf,W_mono (fun _ _ _ _ _ _ h => h) b _ _ (fun e3 t3 h3 hh => ?_) hw'⟩
          obtain ⟨rfl,rfl,rfl⟩:=hh
          exact hw2
        | exit id =>
          refine ⟨.exit id,t',h',hq,hf,W_mono (fun _ _ _ _ _ _ h => h) b _ _ (fun e3 t3 h3 hh => ?_) hw'⟩
          obtain ⟨rfl,rfl,rfl⟩:=hh
          exact ⟨rfl,rfl,rfl⟩
        | ret =>
          refine ⟨.ret,t',h',hq,hf,W_mono (fun _ _ _ _ _ _ h => h) b _ _ (fun e3 t3 h3 hh => ?_) hw'⟩
          obtain ⟨rfl,rfl,rfl⟩:=hh
          exact ⟨rfl,rfl,rfl⟩
    obtain ⟨e,t',h',hq,hw'⟩:=key n t h hw
    exact ⟨e,t',h',hq,n,ks,bs,hw'⟩
  | rangeFunc g ps assign body _ _ => intro t h Q hw; obtain ⟨hn,t',h',hr,hq⟩:=hw; exact ⟨.normal,t',h',hq,hn,t',h',hr,rfl,rfl,rfl⟩
  | _ => intro t h Q hw; exact hw.elim
end
theorem CallR.walk {P : Program} {base : Name} {f : FuncId} {fn : Func} {c : Code} {args : List PV} {h : Heap} {v : PV} {h' : Heap} (hf : P.funcs[f]? = some fn) (hb : fn.body = some c)
    (hw:K P (CallR P) h base (fun e t hh => (e=.normal ∨ e=.ret) ∧ resultsB P fn t hh=some v ∧ hh=h') [.code c] .normal (initT fn args) h):CallR P base f args h v h' :=
  CallR.intro hf hb (W_mono (fun _ _ _ _ _ _ h => h) c _ _ (fun _ _ _ hq => hq) hw)
def resB (P:Program) (rs:List ResultVar) (t:List PV) (h:Heap):Option PV :=
  match mapO (resVar P t h) rs with
  | some [x] => some x
  | some xs => some (.tup xs)
  | none => none
theorem CallsP.walk {P : Program} {f : FuncId} {fn : Func} {c : Code} {args : List PV} {v : PV} (hf : P.funcs[f]? = some fn) (hb : fn.body = some c)
    (hw:∀ base,K P (CallR P) Heap.none base (fun e t hh => (e=.normal ∨ e=.ret) ∧ (resultsB P fn t hh).bind (lowerT hh)=some v) [.code c] .normal (initT fn args) Heap.none):CallsP P f args v:=by
  intro base
  obtain ⟨e,t',h',⟨he,hr⟩,hw'⟩:=W_point c _ _ (hw base)
  cases hu:resultsB P fn t' h' with
  | none => rw [hu] at hr; cases hr
  | some u =>
    rw [hu] at hr
    refine ⟨u,h',CallR.intro hf hb (W_mono (fun _ _ _ _ _ _ h => h) c _ _ (fun e2 t2 h2 hh => ?_) hw'),hr⟩
    obtain ⟨rfl,rfl,rfl⟩:=hh
    exact ⟨he,hu,rfl⟩
theorem CallsP.start {P : Program} {f : FuncId} {fn : Func} {c : Code} {args : List PV} {v : PV} {n : Nat} {rs : List ResultVar} (hf : P.funcs[f]? = some fn) (hb : fn.body = some c) (hn : fn.ntmps = n) (hrs : fn.results.toList = rs)
    (hw:∀ base,K P (CallR P) Heap.none base (fun e t hh => (e=.normal ∨ e=.ret) ∧ (resB P rs t hh).bind (lowerT hh)=some v) [.code c] .normal (args ++ List.replicate (n - args.length) undefP) Heap.none):CallsP P f args v:=by
  subst hn; subst hrs
  exact CallsP.walk hf hb hw
theorem CallR.start {P : Program} {base : Name} {f : FuncId} {fn : Func} {c : Code} {args : List PV} {h : Heap} {v : PV} {h' : Heap} {n : Nat} {rs : List ResultVar} (hf : P.funcs[f]? = some fn) (hb : fn.body = some c) (hn : fn.ntmps = n) (hrs : fn.results.toList = rs)
    (hw:K P (CallR P) h base (fun e t hh => (e=.normal ∨ e=.ret) ∧ resB P rs t hh=some v ∧ hh=h') [.code c] .normal (args ++ List.replicate (n - args.length) undefP) h):CallR P base f args h v h':=by
  subst hn; subst hrs
  exact CallR.walk hf hb hw
def sim0 :=
  And.intro @List.getElem?_toArray.{0}<|And.intro @RoundX_normal<|And.intro @RoundX_exit<|And.intro @RoundX_ret<|And.intro @RoundI_normal<|And.intro @RoundI_exit<|And.intro @RoundI_ret<|And.intro @Round_normal<|And.intro @Round_exit<|And.intro @Round_ret<|And.intro @K_seq<|And.intro @K_region<|And.intro @K_draw<|And.intro @K_skip<|And.intro @K_cond<|And.intro @Kif_true<|And.intro @Kif_false<|And.intro @K_block<|And.intro @K_exit<|And.intro @K_exit_inB<|And.intro @K_exit_code<|And.intro @K_retc<|And.intro @K_ret<|@K_inB
def sim1 :=
  And.intro @K_nil<|And.intro @K_ops<|And.intro @Kgrd_true<|And.intro @Kgrd_false<|And.intro @K_one<|And.intro @Kone_call<|And.intro @Kone_op<|And.intro @Kres_some<|And.intro @K_ops_nil<|And.intro @K_dops<|And.intro @K_dops_nil<|And.intro @Kdgrd_true<|And.intro @Kdgrd_false<|And.intro @K_done<|And.intro @Kdone_call<|And.intro @Kdone_op<|And.intro @List.getD_cons_succ.{0}<|And.intro @List.getD_cons_zero.{0}<|And.intro @List.set_cons_succ.{0}<|And.intro @List.set_cons_zero.{0}<|And.intro @List.getElem?_cons_succ.{0}<|And.intro @List.getElem?_cons_zero.{0}<|@List.getElem?_nil.{0}
def sim2 :=
  And.intro @Option.bind_some.{0,0}<|And.intro @Option.map_some.{0,0}<|And.intro @if_true.{1}<|And.intro @if_false.{1}<|And.intro @Heap.ups_nil<|And.intro @Heap.ups_cons<|And.intro @List.map_cons.{0,0}<|And.intro @List.map_nil.{0,0}<|And.intro @gt_iff_lt.{0}<|And.intro @ge_iff_le.{0}<|And.intro @decide_true<|And.intro @decide_false<|And.intro @Bool.false_eq_true<|And.intro @Bool.not_true<|And.intro @Bool.not_false<|And.intro @Int.natCast_nonneg<|And.intro @Int.toNat_natCast<|And.intro @Option.isSome_some.{0}<|And.intro @List.getElem?_map.{0,0}<|And.intro @and_true<|And.intro @true_and<|And.intro @and_self<|And.intro @Nat.mul_one<|@Nat.zero_add
def sim3 :=
  And.intro @Nat.add_zero<|And.intro @Nat.one_mul<|And.intro @List.all_cons.{0}<|And.intro @List.all_nil.{0}<|And.intro @Bool.and_self<|And.intro @Bool.and_true<|And.intro @Bool.true_and<|And.intro @List.length_cons.{0}<|And.intro @List.length_nil.{0}<|And.intro @List.nil_append.{0}<|And.intro @List.cons_append.{0}<|And.intro @List.take_zero.{0}<|And.intro @List.take_succ_cons.{0}<|And.intro @List.drop_zero.{0}<|And.intro @List.drop_succ_cons.{0}<|And.intro @List.take_nil.{0}<|And.intro @List.drop_nil.{0}<|And.intro @beq_self_eq_true.{0}<|And.intro @beq_true<|And.intro @beq_false<|And.intro @ne_eq.{1}<|And.intro @not_false_eq_true<|And.intro @not_true_eq_false<|@List.size_toArray.{0}
def sim4 :=
  And.intro @List.toList_toArray.{0}<|And.intro @ite_true.{1}<|And.intro @ite_false.{1}<|And.intro @List.append_nil.{0}<|And.intro @Option.any_some.{0}<|And.intro @Option.map_none.{0,0}<|And.intro @Option.isSome_none.{0}<|And.intro @List.flatMap_cons.{0,0}<|And.intro @List.flatMap_nil.{0,0}<|@List.filterMap_nil.{0,0}
def sims :=
  And.intro @sim0<|And.intro @sim1<|And.intro @sim2<|And.intro @sim3<|@sim4
end Go.Proofs.Ytmalpmnmknpphaa.TM
namespace Go.Proofs.Ytmalpmnmknpphaa.TM
open Go Go.RowKit Go.ChangeShapes Go.WideShapes Go.ChangeAt
abbrev RC (W:World):Addr → Value → Prop:=fun a v => W.cell? a=some v
structure RepL (R:Addr → Value → Prop) (xs:List IV) (cs:List Value):Prop where
  len:cs.length=xs.length
  one:∀ u ∈ cs,u.oneCell'=true
  rep:∀ (j:Nat) (x:IV) (v:Value),xs[j]?=some x → cs[j]?=some v → RepI R x v
theorem RepL.append {R:Addr → Value → Prop} {xs ys:List IV} {cs ds:List Value} (h:RepL R xs cs) (k:RepL R ys ds):RepL R (xs ++ ys) (cs ++ ds):=by
  refine ⟨by simp [h.len,k.len],fun u hu => ?_,fun j x v hx hv => ?_⟩
  · rcases List.mem_append.1 hu with hu|hu
    · exact h.one u hu
    · exact k.one u hu
  · rw [List.getElem?_append] at hx hv
    rw [← h.len] at hx
    by_cases hj:j < cs.length
    · rw [if_pos hj] at hx hv; exact h.rep j x v hx hv
    · rw [if_neg hj] at hx hv; exact k.rep _ x v hx hv
section
variable {H:Type} {enc:TypeId × Value → H} {P:Program} {α:Type} {t:TypeId}
def OpensI (enc:TypeId × Value → H) (P:Program) (t:TypeId) (iv:α → List IV) (good:α → Prop):Prop :=
  ∀ (W:World) (base:Nat) (spare:Nat → Bool) (held:Bool) (fuel:Nat) (cs:List Value) (x:DataW H × List MemPlace),
    DataW.trod enc P W base spare held fuel t cs=some x → ∃ a,good a ∧ RepL (RC W) (iv a) cs
theorem repL_one {R:Addr → Value → Prop} {x:Value} (h1:x.oneCell'=true):RepL R [.v x] [x] :=
  ⟨rfl,fun u hu => by simp at hu; rw [hu]; exact h1,fun j y v hy hv => by
    cases j with
    | zero => simp at hy hv; subst hy; subst hv; exact .v x
    | succ j => simp at hy⟩
theorem opens_int {k:IntKind} (ht:P.underlying t=some (.int k)):OpensI enc P t (fun n:Int => [IV.v (.int k n)]) (fun n => (Lit.int k n).wf=true):=by
  intro W base spare held fuel cs x h
  obtain ⟨n,hc,_,hw⟩:=DataW.trod_int ht h
  rw [hc]
  exact ⟨n,hw,repL_one rfl⟩
theorem cells_get {W:World} {base n:Nat} {a:Addr} {c:List Value} (h:W.cells? base a n=some c):c.length=n ∧ ∀ (j:Nat) (u:Value),c[j]?=some u → W.cell? (a.add j)=some u:=by
  unfold World.cells? at h
  split at h
  · have hl:c.length=n:=by simpa using mapM_some_length h
    refine ⟨hl,fun j u hj => ?_⟩
    have hj':j < n:=by
      rw [← hl]
      exact (List.getElem?_eq_some_iff.1 hj).1
    have:=mapM_some_get h j j (by simp [hj'])
    rw [this,hj]
  · simp at h
theorem opens_slice {e:TypeId} {z:Nat} {iv:α → List IV} {good:α → Prop} (ht:P.underlying t=some (.slice e)) (ho:OpensI enc P e iv good) (hz:P.cellsOf e=z) (hiv:∀ a,(iv a).length=z) :
    OpensI enc P t (fun l:List α => [IV.l l.length (l.flatMap iv)]) (fun l => l.length ≤ maxLen ∧ ∀ a ∈ l,good a):=by
  intro W base spare held fuel cs x h
  rcases DataW.trod_slice ht h with ⟨rfl,_⟩|⟨a,len,cap,elems,rest,n,_,rfl,_,_,hl,hc,hel,hget,_,_⟩
  · refine ⟨[],⟨by simp,by simp⟩,rfl,fun u hu => by simp at hu; rw [hu]; rfl,fun j y v hy hv => ?_⟩
    cases j with
    | zero => simp at hy hv; subst hy; subst hv; exact .nil
    | succ j => simp at hy
  · have hx:∀ i:Nat,i < len → ∃ (y:α) (c:List Value),good y ∧ RepL (RC W) (iv y) c ∧ ∀ (j:Nat) (u:Value),c[j]?=some u → W.cell? (a.add (i * z + j))=some u:=by
      intro i hi
      have g:=hget i hi
      rw [List.getElem?_eq_getElem (by omega)] at g
      rw [Option.bind_eq_some_iff] at g
      obtain ⟨c,hcs,htr⟩:=g
      obtain ⟨h1,h2⟩:=cells_get hcs
      obtain ⟨y,hg,hr⟩:=ho _ _ _ _ _ _ _ htr
      refine ⟨y,c,hg,hr,fun j u hj => ?_⟩
      have:=h2 j u hj
      rw [hz,Addr.add_add] at this
      exact this
    have hl2:∀ m:Nat,m ≤ len → ∃ (l:List α) (c:List Value),l.length=m ∧ (∀ y ∈ l,good y) ∧ RepL (RC W) (l.flatMap iv) c ∧ c.length=m * z ∧ ∀ (j:Nat) (u:Value),c[j]?=some u → W.cell? (a.add j)=some u:=by
      intro m
      induction m with
      | zero => exact fun _ => ⟨[],[],rfl,by simp,⟨rfl,by simp,fun j x v hx => by simp at hx⟩,by simp,by simp⟩
      | succ m ih =>
        intro hm
        obtain ⟨l,c,h1,h2,h3,h4,h5⟩:=ih (by omega)
        obtain ⟨y,d,hg,hr,hcell⟩:=hx m (by omega)
        refine ⟨l ++ [y],c ++ d,by simp [h1],fun q hq => ?_,?_,?_,fun j u hj => ?_⟩
        · rcases List.mem_append.1 hq with hq|hq
          · exact h2 q hq
          · simp at hq; rw [hq]; exact hg
        · rw [List.flatMap_append,List.flatMap_cons,List.flatMap_nil,List.append_nil]
          exact h3.append hr
        · rw [List.length_append,h4,hr.len,hiv,Nat.succ_mul]
        · rw [List.getElem?_append] at hj
          by_cases hlt:j < c.length
          · rw [if_pos hlt] at hj; exact h5 j u hj
          · rw [if_neg hlt] at hj
            have:=hcell _ u hj
            rw [h4] at this
            rwa [show m * z + (j - m * z)=j by omega] at this
    obtain ⟨l,c,h1,h2,h3,h4,h5⟩:=hl2 len (Nat.le_refl _)
    have hmax:maxLen=9223372036854775807:=rfl
    refine ⟨l,⟨by omega,h2⟩,rfl,fun u hu => by simp at hu; rw [hu]; rfl,fun j y v hy hv => ?_⟩
    cases j with
    | succ j => simp at hy
    | zero =>
      simp at hy hv
      subst hy; subst hv
      rw [← h1]
      have hcl:(l.flatMap iv).length=c.length:=h3.len.symm
      refine .l _ _ a cap (fun j => c.getD j undef) (by omega) (fun j hj => ?_) (fun j hj => ?_) (fun j x hj => ?_)
      · have hlt:j < c.length:=by omega
        show W.cell? (a.add j)=some _
        rw [h5 j c[j] (List.getElem?_eq_getElem hlt)]
        simp [hlt]
      · have hlt:j < c.length:=by omega
        have:c.getD j undef=c[j]:=by simp [hlt]
        rw [this]; exact h3.one _ (List.getElem_mem hlt)
      · have hlt:j < c.length:=by have:=(List.getElem?_eq_some_iff.1 hj).1; omega
        have:c.getD j undef=c[j]:=by simp [hlt]
        rw [this]; exact h3.rep j x _ hj (List.getElem?_eq_getElem hlt)
end
theorem rep_data {W:World} {x:IV} {v:Value} (h:RepI (RC W) x v):Rep ⟨fun _ => 0,fun _ => False⟩ Heap.none W (.i x) v :=
  .i _ _ (h.mono fun a v hc => ⟨⟨fun hf => hf,shut_none _ _⟩,hc⟩)
theorem rep_agg {W:World} {xs:List IV} {cs:Array Value} (h:RepL (RC W) xs cs.toList):Rep ⟨fun _ => 0,fun _ => False⟩ Heap.none W (.agg (xs.map .i)) (.agg cs):=by
  refine .agg _ _ (by have:=h.len; simp at this; simp [this]) fun j p hj => ?_
  rw [List.getElem?_map] at hj
  cases hx:xs[j]? with
  | none => simp [hx] at hj
  | some x =>
    simp [hx] at hj; subst hj
    have hlt:j < cs.toList.length:=by rw [h.len]; exact (List.getElem?_eq_some_iff.1 hx).1
    have h2:cs.getD j undef=cs.toList[j]:=by
      have:j < cs.size:=by simpa using hlt
      simp [this]
    rw [h2]
    exact rep_data (h.rep j x _ hx (List.getElem?_eq_getElem hlt))
theorem reps_of {β:Pl} {h:Heap} {W:World}:∀ (ps:List PV) (vs:List Value),ps.length=vs.length → (∀ (j:Nat) (p:PV) (v:Value),ps[j]?=some p → vs[j]?=some v → Rep β h W p v) → Reps β h W ps vs.toArray:=by
  intro ps vs hl hr
  refine ⟨by simp [hl],fun j p hj => ?_⟩
  have hlt:j < vs.length:=by rw [← hl]; exact (List.getElem?_eq_some_iff.1 hj).1
  have:vs.toArray.getD j undef=vs[j]:=by simp [hlt]
  rw [this]
  exact hr j p _ hj (List.getElem?_eq_getElem hlt)
theorem CallsP.calls {P : Program} (hm : P.follows .mixedOrders = true) {f : FuncId} {args : List PV} {x : Value} (hc : CallsP P f args (.i (.v x))) {W : World} {vs : Array Value}
    (hr:Reps ⟨fun _ => 0,fun _ => False⟩ Heap.none W args vs):Calls P f vs W fun e w' => e=.returned x ∧ Below W.heap.size W w':=by
  obtain ⟨u,hu,h1,h2⟩:=hc []
  refine (CallR_sound hm _ _ _ _ _ _ h1 ⟨fun _ => 0,fun _ => False⟩ W vs (HInv.none fun blk hb => hb.elim) hr).mono ?_
  rintro e w' ⟨rv,β',rfl,H',hrep,E⟩
  have h3:RepP β' hu (fun a v => w'.cell? a=some v) (szW w') (.i (.v x)) rv:=lowerT_rep H' hrep h2 (fun a v h => h.2) fun b x hb j v hcell => hcell
  have h4:rv=x:=by cases h3 with|i _ _ h => exact repI_v h
  refine ⟨by rw [h4],E.os,E.tape,E.output,E.size,fun k hk => (E.stab k hk (shut_none _ _)).2⟩
end Go.Proofs.Ytmalpmnmknpphaa.TM
namespace Go.Proofs.Ytmalpmnmknpphaa.TM
open Go
theorem keepT_t (ks:List Bool) (x:PV) (xs:List PV):keepT (true::ks) (x::xs)=x::keepT ks xs:=rfl
theorem keepT_f (ks:List Bool) (x:PV) (xs:List PV):keepT (false::ks) (x::xs)=.dead::keepT ks xs:=rfl
theorem keepT_nil (xs:List PV):keepT [] xs=[]:=by cases xs <;> rfl
def sets:List PV → List (Nat × PV) → List PV
  | t,[] => t
  | t,(i,v)::r => sets (t.set i v) r
theorem sets_nil (t:List PV):sets t []=t:=rfl
theorem sets_cons (t:List PV) (i:Nat) (v:PV) (r:List (Nat × PV)):sets t ((i,v)::r)=sets (t.set i v) r:=rfl
theorem Heap.put_at (h:Heap) (b c:Name) (x:Box):h.put b x c=if c=b then some x else h c:=rfl
theorem Heap.none_at (c:Name):Heap.none c=Option.none:=rfl
def opnL:Op → List Operand
  | .alloc _ => []
  | .move x|.assign x|.box _ x|.load _ x|.nilCheck x|.unOp _ _ x|.convert _ _ x|.fieldAddr _ x _|.field _ x _|.extract x _|.panic x|.makeInterface _ x => [x]
  | .pick c a b => [c,a,b]
  | .build _ ps|.buildSlice _ _ ps => ps.toList.map (·.2)
  | .store _ a v|.binOp _ _ a v _|.makeSlice _ a v|.indexAddr _ a v|.index _ a v => [a,v]
  | .slice _ x l h m => x::(l.toList ++ h.toList ++ m.toList)
  | .call { callee:=.value f,args:=as,.. } => f::as.toList
  | .call { callee:=.builtin _,args:=as,.. } => as.toList
  | op => op.operands.toList
theorem opnL_eq (op:Op):op.operands.toList=opnL op:=by
  cases op <;> try rfl
  case slice t x l h m => cases l <;> cases h <;> cases m <;> simp [opnL,Op.operands]
  case call c => obtain ⟨f,as,ts⟩:=c; cases f <;> simp [opnL,Op.operands,Call.operands]
def keysU (us:List (Name × Box)):List (Nat × Nat):=us.map fun u => keyN u.1
def keysT (s:Name) (op:Op) (ps:List PV):List (Nat × Nat):=keyN s::(touchL op ps).map keyN
theorem keyN_cons (x:Nat × Nat) (b:Name):keyN (x::b)=x:=rfl
theorem keysU_nil:keysU []=[]:=rfl
theorem keysU_cons (b:Name) (x:Box) (us:List (Name × Box)):keysU ((b,x)::us)=keyN b::keysU us:=rfl
def keysL (ps:List PV):List (Nat × Nat):=(refsL ps).map keyN
def keysP (r:Bool) (ps:List PV):List (Nat × Nat):=if r=true then keysL ps else []
theorem keysP_true (ps:List PV):keysP true ps=keysL ps:=rfl
theorem keysP_false (ps:List PV):keysP false ps=[]:=rfl
theorem keysT_eq (x:Nat × Nat) (b:Name) (op:Op) (ps:List PV):keysT (x::b) op ps=x::keysP (readsB op) ps:=by
  unfold keysT touchL keysP keysL
  cases readsB op <;> rfl
theorem keysL_nil:keysL []=[]:=rfl
theorem keysL_i (x:IV) (ps:List PV):keysL (.i x::ps)=keysL ps:=rfl
theorem keysL_dead (ps:List PV):keysL (.dead::ps)=keysL ps:=rfl
theorem keysL_iref (cs:List IV) (o:Nat) (ps:List PV):keysL (.iref cs o::ps)=keysL ps:=rfl
theorem keysL_view (b:Name) (o z n p:Nat) (ps:List PV):keysL (.view b o z n p::ps)=keyN b::keysL ps:=rfl
theorem keysL_ref (b:Name) (o p:Nat) (ps:List PV):keysL (.ref b o p::ps)=keyN b::keysL ps:=rfl
theorem keysL_agg (cs ps:List PV):keysL (.agg cs::ps)=keysL cs ++ keysL ps:=by simp [keysL,refsL,refsP]
theorem keysL_tup (cs ps:List PV):keysL (.tup cs::ps)=keysL cs ++ keysL ps:=by simp [keysL,refsL,refsP]
theorem keysL_clo (f:FuncId) (cs ps:List PV):keysL (.clo f cs::ps)=keysL cs ++ keysL ps:=by simp [keysL,refsL,refsP]
def sim5 :=
  And.intro @keyN_cons<|And.intro @keysU_nil<|And.intro @keysU_cons<|And.intro @keysT_eq<|And.intro @keysP_true<|And.intro @keysP_false<|And.intro @keysL_nil<|And.intro @keysL_i<|And.intro @keysL_dead<|And.intro @keysL_iref<|And.intro @keysL_view<|And.intro @keysL_ref<|And.intro @keysL_agg<|And.intro @keysL_tup<|@keysL_clo
section
variable {P:Program} {C:CallRel} {h0:Heap} {base:Name} {Qf:Ex → List PV → Heap → Prop} {k:List It} {t:List PV} {h:Heap}
theorem Kdres_keys (v:PV) (us:List (Name × Box)) (id:Nat) (ops:Array Oper) (i:Nat) (o:Oper) (os:List Oper) (acc:List Keys):Kdres P C h0 base Qf (some ⟨v,us⟩) id ops i o os acc k t h =
    K P C h0 base Qf (.dops id ops (i + 1) os ((keysU us,keysT ((id,i)::base) o.op ((opnL o.op).map (St.opnd t)))::acc)::k) .normal (putT t o.dst v) (h.ups us):=by
  rw [Kdres_some,opndsP,opnL_eq]; rfl
theorem K_dcall_keys {id : Nat} {ops : Array Oper} {i : Nat} {o : Oper} {os : List Oper} {acc : List Keys} {c : Call} {g : FuncId} {args largs : List PV} {v : PV} (hs : CallsP P g largs v) (ho : o.op = .call c) (hcal : calleeOf t c = some (g, args)) (he : enterB P g = true)
    (hl:mapO (lowerA h) args=some largs)
    (hk:K P (CallR P) h0 base Qf (.dops id ops (i + 1) os ((keysU (if scalT v then [] else freezeOf h (args.flatMap boxesA)),keyN ((id,i)::base)::((args.flatMap boxesA).map keyN ++ keysL ((opnL o.op).map (St.opnd t))))::acc)::k) .normal (putT t o.dst v)
      (h.ups (if scalT v then [] else freezeOf h (args.flatMap boxesA)))) :
    K P (CallR P) h0 base Qf (.dcall id ops i o os acc::k) .normal t h:=by
  refine K_dcall_pure hs ho hcal he hl ?_
  rw [opndsP,opnL_eq,List.map_cons,List.map_append]
  exact hk
end
section
variable {P:Program} {C:CallRel} {h0:Heap} {base:Name} {Qf:Ex → List PV → Heap → Prop} {k:List It} {t:List PV} {h:Heap}
def AgainG (h0:Heap) (ks:List Bool) (bs:List Name) (n:Nat) (Φ:Nat → Prop) (T:Nat → List PV) (hh:Nat → Heap) (j:Nat) (t:List PV) (h:Heap):Prop :=
  j < n ∧ Forget h0 t h ks bs ∧ Φ (j + 1) ∧ keepT ks t=T (j + 1) ∧ h.drop bs=hh (j + 1)
def RoundG (P:Program) (C:CallRel) (h0:Heap) (base:Name) (Qf:Ex → List PV → Heap → Prop) (k:List It) (ks:List Bool) (bs:List Name) (n:Nat) (Φ:Nat → Prop) (T:Nat → List PV) (hh:Nat → Heap) (j:Nat):Ex → List PV → Heap → Prop
  | .normal,t,h => AgainG h0 ks bs n Φ T hh j t h
  | e,t,h => K P C h0 base Qf k e t h
def LtN (j n:Nat):Prop:=j < n
theorem RoundG_normal {ks:List Bool} {bs:List Name} {n:Nat} {Φ:Nat → Prop} {T:Nat → List PV} {hh:Nat → Heap} {j:Nat}:RoundG P C h0 base Qf k ks bs n Φ T hh j .normal t h=(LtN j n ∧ Forget h0 t h ks bs ∧ Φ (j + 1) ∧ keepT ks t=T (j + 1) ∧ h.drop bs=hh (j + 1)):=rfl
theorem RoundG_exit {ks:List Bool} {bs:List Name} {n:Nat} {Φ:Nat → Prop} {T:Nat → List PV} {hh:Nat → Heap} {j id:Nat}:RoundG P C h0 base Qf k ks bs n Φ T hh j (.exit id) t h=K P C h0 base Qf k (.exit id) t h:=rfl
theorem RoundG_ret {ks:List Bool} {bs:List Name} {n:Nat} {Φ:Nat → Prop} {T:Nat → List PV} {hh:Nat → Heap} {j:Nat}:RoundG P C h0 base Qf k ks bs n Φ T hh j .ret t h=K P C h0 base Qf k .ret t h:=rfl
end
def rowP (s:Name) (z n:Nat) (cs:List IV):PV:=if n=0 then .i (.v (.slice none 0 0)) else .view s 0 z n cs.length
def rowH (h:Heap) (s:Name) (n:Nat) (cs:List IV):Heap:=if n=0 then h else h.put s (.row false cs)
theorem rowP_zero (s:Name) (z:Nat) (cs:List IV):rowP s z 0 cs=.i (.v (.slice none 0 0)):=rfl
theorem rowH_zero (h:Heap) (s:Name) (cs:List IV):rowH h s 0 cs=h:=rfl
theorem rowP_succ (s:Name) (z n:Nat) (cs:List IV):rowP s z (n + 1) cs=.view s 0 z (n + 1) cs.length:=rfl
theorem rowH_succ (h:Heap) (s:Name) (n:Nat) (cs:List IV):rowH h s (n + 1) cs=h.put s (.row false cs):=rfl
theorem rowH_ne (h:Heap) {s c:Name} (n:Nat) (cs:List IV) (hc:c ≠ s):rowH h s n cs c=h c:=by
  unfold rowH; split
  · rfl
  · exact Heap.put_ne _ _ hc
theorem append_row {P : Program} {h : Heap} {s : Name} {t e : TypeId} {zs : List Value} {n z m : Nat} {cs xs : List IV} {y : PV} {k2 : SK} (he : elemB P t = some e) (hz : zeroB P e = some zs) (hzl : zs.length = z) (hz0 : 0 < z)
    (hn:cs.length=n * z) (hs:h s=if n=0 then none else some (.row false cs)) (hy:y.sk=some k2) (hm:k2.len=m) (hm0:0 < m) (hx:k2.cells h z=some xs)
    (hb:(n + m) * P.bytesOf e ≤ 140737488355328) (hl:n + m ≤ maxLen) :
    opAppend P h s t (rowP s z n cs) y=some ⟨rowP s z (n + m) (cs ++ xs),[(s,.row false (cs ++ xs))]⟩:=by
  subst hzl
  unfold opAppend
  rw [he]
  simp only [hz]
  unfold rowP
  by_cases h0:n=0
  · subst h0
    have:cs=[]:=List.eq_nil_of_length_eq_zero (by simpa using hn)
    subst this
    rw [if_pos rfl] at hs ⊢
    simp only [show (PV.i (.v (.slice none 0 0))).sk=some SK.nil from rfl,hy,hx,show SK.nil.len=0 from rfl,hm]
    rw [if_pos ⟨hz0,hb,hl⟩,if_neg (by omega),if_neg (by omega)]
    simp only [newBox,hs,Nat.zero_add,List.nil_append]
  · rw [if_neg h0] at hs ⊢
    simp only [show (PV.view s 0 zs.length n cs.length).sk=some (SK.own s 0 zs.length n cs.length) from rfl,hy,hx,show (SK.own s 0 zs.length n cs.length).len=n from rfl,hm]
    rw [if_pos ⟨hz0,hb,hl⟩,if_neg (by omega),if_neg (by omega),hs]
    simp only [hn,and_self,if_true,true_and]
theorem lower_row {h:Heap} {s:Name} {z n:Nat} {cs:List IV} (hn:cs.length=n * z) (hs:n ≠ 0 → h s=some (.row false cs)):lowerC h (rowP s z n cs)=some (.i (.l n cs)):=by
  unfold rowP
  by_cases h0:n=0
  · subst h0
    have:cs=[]:=List.eq_nil_of_length_eq_zero (by simpa using hn)
    subst this
    rfl
  · rw [if_neg h0]
    simp only [lowerC,hs h0,Nat.zero_add,hn,Nat.le_refl,and_self,if_true,List.drop_zero]
    rw [← hn,List.take_length]
theorem rowH_app (h:Heap) (s c:Name) (n:Nat) (cs:List IV):rowH h s n cs c=if n=0 then h c else if c=s then some (.row false cs) else h c:=by
  unfold rowH; split <;> rfl
theorem Heap.drop_at (h:Heap) (bs:List Name) (c:Name):h.drop bs c=if c ∈ bs then Option.none else h c:=rfl
theorem mem_refs_rowP {b s:Name} {z n:Nat} {cs:List IV}:b ∈ refsP (rowP s z n cs) ↔ n ≠ 0 ∧ b=s:=by
  unfold rowP; split
  · rename_i h; simp [refsP,h]
  · rename_i h; simp [refsP,h]
def noVar (b:Name) (h:Heap):Prop:=∀ c cs,h c=some (.var cs) → b ∉ refsL cs
theorem noVar_none (b:Name):noVar b Heap.none:=fun c cs h => by cases h
theorem noVar_var {b c:Name} {cs:List PV} {h:Heap} (h1:noVar b h) (h2:b ∉ refsL cs):noVar b (h.put c (.var cs)):=fun d ds hd => by
  rw [Heap.put_at] at hd
  split at hd
  · cases hd; exact h2
  · exact h1 d ds hd
theorem noVar_row {b c:Name} {fz:Bool} {cs:List IV} {h:Heap} (h1:noVar b h):noVar b (h.put c (.row fz cs)):=fun d ds hd => by
  rw [Heap.put_at] at hd
  split at hd
  · cases hd
  · exact h1 d ds hd
theorem noVar_map {b c:Name} {k:IntKind} {es:List (Int × Value)} {h:Heap} (h1:noVar b h):noVar b (h.put c (.map k es)):=fun d ds hd => by
  by_cases hdc:d=c
  · subst hdc; rw [Heap.put_same] at hd; cases hd
  · rw [Heap.put_ne _ _ hdc] at hd; exact h1 d ds hd
theorem noVar_rowH {b c:Name} {n:Nat} {cs:List IV} {h:Heap} (h1:noVar b h):noVar b (rowH h c n cs):=by
  unfold rowH; split
  · exact h1
  · exact noVar_row h1
theorem Kres_eq {P : Program} {C : CallRel} {h0 : Heap} {base : Name} {Qf : Ex → List PV → Heap → Prop} {k : List It} {t : List PV} {h : Heap} {r : Option Out} {out : Out} {id : Nat} {ops : Array Oper} {i : Nat} {o : Oper} {os : List Oper} (hr : r = some out)
    (hk:K P C h0 base Qf (.ops id ops (i + 1) os::k) .normal (putT t o.dst out.val) (h.ups out.ups)):Kres P C h0 base Qf r id ops i o os k t h:=by
  subst hr; exact hk
theorem zeroRow_zero (zs:List Value):zeroRow zs 0=[]:=rfl
theorem zeroRow_succ (zs:List Value) (n:Nat):zeroRow zs (n + 1)=zs ++ zeroRow zs n:=by simp [zeroRow,List.replicate_succ]
theorem opnd_tmp (t:List PV) (k:Tmp):St.opnd t (.tmp k)=t.getD k undefP:=rfl
theorem opnd_const (t:List PV) (v:Value):St.opnd t (.const v)=ofVal v:=rfl
theorem opnd_func (t:List PV) (f:FuncId):St.opnd t (.func f)=.i (.v (.func (.func f) #[] #[])):=rfl
theorem lowC_nil (h:Heap):lowerC h (.i (.v (.slice none 0 0)))=some (.i (.l 0 [])):=rfl
theorem lowC_int (h:Heap) (k:IntKind) (n:Int):lowerC h (.i (.v (.int k n)))=some (.i (.v (.int k n))):=rfl
theorem lowC_bool (h:Heap) (b:Bool):lowerC h (.i (.v (.bool b)))=some (.i (.v (.bool b))):=rfl
theorem lowC_string (h:Heap) (b:ByteArray):lowerC h (.i (.v (.string b)))=some (.i (.v (.string b))):=rfl
theorem lowC_func (h:Heap) (f:Fn) (a b:Array Value):lowerC h (.i (.v (.func f a b)))=some (.i (.v (.func f a b))):=rfl
theorem lowC_l (h:Heap) (n:Nat) (cs:List IV):lowerC h (.i (.l n cs))=some (.i (.l n cs)):=rfl
theorem lowC_iref (h:Heap) (cs:List IV) (o:Nat):lowerC h (.iref cs o)=some (.iref cs o):=rfl
def lowV (x:Option Box) (off z n top:Nat):Option PV:=match x with
  | some (.row _ cs) => if cs.length=top ∧ off + n * z ≤ cs.length then some (.i (.l n ((cs.drop off).take (n * z)))) else none
  | _ => none
theorem lowV_row (fz:Bool) (cs:List IV) (off z n top:Nat):lowV (some (.row fz cs)) off z n top=if cs.length=top ∧ off + n * z ≤ cs.length then some (.i (.l n ((cs.drop off).take (n * z)))) else none:=rfl
theorem lowC_view (h:Heap) (b:Name) (off z n top:Nat):lowerC h (.view b off z n top)=lowV (h b) off z n top:=rfl
theorem lowA_agg (h:Heap) (cs:List PV):lowerA h (.agg cs)=(mapO (lowerC h) cs).map .agg:=rfl
theorem lowA_i (h:Heap) (x:IV):lowerA h (.i x)=lowerC h (.i x):=rfl
theorem lowA_iref (h:Heap) (cs:List IV) (o:Nat):lowerA h (.iref cs o)=lowerC h (.iref cs o):=rfl
theorem lowA_view (h:Heap) (b:Name) (off z n top:Nat):lowerA h (.view b off z n top)=lowerC h (.view b off z n top):=rfl
theorem lowT_tup (h:Heap) (cs:List PV):lowerT h (.tup cs)=(mapO (lowerA h) cs).map .tup:=rfl
theorem lowT_agg (h:Heap) (cs:List PV):lowerT h (.agg cs)=lowerA h (.agg cs):=rfl
theorem lowT_i (h:Heap) (x:IV):lowerT h (.i x)=lowerA h (.i x):=rfl
theorem lowT_view (h:Heap) (b:Name) (off z n top:Nat):lowerT h (.view b off z n top)=lowerA h (.view b off z n top):=rfl
def consO {γ:Type} (y:Option γ) (ys:Option (List γ)):Option (List γ):=match y,ys with
  | some y,some ys => some (y::ys)
  | _,_ => none
theorem consO_some {γ:Type} (y:γ) (ys:List γ):consO (some y) (some ys)=some (y::ys):=rfl
theorem mapO_nil {α γ:Type} (f:α → Option γ):mapO f []=some []:=rfl
theorem mapO_cons {α γ:Type} (f:α → Option γ) (x:α) (xs:List α):mapO f (x::xs)=consO (f x) (mapO f xs):=rfl
theorem resV_tmp (P:Program) (t:List PV) (h:Heap) (k:Tmp):resVar P t h (.tmp k)=some (t.getD k undefP):=rfl
theorem resV_cell (P:Program) (t:List PV) (h:Heap) (a:Tmp) (ty:TypeId):resVar P t h (.cell a ty)=if undB P ty=true then opLoad P h ty (t.getD a undefP) else none:=rfl
def resO (xs:Option (List PV)):Option PV:=match xs with
  | some [x] => some x
  | some xs => some (.tup xs)
  | none => none
theorem resO_one (x:PV):resO (some [x])=some x:=rfl
theorem resO_two (x y:PV) (xs:List PV):resO (some (x::y::xs))=some (.tup (x::y::xs)):=rfl
theorem resB_eq (P:Program) (rs:List ResultVar) (t:List PV) (h:Heap):resB P rs t h=resO (mapO (resVar P t h) rs):=rfl
def sim7 :=
  And.intro @opnd_tmp<|And.intro @opnd_const<|@opnd_func
def simr :=
  And.intro @lowC_nil<|And.intro @lowC_int<|And.intro @lowC_bool<|And.intro @lowC_string<|And.intro @lowC_func<|And.intro @lowC_l<|And.intro @lowC_iref<|And.intro @lowV_row<|And.intro @lowC_view<|And.intro @lowA_agg<|And.intro @lowA_i<|And.intro @lowA_iref<|And.intro @lowA_view<|And.intro @lowT_tup<|And.intro @lowT_agg<|And.intro @lowT_i<|And.intro @lowT_view<|And.intro @consO_some<|And.intro @mapO_nil<|And.intro @mapO_cons<|And.intro @resV_tmp<|And.intro @resV_cell<|And.intro @resO_one<|And.intro @resO_two<|@resB_eq
theorem refsL_cons' (p:PV) (ps:List PV):refsL (p::ps)=refsP p ++ refsL ps:=by simp [refsL]
end Go.Proofs.Ytmalpmnmknpphaa.TM
namespace Go.Proofs.Ytmalpmnmknpphaa.TM
open Go Go.RowKit Go.ChangeShapes Go.WideShapes Go.ChangeAt
theorem flatMap_one {α β:Type} (f:α → β):∀ l:List α,(l.flatMap fun a => [f a])=l.map f
  | [] => rfl
  | a::l => by rw [List.flatMap_cons,flatMap_one f l]; rfl
theorem opens_slice1 {H:Type} {enc:TypeId × Value → H} {P:Program} {α:Type} {t e:TypeId} {f:α → IV} {good:α → Prop} (ht:P.underlying t=some (.slice e)) (ho:OpensI enc P e (fun a => [f a]) good) (hz:P.cellsOf e=1) :
    OpensI enc P t (fun l:List α => [IV.l l.length (l.map f)]) (fun l => l.length ≤ maxLen ∧ ∀ a ∈ l,good a):=by
  intro W base spare held fuel cs x h
  obtain ⟨l,hg,hr⟩:=opens_slice ht ho hz (fun a => rfl) W base spare held fuel cs x h
  replace hr:RepL (RC W) [IV.l l.length (l.flatMap fun a => [f a])] cs:=hr
  rw [flatMap_one] at hr
  exact ⟨l,hg,hr⟩
def RepsL (W:World):List PV → List Value → Prop
  | [],[] => True
  | p::ps,v::vs => Rep ⟨fun _ => 0,fun _ => False⟩ Heap.none W p v ∧ RepsL W ps vs
  | _,_ => False
theorem repsL_nil {W:World}:RepsL W [] []:=trivial
theorem repsL_cons {W:World} {p:PV} {v:Value} {ps:List PV} {vs:List Value} (h:Rep ⟨fun _ => 0,fun _ => False⟩ Heap.none W p v) (hs:RepsL W ps vs):RepsL W (p::ps) (v::vs):=⟨h,hs⟩
theorem repsL_of {W:World}:∀ {ps:List PV} {vs:List Value},RepsL W ps vs → ps.length=vs.length ∧ ∀ (j:Nat) (p:PV) (v:Value),ps[j]?=some p → vs[j]?=some v → Rep ⟨fun _ => 0,fun _ => False⟩ Heap.none W p v
  | [],[],_ => ⟨rfl,fun j p v h => by simp at h⟩
  | p::ps,v::vs,h => by
    obtain ⟨h1,h2⟩:=repsL_of h.2
    refine ⟨by simp [h1],fun j q u hq hu => ?_⟩
    cases j with
    | zero => simp at hq hu; subst hq; subst hu; exact h.1
    | succ j => simp at hq hu; exact h2 j q u hq hu
theorem repsL_reps {W:World} {ps:List PV} {vs:List Value} (h:RepsL W ps vs):Reps ⟨fun _ => 0,fun _ => False⟩ Heap.none W ps vs.toArray :=
  reps_of ps vs (repsL_of h).1 (repsL_of h).2
theorem rep_v {W:World} (v:Value):Rep ⟨fun _ => 0,fun _ => False⟩ Heap.none W (.i (.v v)) v:=rep_data (.v v)
end Go.Proofs.Ytmalpmnmknpphaa.TM
namespace Go.Proofs.Ytmalpmnmknpphaa.TM
open Go
def toL (n:Nat) (f:Nat → PV):List PV:=(List.range n).map f
def upd (f:Nat → PV) (k:Nat) (v:PV):Nat → PV:=fun j => if j=k then v else f j
def argsF (args:List PV):Nat → PV:=fun i => args.getD i undefP
def deadF:Nat → PV:=fun _ => .dead
def updl (f:Nat → PV):List (Nat × PV) → Nat → PV
  | [] => f
  | (i,v)::r => updl (upd f i v) r
def pickF:List Nat → (Nat → PV) → Nat → PV
  | [],_ => deadF
  | i::L,f => upd (pickF L f) i (f i)
theorem toL_len (n:Nat) (f:Nat → PV):(toL n f).length=n:=by simp [toL]
theorem toL_get? (n:Nat) (f:Nat → PV) (k:Nat):(toL n f)[k]?=if k < n then some (f k) else none:=by
  unfold toL
  rw [List.getElem?_map]
  by_cases h:k < n
  · rw [if_pos h,List.getElem?_range h]; rfl
  · rw [if_neg h,List.getElem?_eq_none (by simp; omega)]; rfl
theorem toL_getD (n:Nat) (f:Nat → PV) (k:Nat) (u:PV):(toL n f).getD k u=if k < n then f k else u:=by
  rw [List.getD_eq_getElem?_getD,toL_get?]; split <;> rfl
theorem list_toL {n:Nat} {l:List PV} (hl:l.length=n) (f:Nat → PV) (h:∀ i,i < n → l.getD i undefP=f i):l=toL n f:=by
  apply List.ext_getElem?
  intro i
  rw [toL_get?]
  by_cases hi:i < n
  · rw [if_pos hi,← h i hi,List.getElem?_eq_getElem (by omega),List.getD_eq_getElem?_getD,List.getElem?_eq_getElem (by omega)]; rfl
  · rw [if_neg hi,List.getElem?_eq_none (by omega)]
theorem toL_set (n:Nat) (f:Nat → PV) (k:Nat) (v:PV):(toL n f).set k v=toL n (upd f k v):=by
  apply List.ext_getElem?
  intro i
  rw [List.getElem?_set,toL_get?,toL_get?,toL_len]
  unfold upd
  by_cases hk:k=i
  · subst hk
    rw [if_pos rfl]
    by_cases hn:k < n
    · simp [hn]
    · simp [hn]
  · rw [if_neg hk,if_neg (show ¬ i=k from fun h => hk h.symm)]
theorem upd_at (f:Nat → PV) (k j:Nat) (v:PV):upd f k v j=if j=k then v else f j:=rfl
theorem argsF_at (args:List PV) (i:Nat):argsF args i=args.getD i undefP:=rfl
theorem deadF_at (i:Nat):deadF i=.dead:=rfl
theorem updl_nil (f:Nat → PV):updl f []=f:=rfl
theorem updl_cons (f:Nat → PV) (i:Nat) (v:PV) (r:List (Nat × PV)):updl f ((i,v)::r)=updl (upd f i v) r:=rfl
theorem pickF_nil (f:Nat → PV):pickF [] f=deadF:=rfl
theorem pickF_cons (i:Nat) (L:List Nat) (f:Nat → PV):pickF (i::L) f=upd (pickF L f) i (f i):=rfl
theorem pickF_eq (f:Nat → PV) (i:Nat):∀ L:List Nat,pickF L f i=if i ∈ L then f i else .dead
  | [] => rfl
  | k::L => by
    rw [pickF_cons,upd_at,pickF_eq f i L]
    by_cases h:i=k
    · subst h; simp
    · simp [h]
theorem toL_start (args:List PV) {n m:Nat} (hm:args.length=m) (h:m ≤ n):args ++ List.replicate (n - m) undefP=toL n (argsF args):=by
  subst hm
  refine list_toL (by simp; omega) _ fun i hi => ?_
  unfold argsF
  rw [List.getD_eq_getElem?_getD,List.getElem?_append]
  split
  · rw [List.getD_eq_getElem?_getD]
  · rename_i h2
    rw [List.getElem?_replicate,List.getD_eq_getElem?_getD,List.getElem?_eq_none (by omega)]
    split <;> rfl
theorem CallsP.startF {P : Program} {f : FuncId} {fn : Func} {c : Code} {args : List PV} {v : PV} {n m : Nat} {rs : List ResultVar} (hf : P.funcs[f]? = some fn) (hb : fn.body = some c) (hn : fn.ntmps = n) (hrs : fn.results.toList = rs) (hm : args.length = m) (hmn : m ≤ n)
    (hw:∀ base,K P (CallR P) Heap.none base (fun e t hh => (e=.normal ∨ e=.ret) ∧ (resB P rs t hh).bind (lowerT hh)=some v) [.code c] .normal (toL n (argsF args)) Heap.none):CallsP P f args v :=
  CallsP.start hf hb hn hrs fun base => by rw [toL_start args rfl (by omega)]; exact hw base
theorem CallR.startF {P : Program} {base : Name} {f : FuncId} {fn : Func} {c : Code} {args : List PV} {h : Heap} {v : PV} {h' : Heap} {n m : Nat} {rs : List ResultVar} (hf : P.funcs[f]? = some fn) (hb : fn.body = some c) (hn : fn.ntmps = n) (hrs : fn.results.toList = rs) (hm : args.length = m) (hmn : m ≤ n)
    (hw:K P (CallR P) h base (fun e t hh => (e=.normal ∨ e=.ret) ∧ resB P rs t hh=some v ∧ hh=h') [.code c] .normal (toL n (argsF args)) h):CallR P base f args h v h' :=
  CallR.start hf hb hn hrs (by rw [toL_start args rfl (by omega)]; exact hw)
def ksOf (n:Nat) (L:List Nat):List Bool:=(List.range n).map fun i => decide (i ∈ L)
theorem keepT_eq:∀ (ks:List Bool) (t:List PV),ks.length=t.length → ∀ i:Nat,(keepT ks t)[i]?=if ks[i]?=some true then t[i]? else (t[i]?).map fun _ => PV.dead
  | [],[],_,i => by simp [keepT_nil]
  | k::ks,x::xs,h,i => by
    cases i with
    | zero => cases k <;> simp [keepT_t,keepT_f]
    | succ i => cases k <;> simp [keepT_t,keepT_f] <;> exact keepT_eq ks xs (by simpa using h) i
  | [],_::_,h,_ => by simp at h
  | _::_,[],h,_ => by simp at h
theorem keep_toL {n:Nat} {L:List Nat} {t:List PV} (hl:t.length=n) {g:Nat → PV} (he:∀ i ∈ L,t.getD i undefP=g i):keepT (ksOf n L) t=toL n (pickF L g):=by
  apply List.ext_getElem?
  intro i
  rw [keepT_eq _ _ (by simp [ksOf,hl]),toL_get?]
  by_cases hi:i < n
  · have h1:t[i]?=some t[i]:=List.getElem?_eq_getElem (by omega)
    have h2:(ksOf n L)[i]?=some (decide (i ∈ L)):=by unfold ksOf; rw [List.getElem?_map,List.getElem?_range hi]; rfl
    rw [if_pos hi,h1,h2,pickF_eq]
    by_cases hL:i ∈ L
    · rw [if_pos (by simp [hL]),if_pos hL,← he i hL,List.getD_eq_getElem?_getD,h1]; rfl
    · rw [if_neg (by simp [hL]),if_neg hL]; rfl
  · rw [if_neg hi,List.getElem?_eq_none (show t.length ≤ i by omega)]
    split <;> rfl
def FgT (h0:Heap) (bs:List Name) (L:List Nat) (t:List PV) (h:Heap):Prop:=∀ b ∈ bs,h0 b=none ∧ (∀ i ∈ L,b ∉ refsP (t.getD i undefP)) ∧ noVar b (h.drop bs)
def EqT (L:List Nat) (t:List PV) (g:Nat → PV):Prop:=∀ i ∈ L,t.getD i undefP=g i
theorem EqT_nil (t:List PV) (g:Nat → PV):EqT [] t g=True:=by simp [EqT]
theorem EqT_cons (i:Nat) (L:List Nat) (t:List PV) (g:Nat → PV):EqT (i::L) t g=(t.getD i undefP=g i ∧ EqT L t g):=by simp [EqT]
theorem fgt_nil {h0:Heap} {L:List Nat} {t:List PV} {h:Heap}:FgT h0 [] L t h:=fun b hb => by simp at hb
def NotIn (b:Name) (L:List Nat) (t:List PV):Prop:=∀ i ∈ L,b ∉ refsP (t.getD i undefP)
theorem notIn_nil (b:Name) (t:List PV):NotIn b [] t=True:=by simp [NotIn]
theorem notIn_cons (b:Name) (i:Nat) (L:List Nat) (t:List PV):NotIn b (i::L) t=(b ∉ refsP (t.getD i undefP) ∧ NotIn b L t):=by simp [NotIn]
theorem drop_some {h:Heap} {bs:List Name} {c:Name} {x:Box} (hd:h.drop bs c=some x):h c=some x:=by
  rw [Heap.drop_at] at hd
  split at hd
  · cases hd
  · exact hd
theorem drop_cons_some {h:Heap} {b:Name} {bs:List Name} {c:Name} {x:Box} (hd:h.drop (b::bs) c=some x):h.drop bs c=some x:=by
  rw [Heap.drop_at] at hd ⊢
  split at hd
  · cases hd
  · rename_i hn
    rw [if_neg (fun hm => hn (List.mem_cons_of_mem _ hm))]; exact hd
theorem fgt_cons {h0:Heap} {b:Name} {bs:List Name} {L:List Nat} {t:List PV} {h:Heap} (h1:h0 b=none) (h2:NotIn b L t) (h3:noVar b h) (h4:FgT h0 bs L t h):FgT h0 (b::bs) L t h:=fun c hc => by
  rcases List.mem_cons.1 hc with rfl|hc
  · exact ⟨h1,h2,fun d ds hd => h3 d ds (drop_some hd)⟩
  · exact ⟨(h4 c hc).1,(h4 c hc).2.1,fun d ds hd => (h4 c hc).2.2 d ds (drop_cons_some hd)⟩
theorem fgt_mk {h0 h':Heap} {bs:List Name} {L:List Nat} {t:List PV} {h:Heap} (hd:h.drop bs=h') (h1:∀ b ∈ bs,h0 b=none) (h2:∀ b ∈ bs,NotIn b L t) (h3:∀ b ∈ bs,noVar b h'):FgT h0 bs L t h:=fun c hc =>
  ⟨h1 c hc,h2 c hc,by rw [hd]; exact h3 c hc⟩
theorem of_refsL {b:Name}:∀ {ps:List PV},b ∈ refsL ps → ∃ p ∈ ps,b ∈ refsP p
  | [],h => by simp [refsL] at h
  | p::ps,h => by
    rw [refsL_cons',List.mem_append] at h
    rcases h with h|h
    · exact ⟨p,by simp,h⟩
    · obtain ⟨q,h1,h2⟩:=of_refsL h; exact ⟨q,by simp [h1],h2⟩
theorem fgt_forget {h0:Heap} {n:Nat} {bs:List Name} {L:List Nat} {t:List PV} {h:Heap} (hl:t.length=n) (hf:FgT h0 bs L t h):Forget h0 t h (ksOf n L) bs:=by
  refine ⟨by simp [ksOf,hl],fun b hb => (hf b hb).1,fun b hb hm => ?_,fun c cs hc b hb => (hf b hb).2.2 c cs hc⟩
  rw [keep_toL (g:=fun i => t.getD i undefP) hl (fun i _ => rfl)] at hm
  obtain ⟨p,h1,h2⟩:=of_refsL hm
  unfold toL at h1
  obtain ⟨i,hi,rfl⟩:=List.mem_map.1 h1
  rw [pickF_eq] at h2
  split at h2
  · rename_i hL; exact (hf b hb).2.1 i hL h2
  · simp [refsP] at h2
section
variable {P:Program} {C:CallRel} {h0:Heap} {base:Name} {Qf:Ex → List PV → Heap → Prop} {k:List It} {h:Heap}
def RoundH (P:Program) (C:CallRel) (h0:Heap) (base:Name) (Qf:Ex → List PV → Heap → Prop) (k:List It) (n:Nat) (L:List Nat) (bs:List Name) (m:Nat) (Φ:Nat → Prop) (F:Nat → Nat → PV) (hh:Nat → Heap) (j:Nat):Ex → List PV → Heap → Prop
  | .normal,t,h => t.length=n ∧ LtN j m ∧ FgT h0 bs L t h ∧ Φ (j + 1) ∧ EqT L t (F (j + 1)) ∧ h.drop bs=hh (j + 1)
  | e,t,h => K P C h0 base Qf k e t h
variable {n:Nat} {L:List Nat} {bs:List Name} {m:Nat} {Φ:Nat → Prop} {F:Nat → Nat → PV} {hh:Nat → Heap} {j:Nat} {t:List PV}
theorem RoundH_normal {g:Nat → PV}:RoundH P C h0 base Qf k n L bs m Φ F hh j .normal (toL n g) h=(LtN j m ∧ FgT h0 bs L (toL n g) h ∧ Φ (j + 1) ∧ EqT L (toL n g) (F (j + 1)) ∧ h.drop bs=hh (j + 1)):=by
  show ((toL n g).length=n ∧ _)=_
  rw [toL_len]; simp
theorem RoundH_exit {id:Nat}:RoundH P C h0 base Qf k n L bs m Φ F hh j (.exit id) t h=K P C h0 base Qf k (.exit id) t h:=rfl
theorem RoundH_ret:RoundH P C h0 base Qf k n L bs m Φ F hh j .ret t h=K P C h0 base Qf k .ret t h:=rfl
theorem K_loopH {b : Code} {f : Nat → PV} (L : List Nat) (bs : List Name) (a m : Nat) (Φ : Nat → Prop) (u : Nat → List (Nat × PV)) (hh : Nat → Heap) (h1 : FgT h0 bs L (toL n f) h) (h2 : EqT L (toL n f) (updl f (u a))) (h3 : h.drop bs = hh a) (ha : a ≤ m) (hΦ : Φ a) (hL : ∀ i ∈ L, i < n)
    (hr:∀ j,j ≤ m → Φ j → K P C h0 base (RoundH P C h0 base Qf k n L bs m Φ (fun j => updl f (u j)) hh j) [.code b] .normal (toL n (pickF L (updl f (u j)))) (hh j)):K P C h0 base Qf (.code (.loop b)::k) .normal (toL n f) h:=by
  refine K_loopI (ksOf n L) bs (m - a) (fun r t' h' => ∃ j,r=m - j ∧ j ≤ m ∧ Φ j ∧ t'=toL n (pickF L (updl f (u j))) ∧ h'=hh j) (fgt_forget (toL_len n f) h1) ⟨a,rfl,ha,hΦ,keep_toL (toL_len n f) h2,h3⟩ ?_
  rintro r t' h' ⟨j,hm,hj,hp,rfl,rfl⟩
  refine K_mono (e:=.normal) (k:=[]) (fun e t2 h2 hq => ?_) (hr j hj hp)
  cases e with
  | normal =>
    obtain ⟨g0,g1,g2,g3,g4,g5⟩:t2.length=n ∧ LtN j m ∧ FgT h0 bs L t2 h2 ∧ Φ (j + 1) ∧ EqT L t2 (updl f (u (j + 1))) ∧ h2.drop bs=hh (j + 1):=hq
    have g1:j < m:=g1
    exact ⟨m - (j + 1),by omega,fgt_forget g0 g2,j + 1,rfl,g1,g3,keep_toL g0 g4,g5⟩
  | exit id => exact hq
  | ret => exact hq
end
section
variable {P:Program} {h0:Heap} {base:Name} {Qf:Ex → List PV → Heap → Prop} {k:List It} {h:Heap} {t:List PV}
theorem callee_fn (g:FuncId) (as:Array Operand) (ts:Array TypeId):calleeOf t ⟨.value (.func g),as,ts⟩=some (g,as.toList.map (St.opnd t)):=by
  simp [calleeOf,St.opnd]
theorem K_call_fn {id : Nat} {ops : Array Oper} {i : Nat} {o : Oper} {os : List Oper} {g : FuncId} {as : Array Operand} {ts : Array TypeId} {largs : List PV} {v : PV} (hs : CallsP P g largs v) (ho : o.op = .call ⟨.value (.func g), as, ts⟩) (he : enterB P g = true)
    (hl:mapO (lowerA h) (as.toList.map (St.opnd t))=some largs)
    (hk:K P (CallR P) h0 base Qf (.ops id ops (i + 1) os::k) .normal (putT t o.dst v) (h.ups (if scalT v then [] else freezeOf h ((as.toList.map (St.opnd t)).flatMap boxesA)))) :
    K P (CallR P) h0 base Qf (.call id ops i o os::k) .normal t h :=
  K_call_pure hs ho (callee_fn g as ts) he hl hk
theorem K_dcall_fn {id : Nat} {ops : Array Oper} {i : Nat} {o : Oper} {os : List Oper} {acc : List Keys} {g : FuncId} {as : Array Operand} {ts : Array TypeId} {largs : List PV} {v : PV} (hs : CallsP P g largs v) (ho : o.op = .call ⟨.value (.func g), as, ts⟩) (he : enterB P g = true)
    (hl:mapO (lowerA h) (as.toList.map (St.opnd t))=some largs)
    (hk:K P (CallR P) h0 base Qf (.dops id ops (i + 1) os ((keysU (if scalT v then [] else freezeOf h ((as.toList.map (St.opnd t)).flatMap boxesA)),keyN ((id,i)::base)::(((as.toList.map (St.opnd t)).flatMap boxesA).map keyN ++ keysL ((opnL o.op).map (St.opnd t))))::acc)::k) .normal (putT t o.dst v)
      (h.ups (if scalT v then [] else freezeOf h ((as.toList.map (St.opnd t)).flatMap boxesA)))) :
    K P (CallR P) h0 base Qf (.dcall id ops i o os acc::k) .normal t h :=
  K_dcall_keys hs ho (callee_fn g as ts) he hl hk
end
def sim6 :=
  And.intro @toL_len<|And.intro @toL_get?<|And.intro @toL_getD<|And.intro @toL_set<|And.intro @upd_at<|And.intro @argsF_at<|And.intro @deadF_at<|And.intro @updl_nil<|And.intro @updl_cons<|And.intro @pickF_nil<|And.intro @pickF_cons<|And.intro @EqT_nil<|And.intro @EqT_cons<|And.intro @RoundH_normal<|And.intro @RoundH_exit<|@RoundH_ret
end Go.Proofs.Ytmalpmnmknpphaa.TM
namespace Go.Proofs.Ytmalpmnmknpphaa.TM
open Go
theorem XInv.start (ops:Array Oper):XInv ops [] 0 ops.toList:=⟨rfl,rfl⟩
theorem XInv.at {ops:Array Oper} {ds:List (Option Tmp)} {i:Nat} {o:Oper} {os:List Oper} (h:XInv ops ds i (o::os)):i < ops.toList.length ∧ ops.toList[i]?=some o:=by
  have h1:=congrArg (·[0]?) h.1
  simp only [List.getElem?_drop,List.getElem?_cons_zero,Nat.add_zero] at h1
  exact ⟨(List.getElem?_eq_some_iff.1 h1).1,h1⟩
theorem XInv.step {ops:Array Oper} {ds:List (Option Tmp)} {i:Nat} {o:Oper} {os:List Oper} (h:XInv ops ds i (o::os)):XInv ops (o.dst::ds) (i + 1) os:=by
  obtain ⟨h1,h2⟩:=h.at
  refine ⟨?_,?_⟩
  · rw [← List.drop_drop,h.1]; rfl
  · rw [List.reverse_cons,h.2,List.take_succ_eq_append_getElem h1,List.map_append,List.map_cons,List.map_nil]
    have:ops.toList[i]=o:=by
      have:=List.getElem?_eq_getElem h1
      rw [h2] at this
      exact (Option.some.inj this).symm
    rw [this]
theorem XInv.dst {ops:Array Oper} {ds:List (Option Tmp)} {i:Nat} {os:List Oper} (h:XInv ops ds i os) (hi:i ≤ ops.toList.length) {j:Nat} (hj:j < i):(ops[j]?).bind (·.dst)=(ds[i - 1 - j]?).join:=by
  have hlen:ds.length=i:=by
    have:=congrArg List.length h.2
    simp only [List.length_reverse,List.length_map,List.length_take] at this
    omega
  have h3:ds[i - 1 - j]?=ds.reverse[j]?:=by
    rw [List.getElem?_reverse (by omega),hlen]
  rw [h3,h.2,List.getElem?_map,List.getElem?_take,if_pos hj,← Array.getElem?_toList]
  cases ops.toList[j]? <;> rfl
def guardV:Option PV → Bool → Option Bool
  | some (.i (.v (.bool b))),want => some (b == want)
  | some (.tup []),_ => some false
  | _,_ => none
def guardF (ops:Array Oper) (_:DepA ops) (t:List PV) (j:Nat) (want:Bool):Option Bool:=guardV (((ops[j]?).bind (·.dst)).bind (t[·]?)) want
def slotO (t:List PV):Option Tmp → Option PV
  | some k => t[k]?
  | none => none
theorem slotO_some (t:List PV) (k:Tmp):slotO t (some k)=t[k]?:=rfl
theorem slotO_none (t:List PV):slotO t none=none:=rfl
theorem slotO_eq (t:List PV) (o:Option Tmp):o.bind (t[·]?)=slotO t o:=by cases o <;> rfl
def guardD (ops:Array Oper) (a:DepA ops) (i:Nat) (ds:List (Option Tmp)) (t:List PV):Option (Nat × Bool) → Option Bool
  | none => some true
  | some (j,want) => if j < i then guardV (slotO t (ds[i - 1 - j]?).join) want else guardF ops a t j want
theorem guardB_some {ops:Array Oper} {o:Oper} {j:Nat} {want:Bool} (hgg:o.guard=some (j,want)) (t:List PV):guardB ops t o=guardV (((ops[j]?).bind (·.dst)).bind (t[·]?)) want:=by
  unfold guardB
  rw [hgg]
  simp only
  generalize ((ops[j]?).bind (·.dst)).bind (t[·]?)=x
  unfold guardV
  split
  · rfl
  · rfl
  · split <;> simp_all
theorem guardD_eq {ops:Array Oper} {ds:List (Option Tmp)} {i:Nat} {o:Oper} {os:List Oper} (h:XInv ops ds i (o::os)) (t:List PV):guardB ops t o=guardD ops .mk i ds t o.guard:=by
  cases hgg:o.guard with
  | none => unfold guardB; rw [hgg]; rfl
  | some q =>
    obtain ⟨j,want⟩:=q
    rw [guardB_some hgg]
    show _=if j < i then guardV (slotO t (ds[i - 1 - j]?).join) want else guardF ops .mk t j want
    by_cases hj:j < i
    · rw [if_pos hj,h.dst (Nat.le_of_lt h.at.1) hj,slotO_eq]
    · rw [if_neg hj]; rfl
theorem guardD_none (ops:Array Oper) (a:DepA ops) (i:Nat) (ds:List (Option Tmp)) (t:List PV):guardD ops a i ds t none=some true:=rfl
theorem guardD_some (ops:Array Oper) (a:DepA ops) (i:Nat) (ds:List (Option Tmp)) (t:List PV) (j:Nat) (want:Bool):guardD ops a i ds t (some (j,want))=if j < i then guardV (slotO t (ds[i - 1 - j]?).join) want else guardF ops a t j want:=rfl
theorem guardV_bool (b want:Bool):guardV (some (.i (.v (.bool b)))) want=some (b == want):=rfl
theorem guardV_tup (want:Bool):guardV (some (.tup [])) want=some false:=rfl
theorem join_some (d:Option Tmp):Option.join (some d)=d:=rfl
section
variable {P:Program} {C:CallRel} {h0:Heap} {base:Name} {Qf:Ex → List PV → Heap → Prop} {k:List It} {t:List PV} {h:Heap}
theorem X_seq (a b:Code) (d:Dep (.seq a b)):K P C h0 base Qf (.lk (.seq a b) d::k) .normal t h=K P C h0 base Qf (.lk a .mk::.lk b .mk::k) .normal t h:=by
  show W P C h0 base a t h _=W P C h0 base a t h _
  congr 1
  funext e t' h'
  cases e <;> rfl
theorem X_skip (d:Dep .skip):K P C h0 base Qf (.lk .skip d::k) .normal t h=K P C h0 base Qf k .normal t h:=rfl
theorem X_exit (id:Nat) (d:Dep (.exit id)):K P C h0 base Qf (.lk (.exit id) d::k) .normal t h=K P C h0 base Qf k (.exit id) t h:=rfl
theorem X_retc (d:Dep .ret):K P C h0 base Qf (.lk .ret d::k) .normal t h=K P C h0 base Qf k .ret t h:=rfl
theorem X_exit_lk (c:Code) (d:Dep c) (j:Nat):K P C h0 base Qf (.lk c d::k) (.exit j) t h=K P C h0 base Qf k (.exit j) t h:=rfl
theorem X_block (id:Nat) (b:Code) (d:Dep (.block id b)):K P C h0 base Qf (.lk (.block id b) d::k) .normal t h=K P C h0 base Qf (.lk b .mk::.inB id::k) .normal t h :=
  K_block id b
variable (P C h0 base Qf) in
def Xif (p:PV) (x y:Code) (dx:Dep x) (dy:Dep y) (k:List It) (t:List PV) (h:Heap):Prop :=
  match p with
  | .i (.v (.bool b)) => if b=true then K P C h0 base Qf (.lk x dx::k) .normal t h else K P C h0 base Qf (.lk y dy::k) .normal t h
  | _ => False
theorem Xif_true (x y:Code) (dx:Dep x) (dy:Dep y):Xif P C h0 base Qf (.i (.v (.bool true))) x y dx dy k t h=K P C h0 base Qf (.lk x .mk::k) .normal t h:=rfl
theorem Xif_false (x y:Code) (dx:Dep x) (dy:Dep y):Xif P C h0 base Qf (.i (.v (.bool false))) x y dx dy k t h=K P C h0 base Qf (.lk y .mk::k) .normal t h:=rfl
theorem X_cond (c:Operand) (x y:Code) (d:Dep (.cond c x y)):K P C h0 base Qf (.lk (.cond c x y) d::k) .normal t h=Xif P C h0 base Qf (St.opnd t c) x y .mk .mk k t h:=rfl
theorem X_regionL (id:Nat) (l:List Oper) (d:Dep (.region id l.toArray false)):K P C h0 base Qf (.lk (.region id l.toArray false) d::k) .normal t h=K P C h0 base Qf (.xops id l.toArray [] 0 l ⟨XInv.start l.toArray⟩::k) .normal t h:=rfl
theorem X_drawL (id:Nat) (l:List Oper) (d:Dep (.region id l.toArray true)):K P C h0 base Qf (.lk (.region id l.toArray true) d::k) .normal t h=K P C h0 base Qf (.xdops id l.toArray [] 0 l ⟨XInv.start l.toArray⟩ []::k) .normal t h:=K_draw id l.toArray
theorem X_nil (id:Nat) (ops:Array Oper) (ds:List (Option Tmp)) (i:Nat) (pf:XPf ops ds i []):K P C h0 base Qf (.xops id ops ds i [] pf::k) .normal t h=K P C h0 base Qf k .normal t h:=rfl
variable (P C h0 base Qf) in
def Xg (g:Option Bool) (d:Option Tmp) (p:Op) (nm:Name) (R Rc:It) (k:List It) (t:List PV) (h:Heap):Prop :=
  match g with
  | none => False
  | some g => if g = true then (if callX p = true then K P C h0 base Qf (Rc :: k) .normal t h else (match stepOp P h nm (St.opnd t) p with
      | some out => K P C h0 base Qf (R::k) .normal (putT t d out.val) (h.ups out.ups)
      | none => False)) else K P C h0 base Qf (R::k) .normal (putT t d undefP) h
variable (P C h0 base Qf) in
def Xo (b:Bool) (d:Option Tmp) (p:Op) (nm:Name) (R Rc:It) (k:List It) (t:List PV) (h:Heap):Prop :=
  if b = true then K P C h0 base Qf (Rc :: k) .normal t h else (match stepOp P h nm (St.opnd t) p with
      | some out => K P C h0 base Qf (R::k) .normal (putT t d out.val) (h.ups out.ups)
      | none => False)
variable (P C h0 base Qf) in
def Xr (r:Option Out) (d:Option Tmp) (R:It) (k:List It) (t:List PV) (h:Heap):Prop :=
  match r with
  | some out => K P C h0 base Qf (R::k) .normal (putT t d out.val) (h.ups out.ups)
  | none => False
theorem Xg_true (d:Option Tmp) (p:Op) (nm:Name) (R Rc:It):Xg P C h0 base Qf (some true) d p nm R Rc k t h=Xo P C h0 base Qf (callX p) d p nm R Rc k t h:=rfl
theorem Xg_false (d:Option Tmp) (p:Op) (nm:Name) (R Rc:It):Xg P C h0 base Qf (some false) d p nm R Rc k t h=K P C h0 base Qf (R::k) .normal (putT t d undefP) h:=rfl
theorem Xo_true (d:Option Tmp) (p:Op) (nm:Name) (R Rc:It):Xo P C h0 base Qf true d p nm R Rc k t h=K P C h0 base Qf (Rc::k) .normal t h:=rfl
theorem Xo_false (d:Option Tmp) (p:Op) (nm:Name) (R Rc:It):Xo P C h0 base Qf false d p nm R Rc k t h=Xr P C h0 base Qf (stepOp P h nm (St.opnd t) p) d R k t h:=rfl
theorem Xr_some (v:PV) (us:List (Name × Box)) (d:Option Tmp) (R:It):Xr P C h0 base Qf (some ⟨v,us⟩) d R k t h=K P C h0 base Qf (R::k) .normal (putT t d v) (h.ups us):=rfl
end
section
variable {P:Program} {C:CallRel} {h0:Heap} {base:Name} {Qf:Ex → List PV → Heap → Prop} {k:List It} {t:List PV} {h:Heap}
theorem X_ops0 (id:Nat) (ops:Array Oper) (ds:List (Option Tmp)) (i:Nat) (o:Oper) (os:List Oper) (pf:XPf ops ds i (o::os)) :
    K P C h0 base Qf (.xops id ops ds i (o::os) pf::k) .normal t h=Xg P C h0 base Qf (guardD ops .mk i ds t o.guard) o.dst o.op ((id,i)::base) (.xops id ops (o.dst::ds) (i + 1) os ⟨pf.h.step⟩) (.xcall id ops ds i o os pf) k t h:=by
  show K P C h0 base Qf (.ops id ops i (o::os)::k) .normal t h=_
  rw [K_ops,guardD_eq pf.h]
  unfold Kgrd Xg
  cases guardD ops .mk i ds t o.guard with
  | none => rfl
  | some g =>
    cases g with
    | false => rfl
    | true =>
      simp only [if_true]
      rw [K_one]
      unfold Kone
      rfl
theorem X_ops (id:Nat) (ops:Array Oper) (ds:List (Option Tmp)) (i:Nat) (d:Option Tmp) (p:Op) (ty:TypeId) (ps:String) (af:Array Edge) (g:Option (Nat × Bool)) (os:List Oper) (pf:XPf ops ds i ({ dst:=d,op:=p,type:=ty,pos:=ps,after:=af,guard:=g }::os)) :
    K P C h0 base Qf (.xops id ops ds i ({ dst:=d,op:=p,type:=ty,pos:=ps,after:=af,guard:=g }::os) pf::k) .normal t h =
    Xg P C h0 base Qf (guardD ops .mk i ds t g) d p ((id,i)::base) (.xops id ops (d::ds) (i + 1) os ⟨pf.h.step⟩) (.xcall id ops ds i { dst:=d,op:=p,type:=ty,pos:=ps,after:=af,guard:=g } os pf) k t h :=
  X_ops0 id ops ds i _ os pf
theorem X_opc {id : Nat} {ops : Array Oper} {ds : List (Option Tmp)} {i : Nat} {d : Option Tmp} {p : Op} {ty : TypeId} {ps : String} {af : Array Edge} {g0 : Option (Nat × Bool)} {os : List Oper} {pf : XPf ops ds i ({ dst := d, op := p, type := ty, pos := ps, after := af, guard := g0 } :: os)} (hv : callB p = false)
    (hk:Xr P C h0 base Qf (stepOp P h ((id,i)::base) (St.opnd t) p) d (.xops id ops (d::ds) (i + 1) os ⟨pf.h.step⟩) k t h) :
    K P C h0 base Qf (.xcall id ops ds i { dst:=d,op:=p,type:=ty,pos:=ps,after:=af,guard:=g0 } os pf::k) .normal t h:=by
  unfold Xr at hk
  split at hk
  · rename_i out hs; exact ⟨_,_,.inl ⟨out,hs,rfl,rfl⟩,hk⟩
  · exact hk.elim
theorem X_opn (s : Name) {id : Nat} {ops : Array Oper} {ds : List (Option Tmp)} {i : Nat} {d : Option Tmp} {p : Op} {ty : TypeId} {ps : String} {af : Array Edge} {g0 : Option (Nat × Bool)} {os : List Oper} {pf : XPf ops ds i ({ dst := d, op := p, type := ty, pos := ps, after := af, guard := g0 } :: os)} (hv : callX p = true)
    (hk:Xr P C h0 base Qf (stepOp P h s (St.opnd t) p) d (.xops id ops (d::ds) (i + 1) os ⟨pf.h.step⟩) k t h) :
    K P C h0 base Qf (.xcall id ops ds i { dst:=d,op:=p,type:=ty,pos:=ps,after:=af,guard:=g0 } os pf::k) .normal t h:=by
  unfold Xr at hk
  split at hk
  · rename_i out hs; exact ⟨_,_,.inr (.inl ⟨s,out,hv,.inl hs,rfl,rfl⟩),hk⟩
  · exact hk.elim
theorem X_opa (s : Name) {id : Nat} {ops : Array Oper} {ds : List (Option Tmp)} {i : Nat} {d : Option Tmp} {p : Op} {ty : TypeId} {ps : String} {af : Array Edge} {g0 : Option (Nat × Bool)} {os : List Oper} {pf : XPf ops ds i ({ dst := d, op := p, type := ty, pos := ps, after := af, guard := g0 } :: os)} (hv : callX p = true)
    (hk:Xr P C h0 base Qf (stepAlt P h s (St.opnd t) p) d (.xops id ops (d::ds) (i + 1) os ⟨pf.h.step⟩) k t h) :
    K P C h0 base Qf (.xcall id ops ds i { dst:=d,op:=p,type:=ty,pos:=ps,after:=af,guard:=g0 } os pf::k) .normal t h:=by
  unfold Xr at hk
  split at hk
  · rename_i out hs; exact ⟨_,_,.inr (.inl ⟨s,out,hv,.inr hs,rfl,rfl⟩),hk⟩
  · exact hk.elim
variable (P C h0 base Qf) in
def Xdg (g:Option Bool) (d:Option Tmp) (p:Op) (nm:Name) (R:List Keys → It) (Rc:It) (acc:List Keys) (k:List It) (t:List PV) (h:Heap):Prop :=
  match g with
  | none => False
  | some g => if g = true then (if callX p = true then K P C h0 base Qf (Rc :: k) .normal t h else (match stepOp P h nm (St.opnd t) p with
      | some out => K P C h0 base Qf (R ((keysU out.ups,keysT nm p ((opnL p).map (St.opnd t)))::acc)::k) .normal (putT t d out.val) (h.ups out.ups)
      | none => False)) else K P C h0 base Qf (R (([],[])::acc)::k) .normal (putT t d undefP) h
def mkD (id:Nat) (ops:Array Oper) (ds:List (Option Tmp)) (i:Nat) (os:List Oper) (pf:XPf ops ds i os):List Keys → It:=fun acc => .xdops id ops ds i os pf acc
variable (P C h0 base Qf) in
def Xdo (b:Bool) (d:Option Tmp) (p:Op) (nm:Name) (R:List Keys → It) (Rc:It) (acc:List Keys) (k:List It) (t:List PV) (h:Heap):Prop :=
  if b = true then K P C h0 base Qf (Rc :: k) .normal t h else (match stepOp P h nm (St.opnd t) p with
      | some out => K P C h0 base Qf (R ((keysU out.ups,keysT nm p ((opnL p).map (St.opnd t)))::acc)::k) .normal (putT t d out.val) (h.ups out.ups)
      | none => False)
variable (P C h0 base Qf) in
def Xdr (r:Option Out) (d:Option Tmp) (p:Op) (nm:Name) (R:List Keys → It) (acc:List Keys) (k:List It) (t:List PV) (h:Heap):Prop :=
  match r with
  | some out => K P C h0 base Qf (R ((keysU out.ups,keysT nm p ((opnL p).map (St.opnd t)))::acc)::k) .normal (putT t d out.val) (h.ups out.ups)
  | none => False
theorem Xdg_true (d:Option Tmp) (p:Op) (nm:Name) (R:List Keys → It) (Rc:It) (acc:List Keys):Xdg P C h0 base Qf (some true) d p nm R Rc acc k t h=Xdo P C h0 base Qf (callX p) d p nm R Rc acc k t h:=rfl
theorem Xdg_false (d:Option Tmp) (p:Op) (nm:Name) (id:Nat) (ops:Array Oper) (ds:List (Option Tmp)) (i:Nat) (os:List Oper) (pf:XPf ops ds i os) (Rc:It) (acc:List Keys):Xdg P C h0 base Qf (some false) d p nm (mkD id ops ds i os pf) Rc acc k t h=K P C h0 base Qf (.xdops id ops ds i os pf (([],[])::acc)::k) .normal (putT t d undefP) h:=rfl
theorem Xdo_true (d:Option Tmp) (p:Op) (nm:Name) (R:List Keys → It) (Rc:It) (acc:List Keys):Xdo P C h0 base Qf true d p nm R Rc acc k t h=K P C h0 base Qf (Rc::k) .normal t h:=rfl
theorem Xdo_false (d:Option Tmp) (p:Op) (nm:Name) (R:List Keys → It) (Rc:It) (acc:List Keys):Xdo P C h0 base Qf false d p nm R Rc acc k t h=Xdr P C h0 base Qf (stepOp P h nm (St.opnd t) p) d p nm R acc k t h:=rfl
theorem Xdr_some (v:PV) (us:List (Name × Box)) (d:Option Tmp) (p:Op) (nm:Name) (id:Nat) (ops:Array Oper) (ds:List (Option Tmp)) (i:Nat) (os:List Oper) (pf:XPf ops ds i os) (acc:List Keys):Xdr P C h0 base Qf (some ⟨v,us⟩) d p nm (mkD id ops ds i os pf) acc k t h =
    K P C h0 base Qf (.xdops id ops ds i os pf ((keysU us,keysT nm p ((opnL p).map (St.opnd t)))::acc)::k) .normal (putT t d v) (h.ups us):=rfl
theorem X_dops0 (id:Nat) (ops:Array Oper) (ds:List (Option Tmp)) (i:Nat) (o:Oper) (os:List Oper) (pf:XPf ops ds i (o::os)) (acc:List Keys) :
    K P C h0 base Qf (.xdops id ops ds i (o::os) pf acc::k) .normal t h=Xdg P C h0 base Qf (guardD ops .mk i ds t o.guard) o.dst o.op ((id,i)::base) (mkD id ops (o.dst::ds) (i + 1) os ⟨pf.h.step⟩) (.xdcall id ops ds i o os pf acc) acc k t h:=by
  show K P C h0 base Qf (.dops id ops i (o::os) acc::k) .normal t h=_
  rw [K_dops,guardD_eq pf.h]
  unfold Kdgrd Xdg
  cases guardD ops .mk i ds t o.guard with
  | none => rfl
  | some g =>
    cases g with
    | false => rfl
    | true =>
      simp only [if_true]
      rw [K_done]
      unfold Kdone
      split
      · rfl
      · unfold Kdres
        cases stepOp P h ((id,i)::base) (St.opnd t) o.op with
        | none => rfl
        | some out =>
          simp only
          rw [opndsP,opnL_eq]
          rfl
theorem X_dops (id:Nat) (ops:Array Oper) (ds:List (Option Tmp)) (i:Nat) (d:Option Tmp) (p:Op) (ty:TypeId) (ps:String) (af:Array Edge) (g:Option (Nat × Bool)) (os:List Oper) (pf:XPf ops ds i ({ dst:=d,op:=p,type:=ty,pos:=ps,after:=af,guard:=g }::os)) (acc:List Keys) :
    K P C h0 base Qf (.xdops id ops ds i ({ dst:=d,op:=p,type:=ty,pos:=ps,after:=af,guard:=g }::os) pf acc::k) .normal t h =
    Xdg P C h0 base Qf (guardD ops .mk i ds t g) d p ((id,i)::base) (mkD id ops (d::ds) (i + 1) os ⟨pf.h.step⟩) (.xdcall id ops ds i { dst:=d,op:=p,type:=ty,pos:=ps,after:=af,guard:=g } os pf acc) acc k t h :=
  X_dops0 id ops ds i _ os pf acc
theorem X_dopc {id : Nat} {ops : Array Oper} {ds : List (Option Tmp)} {i : Nat} {d : Option Tmp} {p : Op} {ty : TypeId} {ps : String} {af : Array Edge} {g0 : Option (Nat × Bool)} {os : List Oper} {pf : XPf ops ds i ({ dst := d, op := p, type := ty, pos := ps, after := af, guard := g0 } :: os)} {acc : List Keys} (hv : callB p = false)
    (hk:Xdr P C h0 base Qf (stepOp P h ((id,i)::base) (St.opnd t) p) d p ((id,i)::base) (mkD id ops (d::ds) (i + 1) os ⟨pf.h.step⟩) acc k t h) :
    K P C h0 base Qf (.xdcall id ops ds i { dst:=d,op:=p,type:=ty,pos:=ps,after:=af,guard:=g0 } os pf acc::k) .normal t h:=by
  unfold Xdr at hk
  split at hk
  · rename_i out hs
    obtain ⟨effs,h1,h2⟩:=hk
    refine ⟨⟨out.val,out.ups,_⟩,effs,.inl ⟨out,hs,rfl⟩,?_,h2⟩
    rw [opndsP,opnL_eq]
    rw [List.reverse_cons,List.append_assoc] at h1
    exact h1
  · exact hk.elim
theorem X_dopn (s : Name) {id : Nat} {ops : Array Oper} {ds : List (Option Tmp)} {i : Nat} {d : Option Tmp} {p : Op} {ty : TypeId} {ps : String} {af : Array Edge} {g0 : Option (Nat × Bool)} {os : List Oper} {pf : XPf ops ds i ({ dst := d, op := p, type := ty, pos := ps, after := af, guard := g0 } :: os)} {acc : List Keys} (hv : callX p = true)
    (hk:Xdr P C h0 base Qf (stepOp P h s (St.opnd t) p) d p s (mkD id ops (d::ds) (i + 1) os ⟨pf.h.step⟩) acc k t h) :
    K P C h0 base Qf (.xdcall id ops ds i { dst:=d,op:=p,type:=ty,pos:=ps,after:=af,guard:=g0 } os pf acc::k) .normal t h:=by
  unfold Xdr at hk
  split at hk
  · rename_i out hs
    obtain ⟨effs,h1,h2⟩:=hk
    refine ⟨⟨out.val,out.ups,_⟩,effs,.inr (.inl ⟨s,out,hv,hs,rfl⟩),?_,h2⟩
    rw [opndsP,opnL_eq]
    rw [List.reverse_cons,List.append_assoc] at h1
    exact h1
  · exact hk.elim
def drawX (ops:Array Oper) (_:DepA ops) (acc:List Keys):Prop:=drawK ops acc.reverse=true
theorem X_dnil (id:Nat) (ops:Array Oper) (ds:List (Option Tmp)) (i:Nat) (pf:XPf ops ds i []) (acc:List Keys):K P C h0 base Qf (.xdops id ops ds i [] pf acc::k) .normal t h=(drawX ops .mk acc ∧ K P C h0 base Qf k .normal t h):=K_dops_nil id ops i acc
theorem X_call_fn {id : Nat} {ops : Array Oper} {ds : List (Option Tmp)} {i : Nat} {d : Option Tmp} {p : Op} {ty : TypeId} {ps : String} {af : Array Edge} {g0 : Option (Nat × Bool)} {os : List Oper} {pf : XPf ops ds i ({ dst := d, op := p, type := ty, pos := ps, after := af, guard := g0 } :: os)} {g : FuncId} {as : Array Operand} {ts : Array TypeId} {largs : List PV} {v : PV} (ho : p = .call ⟨.value (.func g), as, ts⟩)
    (hl:mapO (lowerA h) (as.toList.map (St.opnd t))=some largs) (hs:CallsP P g largs v) (he:enterB P g=true)
    (hk:K P (CallR P) h0 base Qf (.xops id ops (d::ds) (i + 1) os ⟨pf.h.step⟩::k) .normal (putT t d v) (h.ups (if scalT v then [] else freezeOf h ((as.toList.map (St.opnd t)).flatMap boxesA)))) :
    K P (CallR P) h0 base Qf (.xcall id ops ds i { dst:=d,op:=p,type:=ty,pos:=ps,after:=af,guard:=g0 } os pf::k) .normal t h :=
  K_call_fn (i:=i) (ops:=ops) (id:=id) (os:=os) (o:={ dst:=d,op:=p,type:=ty,pos:=ps,after:=af,guard:=g0 }) hs ho he hl hk
theorem X_call_fn2 {id : Nat} {ops : Array Oper} {ds : List (Option Tmp)} {i : Nat} {d : Option Tmp} {p : Op} {ty : TypeId} {ps : String} {af : Array Edge} {g0 : Option (Nat × Bool)} {os : List Oper} {pf : XPf ops ds i ({ dst := d, op := p, type := ty, pos := ps, after := af, guard := g0 } :: os)} {g : FuncId} {as : Array Operand} {ts : Array TypeId} (ho : p = .call ⟨.value (.func g), as, ts⟩) (he : enterB P g = true)
    (hk:∃ largs,mapO (lowerA h) (as.toList.map (St.opnd t))=some largs ∧ ∃ v,CallsP P g largs v ∧ K P (CallR P) h0 base Qf (.xops id ops (d::ds) (i + 1) os ⟨pf.h.step⟩::k) .normal (putT t d v) (h.ups (if scalT v then [] else freezeOf h ((as.toList.map (St.opnd t)).flatMap boxesA)))) :
    K P (CallR P) h0 base Qf (.xcall id ops ds i { dst:=d,op:=p,type:=ty,pos:=ps,after:=af,guard:=g0 } os pf::k) .normal t h:=by
  obtain ⟨largs,hl,v,hs,hk⟩:=hk
  exact X_call_fn ho hl hs he hk
theorem X_dcall_fn {id : Nat} {ops : Array Oper} {ds : List (Option Tmp)} {i : Nat} {d : Option Tmp} {p : Op} {ty : TypeId} {ps : String} {af : Array Edge} {g0 : Option (Nat × Bool)} {os : List Oper} {pf : XPf ops ds i ({ dst := d, op := p, type := ty, pos := ps, after := af, guard := g0 } :: os)} {acc : List Keys} {g : FuncId} {as : Array Operand} {ts : Array TypeId} {largs : List PV} {v : PV} (ho : p = .call ⟨.value (.func g), as, ts⟩)
    (hl:mapO (lowerA h) (as.toList.map (St.opnd t))=some largs) (hs:CallsP P g largs v) (he:enterB P g=true)
    (hk:K P (CallR P) h0 base Qf (.xdops id ops (d::ds) (i + 1) os ⟨pf.h.step⟩ ((keysU (if scalT v then [] else freezeOf h ((as.toList.map (St.opnd t)).flatMap boxesA)),keyN ((id,i)::base)::(((as.toList.map (St.opnd t)).flatMap boxesA).map keyN ++ keysL ((opnL p).map (St.opnd t))))::acc)::k) .normal (putT t d v)
      (h.ups (if scalT v then [] else freezeOf h ((as.toList.map (St.opnd t)).flatMap boxesA)))) :
    K P (CallR P) h0 base Qf (.xdcall id ops ds i { dst:=d,op:=p,type:=ty,pos:=ps,after:=af,guard:=g0 } os pf acc::k) .normal t h :=
  K_dcall_fn (i:=i) (ops:=ops) (id:=id) (os:=os) (o:={ dst:=d,op:=p,type:=ty,pos:=ps,after:=af,guard:=g0 }) hs ho he hl hk
theorem X_dcall_fn2 {id : Nat} {ops : Array Oper} {ds : List (Option Tmp)} {i : Nat} {d : Option Tmp} {p : Op} {ty : TypeId} {ps : String} {af : Array Edge} {g0 : Option (Nat × Bool)} {os : List Oper} {pf : XPf ops ds i ({ dst := d, op := p, type := ty, pos := ps, after := af, guard := g0 } :: os)} {acc : List Keys} {g : FuncId} {as : Array Operand} {ts : Array TypeId} (ho : p = .call ⟨.value (.func g), as, ts⟩) (he : enterB P g = true)
    (hk:∃ largs,mapO (lowerA h) (as.toList.map (St.opnd t))=some largs ∧ ∃ v,CallsP P g largs v ∧ K P (CallR P) h0 base Qf (.xdops id ops (d::ds) (i + 1) os ⟨pf.h.step⟩ ((keysU (if scalT v then [] else freezeOf h ((as.toList.map (St.opnd t)).flatMap boxesA)),keyN ((id,i)::base)::(((as.toList.map (St.opnd t)).flatMap boxesA).map keyN ++ keysL ((opnL p).map (St.opnd t))))::acc)::k) .normal (putT t d v)
      (h.ups (if scalT v then [] else freezeOf h ((as.toList.map (St.opnd t)).flatMap boxesA)))) :
    K P (CallR P) h0 base Qf (.xdcall id ops ds i { dst:=d,op:=p,type:=ty,pos:=ps,after:=af,guard:=g0 } os pf acc::k) .normal t h:=by
  obtain ⟨largs,hl,v,hs,hk⟩:=hk
  exact X_dcall_fn ho hl hs he hk
theorem keysU_app (a b:List (Name × Box)):keysU (a ++ b)=keysU a ++ keysU b:=by unfold keysU; exact List.map_append
theorem X_call_sh {id : Nat} {ops : Array Oper} {ds : List (Option Tmp)} {i : Nat} {d : Option Tmp} {p : Op} {ty : TypeId} {ps : String} {af : Array Edge} {g0 : Option (Nat × Bool)} {os : List Oper} {pf : XPf ops ds i ({ dst := d, op := p, type := ty, pos := ps, after := af, guard := g0 } :: os)} {g : FuncId} {as : Array Operand} {ts : Array TypeId} {args : List PV} {v : PV} {h' : Heap} (ho : p = .call ⟨.value (.func g), as, ts⟩) (he : enterB P g = true)
    (ha:as.toList.map (St.opnd t)=args) (hs:CallR P ((id,i)::base) g args h v h')
    (hk:K P (CallR P) h0 base Qf (.xops id ops (d::ds) (i + 1) os ⟨pf.h.step⟩::k) .normal (putT t d v) h') :
    K P (CallR P) h0 base Qf (.xcall id ops ds i { dst:=d,op:=p,type:=ty,pos:=ps,after:=af,guard:=g0 } os pf::k) .normal t h:=by
  subst ha
  exact K_call_shared (i:=i) (ops:=ops) (id:=id) (os:=os) (o:={ dst:=d,op:=p,type:=ty,pos:=ps,after:=af,guard:=g0 }) hs ho (callee_fn g as ts) he hk
theorem X_call_val2 {id : Nat} {ops : Array Oper} {ds : List (Option Tmp)} {i : Nat} {d : Option Tmp} {p : Op} {ty : TypeId} {ps : String} {af : Array Edge} {g0 : Option (Nat × Bool)} {os : List Oper} {pf : XPf ops ds i ({ dst := d, op := p, type := ty, pos := ps, after := af, guard := g0 } :: os)} {f : Operand} {as : Array Operand} {ts : Array TypeId} (ho : p = .call ⟨.value f, as, ts⟩)
    (hk:∃ g,St.opnd t f=.i (.v (.func (.func g) #[] #[])) ∧ enterB P g=true ∧ ∃ largs,mapO (lowerA h) (as.toList.map (St.opnd t))=some largs ∧ ∃ v,CallsP P g largs v ∧ K P (CallR P) h0 base Qf (.xops id ops (d::ds) (i + 1) os ⟨pf.h.step⟩::k) .normal (putT t d v) (h.ups (if scalT v then [] else freezeOf h ((as.toList.map (St.opnd t)).flatMap boxesA)))) :
    K P (CallR P) h0 base Qf (.xcall id ops ds i { dst:=d,op:=p,type:=ty,pos:=ps,after:=af,guard:=g0 } os pf::k) .normal t h:=by
  obtain ⟨g,hv,he,largs,hl,v,hs,hk⟩:=hk
  refine K_call_pure (i:=i) (ops:=ops) (id:=id) (os:=os) (o:={ dst:=d,op:=p,type:=ty,pos:=ps,after:=af,guard:=g0 }) hs ho ?_ he hl hk
  simp only [calleeOf,hv]
  rfl
theorem Xr_eq {r:Option Out} {out:Out} {d:Option Tmp} {R:It} (hr:r=some out) (hk:K P C h0 base Qf (R::k) .normal (putT t d out.val) (h.ups out.ups)):Xr P C h0 base Qf r d R k t h:=by
  subst hr; exact hk
theorem X_append_one {R : It} {d : Option Tmp} {s b : Name} {ty : TypeId} (e : TypeId) (zs : List Value) {n z : Nat} {cs : List IV} (xs : List IV) {fz : Bool}
    (he:elemB P ty=some e) (hz:zeroB P e=some zs) (hzl:zs.length=z) (hz0:0 < z) (hn:cs.length=n * z) (hs:h s=if n=0 then none else some (.row false cs)) (hb:h b=some (.row fz xs)) (hx:xs.length=z)
    (hby:(n + 1) * P.bytesOf e ≤ 140737488355328) (hl:n + 1 ≤ maxLen)
    (hk:K P C h0 base Qf (R::k) .normal (putT t d (rowP s z (n + 1) (cs ++ xs))) (h.put s (.row false (cs ++ xs)))) :
    Xr P C h0 base Qf (opAppend P h s ty (rowP s z n cs) (.view b 0 z 1 z)) d R k t h:=by
  refine Xr_eq (append_row he hz hzl hz0 hn hs rfl (m:=1) rfl (by decide) (xs:=xs) ?_ hby hl) hk
  simp only [SK.cells,hb,hx,Nat.zero_add,Nat.one_mul,Nat.le_refl,and_self,if_true,List.drop_zero]
  rw [← hx,List.take_length]
inductive DepQ (q:Ex → List PV → Heap → Prop):Type where
  | mk
def LkQ (q:Ex → List PV → Heap → Prop) (_:DepQ q):Ex → List PV → Heap → Prop:=q
theorem LkQ_at (q:Ex → List PV → Heap → Prop) (d:DepQ q) (e:Ex):LkQ q d e t h=q e t h:=rfl
end
section
variable {P:Program} {C:CallRel} {h0:Heap} {base:Name} {Qf:Ex → List PV → Heap → Prop} {k:List It} {h:Heap}
theorem X_loopH {b : Code} {d : Dep (.loop b)} {n : Nat} {f : Nat → PV} (L : List Nat) (bs : List Name) (a m : Nat) (Φ : Nat → Prop) (u : Nat → List (Nat × PV)) (hh : Nat → Heap) (h1 : FgT h0 bs L (toL n f) h) (h2 : EqT L (toL n f) (updl f (u a))) (h3 : h.drop bs = hh a) (ha : a ≤ m) (hΦ : Φ a) (hL : ∀ i ∈ L, i < n)
    (hr:∀ j,j ≤ m → Φ j → K P C h0 base (LkQ (RoundH P C h0 base Qf k n L bs m Φ (fun j => updl f (u j)) hh j) .mk) [.lk b .mk] .normal (toL n (pickF L (updl f (u j)))) (hh j)):K P C h0 base Qf (.lk (.loop b) d::k) .normal (toL n f) h :=
  K_loopH L bs a m Φ u hh h1 h2 h3 ha hΦ hL hr
def RoundS (h1:Heap) (bs:List Name) (hn:Heap):Ex → List PV → Heap → Prop
  | .normal,t,h => FgT h1 bs [] t h ∧ h.drop bs=hn
  | _,_,_ => False
theorem RoundS_normal {h1:Heap} {bs:List Name} {hn:Heap} {t:List PV}:RoundS h1 bs hn .normal t h=(FgT h1 bs [] t h ∧ h.drop bs=hn):=rfl
theorem X_startR {base : Name} {f : FuncId} {fn : Func} {c : Code} {args : List PV} {h : Heap} {v : PV} {h' : Heap} {n m : Nat} {rs : List ResultVar} (hf : P.funcs[f]? = some fn) (hb : fn.body = some c) (hn : fn.ntmps = n) (hrs : fn.results.toList = rs) (hm : args.length = m) (hmn : m ≤ n)
    (hw:K P (CallR P) h base (LkQ (fun e t hh => (e=.normal ∨ e=.ret) ∧ resB P rs t hh=some v ∧ hh=h') .mk) [.lk c .mk] .normal (toL n (argsF args)) h):CallR P base f args h v h' :=
  CallR.startF hf hb hn hrs hm hmn hw
theorem X_startP {f : FuncId} {fn : Func} {c : Code} {args : List PV} {v : PV} {n m : Nat} {rs : List ResultVar} (hf : P.funcs[f]? = some fn) (hb : fn.body = some c) (hn : fn.ntmps = n) (hrs : fn.results.toList = rs) (hm : args.length = m) (hmn : m ≤ n)
    (hw:∀ base,K P (CallR P) Heap.none base (LkQ (fun e t hh => (e=.normal ∨ e=.ret) ∧ (resB P rs t hh).bind (lowerT hh)=some v) .mk) [.lk c .mk] .normal (toL n (argsF args)) Heap.none):CallsP P f args v :=
  CallsP.startF hf hb hn hrs hm hmn hw
end
def frz:Option Box → Name → List (Name × Box)
  | some (.row _ cs),b => [(b,.row true cs)]
  | _,_ => []
theorem frz_row (fz:Bool) (cs:List IV) (b:Name):frz (some (.row fz cs)) b=[(b,.row true cs)]:=rfl
theorem freezeOf_nil (h:Heap):freezeOf h []=[]:=rfl
theorem freezeOf_row (h:Heap) (b:Name) (bs:List Name):freezeOf h (b::bs)=frz (h b) b ++ freezeOf h bs:=by
  unfold freezeOf
  rw [List.filterMap_cons]
  cases h b with
  | none => rfl
  | some x => cases x <;> rfl
theorem cellsP_row (s:Name) (z n:Nat) (cs:List IV):cellsP (rowP s z n cs)=[rowP s z n cs]:=by unfold rowP; split <;> rfl
theorem oneP_row (s:Name) (z n:Nat) (cs:List IV):oneP (rowP s z n cs)=true:=by unfold rowP; split <;> rfl
def simx :=
  And.intro @X_seq<|And.intro @X_skip<|And.intro @X_exit<|And.intro @X_retc<|And.intro @X_exit_lk<|And.intro @X_block<|And.intro @Xif_true<|And.intro @Xif_false<|And.intro @X_cond<|And.intro @X_regionL<|And.intro @X_drawL<|And.intro @X_nil<|And.intro @Xg_true<|And.intro @Xg_false<|And.intro @Xo_true<|And.intro @Xo_false<|And.intro @Xr_some<|And.intro @X_ops<|And.intro @Xdg_true<|And.intro @Xdg_false<|And.intro @Xdo_true<|And.intro @Xdo_false<|And.intro @Xdr_some<|And.intro @X_dops<|And.intro @X_dnil<|And.intro @cellsP_row<|And.intro @oneP_row<|And.intro @slotO_some<|And.intro @slotO_none<|And.intro @freezeOf_nil<|And.intro @freezeOf_row<|And.intro @frz_row<|And.intro @guardD_none<|And.intro @guardD_some<|And.intro @guardV_bool<|And.intro @guardV_tup<|And.intro @join_some<|@LkQ_at
end Go.Proofs.Ytmalpmnmknpphaa.TM
namespace Go.Proofs.Ytmalpmnmknpphaa.TM
open Go
theorem zipB_none (lo hi:Option Operand):zipB lo hi none=false:=rfl
theorem zipB_mx (lo hi:Option Operand) (x:Operand):zipB lo hi (some x)=(lo.isNone && (isZ hi && isZ (some x))):=rfl
theorem len_zip:SK.len .zip=0:=rfl
theorem lowC_zip (h:Heap):lowerC h .zip=some (.i (.l 0 [])):=rfl
theorem lowA_zip (h:Heap):lowerA h .zip=lowerC h .zip:=rfl
theorem lowT_zip (h:Heap):lowerT h .zip=lowerA h .zip:=rfl
theorem keysL_mref (b:Name) (ps:List PV):keysL (.mref b::ps)=keyN b::keysL ps:=rfl
theorem keysL_zip (ps:List PV):keysL (.zip::ps)=keysL ps:=rfl
def clo1 (f:FuncId):Option PV → Option PV
  | some a => some (.clo f [a])
  | none => none
def clo2 (f:FuncId):Option PV → Option PV → Option PV
  | some a,some b => some (.clo f [a,b])
  | _,_ => none
theorem clo1_some (f:FuncId) (a:PV):clo1 f (some a)=some (.clo f [a]):=rfl
theorem clo2_some (f:FuncId) (a b:PV):clo2 f (some a) (some b)=some (.clo f [a,b]):=rfl
theorem lowT_clo1 (h:Heap) (f:FuncId) (p:PV):lowerT h (.clo f [p])=clo1 f (lowerK h p):=by
  show (mapO (lowerK h) [p]).map (PV.clo f)=_
  simp only [mapO]
  cases lowerK h p <;> rfl
theorem lowT_clo2 (h:Heap) (f:FuncId) (p q:PV):lowerT h (.clo f [p,q])=clo2 f (lowerK h p) (lowerK h q):=by
  show (mapO (lowerK h) [p,q]).map (PV.clo f)=_
  simp only [mapO]
  cases lowerK h p <;> cases lowerK h q <;> rfl
theorem lowA_clo1 (h:Heap) (f:FuncId) (p:PV):lowerA h (.clo f [p])=clo1 f (lowerD p):=by
  show (mapO lowerD [p]).map (PV.clo f)=_
  simp only [mapO]
  cases lowerD p <;> rfl
theorem lowA_clo2 (h:Heap) (f:FuncId) (p q:PV):lowerA h (.clo f [p,q])=clo2 f (lowerD p) (lowerD q):=by
  show (mapO lowerD [p,q]).map (PV.clo f)=_
  simp only [mapO]
  cases lowerD p <;> cases lowerD q <;> rfl
def lowKB:Option Box → Option PV
  | some (.var [.i x]) => some (.iref [x] 0)
  | _ => none
theorem lowK_ref (h:Heap) (b:Name):lowerK h (.ref b 0 1)=lowKB (h b):=by
  unfold lowerK
  simp only
  generalize h b=o
  split
  · rfl
  · rename_i hn
    unfold lowKB
    split
    · exact absurd rfl (hn _)
    · rfl
theorem lowKB_var (x:IV):lowKB (some (.var [.i x]))=some (.iref [x] 0):=rfl
theorem lowD_iref (cs:List IV) (o:Nat):lowerD (.iref cs o)=some (.iref cs o):=rfl
theorem lowD_v (x:Value):lowerD (.i (.v x))=some (.i (.v x)):=rfl
theorem scalT_clo (f:FuncId) (cs:List PV):scalT (.clo f cs)=false:=rfl
theorem scalC_clo (f:FuncId) (cs:List PV):scalC (.clo f cs)=false:=rfl
theorem boxesA_clo (f:FuncId) (cs:List PV):boxesA (.clo f cs)=[]:=rfl
def zzK:=And.intro @keysU_app<|And.intro @clo1_some<|And.intro @clo2_some<|And.intro @lowT_clo1<|And.intro @lowT_clo2<|And.intro @lowA_clo1<|And.intro @lowA_clo2<|And.intro @lowK_ref<|And.intro @lowKB_var<|And.intro @lowD_iref<|And.intro @lowD_v<|And.intro @scalT_clo<|And.intro @scalC_clo<|@boxesA_clo
def zzB0 :=
  And.intro @sims<|And.intro @sim5<|And.intro @sim6<|And.intro @List.filterMap_cons.{0,0}<|And.intro @imp_self<|And.intro @false_imp_iff<|And.intro @true_imp_iff<|And.intro @zeroRow_zero<|And.intro @zeroRow_succ<|And.intro @List.flatten_cons.{0}<|And.intro @List.flatten_nil.{0}<|And.intro @List.replicate_succ.{0}<|And.intro @List.replicate_zero.{0}<|And.intro @Nat.le_refl<|And.intro @rowH_app<|And.intro @Kdres_keys<|And.intro @RoundG_normal<|And.intro @RoundG_exit<|And.intro @RoundG_ret<|And.intro @guardB.eq_1<|And.intro @just.eq_1<|And.intro @sim7<|And.intro @opMake.eq_1<|And.intro @putT.eq_1<|And.intro @putT.eq_2<|And.intro @undefP.eq_1<|And.intro @SK.len.eq_1<|And.intro @SK.len.eq_2<|And.intro @SK.len.eq_3<|@SK.pv.eq_1
def zzB1 :=
  And.intro @SK.pv.eq_2<|And.intro @SK.pv.eq_3<|And.intro @opIndexAddr.eq_1<|And.intro @opFieldAddr.eq_1<|And.intro @partP.eq_1<|And.intro @opBox.eq_1<|And.intro @opAlloc.eq_1<|And.intro @opBuild.eq_1<|And.intro @opBuildSlice.eq_1<|And.intro @fillP.eq_1<|And.intro @fillP.eq_2<|And.intro @Places.get.eq_1<|And.intro @Places.get.eq_2<|And.intro @newBox.eq_1<|And.intro @Heap.none_at<|And.intro @Heap.put_at<|And.intro @List.cons.injEq.{0}<|And.intro @Prod.mk.injEq.{0,0}<|And.intro @Nat.succ_ne_zero<|And.intro @and_false<|And.intro @false_and<|And.intro @Bool.false_and<|And.intro @Bool.and_false<|And.intro @Bool.or_true<|And.intro @Bool.true_or<|And.intro @Bool.false_or<|And.intro @Bool.or_false<|And.intro @Bool.not_true<|And.intro @Bool.not_false<|@keepT_t
def zzB2 :=
  And.intro @keepT_f<|And.intro @keepT_nil<|And.intro @sets_nil<|And.intro @sets_cons<|And.intro @spliceL.eq_1<|And.intro @toIVs.eq_1<|And.intro @toIVs.eq_2<|And.intro @optNat.eq_1<|And.intro @optNat.eq_2<|And.intro @opSlice.eq_1<|And.intro @List.replicate.eq_1.{0}<|And.intro @List.replicate.eq_2.{0}<|And.intro @freezeOf_nil<|And.intro @freezeOf_row<|@frz_row
def zzB:=And.intro zzK<|And.intro @RoundS_normal<|And.intro @len_zip<|And.intro @keysL_mref<|And.intro @keysL_zip<|And.intro zzB0<|And.intro zzB1<|zzB2
def zzL :=
  And.intro zzK<|And.intro @lowC_zip<|And.intro @lowA_zip<|And.intro @lowT_zip<|And.intro @simr<|And.intro @Heap.put_at<|And.intro @Heap.none_at<|And.intro @rowH_app<|And.intro @List.cons.injEq.{0}<|And.intro @Prod.mk.injEq.{0,0}<|And.intro @Nat.succ_ne_zero<|And.intro @and_false<|And.intro @false_and<|And.intro @and_true<|And.intro @and_self<|And.intro @Nat.zero_add<|And.intro @Nat.mul_one<|And.intro @List.length_cons.{0}<|And.intro @List.length_nil.{0}<|And.intro @Nat.le_refl<|And.intro @List.drop_zero.{0}<|And.intro @List.take_succ_cons.{0}<|And.intro @List.take_zero.{0}<|And.intro @Option.map_some.{0,0}<|And.intro @List.map_cons.{0,0}<|@List.map_nil.{0,0}
def zzR :=
  And.intro zzK<|And.intro @lowC_zip<|And.intro @lowA_zip<|And.intro @lowT_zip<|And.intro @simr<|And.intro @or_true<|And.intro @true_or<|And.intro @false_or<|@or_false
end Go.Proofs.Ytmalpmnmknpphaa.TM
namespace Go.Proofs.Ytmalpmnmknpphaa.TM
open Go
section
variable {P:Program} {C:CallRel} {h0:Heap} {base:Name}
def EqF:List Nat → (Nat → PV) → (Nat → PV) → Prop
  | [],_,_ => True
  | i::L,g,f => g i=f i ∧ EqF L g f
theorem EqF_nil (g f:Nat → PV):EqF [] g f=True:=rfl
theorem EqF_cons (i:Nat) (L:List Nat) (g f:Nat → PV):EqF (i::L) g f=(g i=f i ∧ EqF L g f):=rfl
def pickL:List Nat → (Nat → PV) → List (Nat × PV)
  | [],_ => []
  | i::L,f => (i,f i)::pickL L f
theorem pickL_nil (f:Nat → PV):pickL [] f=[]:=rfl
theorem pickL_cons (i:Nat) (L:List Nat) (f:Nat → PV):pickL (i::L) f=(i,f i)::pickL L f:=rfl
variable (P C h0 base) in
def CutQ (Qf:Ex → List PV → Heap → Prop) (k:List It) (n:Nat) (L:List Nat) (f:Nat → PV) (h:Heap):Ex → List PV → Heap → Prop
  | .normal,t',h' => ∃ g,t'=toL n g ∧ EqF L g f ∧ h'=h
  | e,t',h' => K P C h0 base Qf k e t' h'
variable {Qf:Ex → List PV → Heap → Prop} {k:List It} {n:Nat} {L:List Nat} {f:Nat → PV} {h:Heap}
theorem CutQ_exit (id:Nat) (t':List PV) (h':Heap):CutQ P C h0 base Qf k n L f h (.exit id) t' h'=K P C h0 base Qf k (.exit id) t' h':=rfl
theorem CutQ_ret (t':List PV) (h':Heap):CutQ P C h0 base Qf k n L f h .ret t' h'=K P C h0 base Qf k .ret t' h':=rfl
end
def zzC :=
  And.intro @EqF_nil<|And.intro @EqF_cons<|And.intro @pickL_nil<|And.intro @pickL_cons<|And.intro @CutQ_exit<|@CutQ_ret
end Go.Proofs.Ytmalpmnmknpphaa.TM
