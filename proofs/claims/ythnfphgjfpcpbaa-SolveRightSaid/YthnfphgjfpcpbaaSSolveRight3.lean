/- What is proved of functions, and plain facts, part 3. Conditions: none. -/
import Derived.Test.YthnfphgjfpcpbaaSSolveRight2
import Derived.KernelRfl
import Derived.ProofKit
import Derived.ChangeArms
import Derived.WideShapes
import Derived.OpenShut
import Derived.Below
set_option linter.defProp false
set_option linter.unusedSectionVars false
set_option linter.unusedSimpArgs false
set_option linter.unusedVariables false
namespace Go.Proofs.Ythnfphgjfpcpbaa.TM
open Go
abbrev Keys:=List (Nat × Nat) × List (Nat × Nat)
def Eff.keys (e:Eff):Keys:=(e.ups.map fun u => Dr u.1,e.touch.map Dr)
def Yw (ops:Array Oper) (oi:Oper) (ei:Keys) (oj:Oper) (ej:Keys):Bool :=
  oi.apart ops oj && (ei.1.all fun u => !(ej.2.any fun b => b == u) && !(ej.1.any fun v => v == u)) && (ej.1.all fun u => !(ei.2.any fun b => b == u))
def Au (ops:Array Oper) (ks:List Keys):Bool :=
  (ops.toList.zipIdx.all fun q => (dirs q.1).all fun d => d < q.2) &&
  ((ops.toList.zip ks).zipIdx.all fun qj => (((ops.toList.zip ks).take qj.2).zipIdx).all fun qi =>
    ((Oo ops.toList []).getD qj.2 0).testBit qi.2 || Yw ops qi.1.1 qi.1.2 qj.1.1 qj.1.2)
theorem Sh (ops:Array Oper) (oi:Oper) (ei:Eff) (oj:Oper) (ej:Eff):Yw ops oi ei.keys oj ej.keys=Gn ops oi ei oj ej:=by
  simp only [Yw,Gn,Eff.keys,List.all_map,List.any_map]
  rfl
theorem Am1 (os:List Oper) (es:List Eff):os.zip (es.map Eff.keys)=(os.zip es).map fun q => (q.1,q.2.keys):=by
  rw [List.zip_map_right]; rfl
theorem At7 (ops:Array Oper) (effs:List Eff):Au ops (effs.map Eff.keys)=Na ops effs:=by
  unfold Au Na
  rw [Am1]
  congr 1
  rw [Bool.eq_iff_iff,List.all_eq_true,List.all_eq_true]
  have hz:∀ (l:List (Oper × Eff)) (n:Nat) (q:(Oper × Keys) × Nat),q ∈ ((l.map fun q => (q.1,q.2.keys)).zipIdx n) ↔ ∃ p ∈ l.zipIdx n,q=((p.1.1,p.1.2.keys),p.2):=by
    intro l n q
    rw [List.zipIdx_map,List.mem_map]
    constructor
    · rintro ⟨p,hp,rfl⟩; exact ⟨p,hp,rfl⟩
    · rintro ⟨p,hp,rfl⟩; exact ⟨p,hp,rfl⟩
  constructor
  · intro hh p hp
    have h1:=hh _ ((hz _ 0 _).2 ⟨p,hp,rfl⟩)
    rw [List.all_eq_true] at h1 ⊢
    intro q hq
    have h2:=h1 ((q.1.1,q.1.2.keys),q.2) (by rw [← List.map_take]; exact (hz _ 0 _).2 ⟨q,hq,rfl⟩)
    simpa only [Sh] using h2
  · intro hh p hp
    obtain ⟨p',hp',rfl⟩:=(hz _ 0 _).1 hp
    have h1:=hh _ hp'
    rw [List.all_eq_true] at h1 ⊢
    intro q hq
    simp only at hq
    rw [← List.map_take] at hq
    obtain ⟨q',hq',rfl⟩:=(hz _ 0 _).1 hq
    simpa only [Sh] using h1 _ hq'
inductive Dep (c:Code):Type where
  | mk
inductive DepA (ops:Array Oper):Type where
  | mk
def XInv (ops:Array Oper) (ds:List (Option Tmp)) (i:Nat) (os:List Oper):Prop:=ops.toList.drop i=os ∧ ds.reverse=(ops.toList.take i).map (·.dst)
structure XPf (ops:Array Oper) (ds:List (Option Tmp)) (i:Nat) (os:List Oper):Type where
  h:XInv ops ds i os
inductive It where
  | lk (c:Code) (d:Dep c)
  | xops (id:Nat) (ops:Array Oper) (ds:List (Option Tmp)) (i:Nat) (os:List Oper) (pf:XPf ops ds i os)
  | xcall (id:Nat) (ops:Array Oper) (ds:List (Option Tmp)) (i:Nat) (o:Oper) (os:List Oper) (pf:XPf ops ds i (o::os))
  | xdops (id:Nat) (ops:Array Oper) (ds:List (Option Tmp)) (i:Nat) (os:List Oper) (pf:XPf ops ds i os) (acc:List Keys)
  | xdcall (id:Nat) (ops:Array Oper) (ds:List (Option Tmp)) (i:Nat) (o:Oper) (os:List Oper) (pf:XPf ops ds i (o::os)) (acc:List Keys)
  | code (c:Code)
  | ops (id:Nat) (ops:Array Oper) (i:Nat) (os:List Oper)
  | one (id:Nat) (ops:Array Oper) (i:Nat) (o:Oper) (os:List Oper)
  | dops (id:Nat) (ops:Array Oper) (i:Nat) (os:List Oper) (acc:List Keys)
  | done (id:Nat) (ops:Array Oper) (i:Nat) (o:Oper) (os:List Oper) (acc:List Keys)
  | inB (id:Nat)
  | call (id:Nat) (ops:Array Oper) (i:Nat) (o:Oper) (os:List Oper)
  | dcall (id:Nat) (ops:Array Oper) (i:Nat) (o:Oper) (os:List Oper) (acc:List Keys)
def K (P:Program) (C:B9) (h0:Heap) (base:Name) (Qf:Ex → List PV → Heap → Prop):List It → Ex → List PV → Heap → Prop
  | [],e,t,h => Qf e t h
  | .inB _::k,.normal,t,h => K P C h0 base Qf k .normal t h
  | .inB id::k,.exit j,t,h => if j=id then K P C h0 base Qf k .normal t h else K P C h0 base Qf k (.exit j) t h
  | .code c::k,.normal,t,h => W P C h0 base c t h (K P C h0 base Qf k)
  | .lk c _::k,.normal,t,h => W P C h0 base c t h (K P C h0 base Qf k)
  | .xops id ops _ i os _::k,.normal,t,h => Dg P C base id ops i os t h (K P C h0 base Qf k .normal)
  | .xcall id ops _ i o os _::k,.normal,t,h => ∃ v h',Sj P C ((id,i)::base) t h o.op v h' ∧ Dg P C base id ops (i + 1) os (Cx t o.dst v) h' (K P C h0 base Qf k .normal)
  | .xdops id ops _ i os _ acc::k,.normal,t,h => ∃ effs,Au ops (acc.reverse ++ effs.map Eff.keys)=true ∧ Effs P C base id ops i os effs t h (K P C h0 base Qf k .normal)
  | .xdcall id ops _ i o os _ acc::k,.normal,t,h => ∃ e effs,LocalR P C ((id,i)::base) t h o.op e ∧ Au ops (acc.reverse ++ e.keys::effs.map Eff.keys)=true ∧
      Effs P C base id ops (i + 1) os effs (Cx t o.dst e.val) (h.ups e.ups) (K P C h0 base Qf k .normal)
  | .ops id ops i os::k,.normal,t,h => Dg P C base id ops i os t h (K P C h0 base Qf k .normal)
  | .one id ops i o os::k,.normal,t,h => ∃ v h',Sj P C ((id,i)::base) t h o.op v h' ∧ Dg P C base id ops (i + 1) os (Cx t o.dst v) h' (K P C h0 base Qf k .normal)
  | .dops id ops i os acc::k,.normal,t,h => ∃ effs,Au ops (acc.reverse ++ effs.map Eff.keys)=true ∧ Effs P C base id ops i os effs t h (K P C h0 base Qf k .normal)
  | .done id ops i o os acc::k,.normal,t,h => ∃ e effs,LocalR P C ((id,i)::base) t h o.op e ∧ Au ops (acc.reverse ++ e.keys::effs.map Eff.keys)=true ∧
      Effs P C base id ops (i + 1) os effs (Cx t o.dst e.val) (h.ups e.ups) (K P C h0 base Qf k .normal)
  | .call id ops i o os::k,.normal,t,h => ∃ v h',Sj P C ((id,i)::base) t h o.op v h' ∧ Dg P C base id ops (i + 1) os (Cx t o.dst v) h' (K P C h0 base Qf k .normal)
  | .dcall id ops i o os acc::k,.normal,t,h => ∃ e effs,LocalR P C ((id,i)::base) t h o.op e ∧ Au ops (acc.reverse ++ e.keys::effs.map Eff.keys)=true ∧
      Effs P C base id ops (i + 1) os effs (Cx t o.dst e.val) (h.ups e.ups) (K P C h0 base Qf k .normal)
  | _::k,e,t,h => K P C h0 base Qf k e t h
section
variable {P:Program} {C:B9} {h0:Heap} {base:Name} {Qf:Ex → List PV → Heap → Prop} {k:List It} {t:List PV} {h:Heap}
theorem K_nil (e:Ex):K P C h0 base Qf [] e t h=Qf e t h:=rfl
theorem K_ret (it:It):K P C h0 base Qf (it::k) .ret t h=K P C h0 base Qf k .ret t h:=by cases it <;> rfl
theorem K_inB (id:Nat):K P C h0 base Qf (.inB id::k) .normal t h=K P C h0 base Qf k .normal t h:=rfl
theorem Qk (id j:Nat):K P C h0 base Qf (.inB id::k) (.exit j) t h=if j=id then K P C h0 base Qf k .normal t h else K P C h0 base Qf k (.exit j) t h:=rfl
theorem Wv (c:Code) (j:Nat):K P C h0 base Qf (.code c::k) (.exit j) t h=K P C h0 base Qf k (.exit j) t h:=rfl
theorem K_skip:K P C h0 base Qf (.code .skip::k) .normal t h=K P C h0 base Qf k .normal t h:=rfl
theorem K_seq (a b:Code):K P C h0 base Qf (.code (.seq a b)::k) .normal t h=K P C h0 base Qf (.code a::.code b::k) .normal t h:=by
  show W P C h0 base a t h _=W P C h0 base a t h _
  congr 1
  funext e t' h'
  cases e <;> rfl
variable (P C h0 base Qf) in
def Kif (p:PV) (x y:Code) (k:List It) (t:List PV) (h:Heap):Prop :=
  match p with
  | .i (.v (.bool b)) => if b=true then K P C h0 base Qf (.code x::k) .normal t h else K P C h0 base Qf (.code y::k) .normal t h
  | _ => False
theorem Ax2 (x y:Code):Kif P C h0 base Qf (.i (.v (.bool true))) x y k t h=K P C h0 base Qf (.code x::k) .normal t h:=rfl
theorem Al3 (x y:Code):Kif P C h0 base Qf (.i (.v (.bool false))) x y k t h=K P C h0 base Qf (.code y::k) .normal t h:=rfl
theorem K_cond (c:Operand) (x y:Code):K P C h0 base Qf (.code (.cond c x y)::k) .normal t h=Kif P C h0 base Qf (St.opnd t c) x y k t h:=rfl
theorem Ab5 (id:Nat) (b:Code):K P C h0 base Qf (.code (.block id b)::k) .normal t h=K P C h0 base Qf (.code b::.inB id::k) .normal t h:=by
  show W P C h0 base b t h _=W P C h0 base b t h _
  congr 1
  funext e t' h'
  cases e with
  | normal => rfl
  | ret => rfl
  | exit j =>
    rw [Qk]
    by_cases hj:j=id
    · rw [if_pos hj,if_pos (by rw [hj])]
    · rw [if_neg hj,if_neg (by simpa using hj)]
theorem K_exit (id:Nat):K P C h0 base Qf (.code (.exit id)::k) .normal t h=K P C h0 base Qf k (.exit id) t h:=rfl
theorem K_retc:K P C h0 base Qf (.code .ret::k) .normal t h=K P C h0 base Qf k .ret t h:=rfl
theorem Ax4 (id:Nat) (ops:Array Oper):K P C h0 base Qf (.code (.region id ops false)::k) .normal t h=K P C h0 base Qf (.ops id ops 0 ops.toList::k) .normal t h:=rfl
theorem Ax6 (id:Nat) (ops:Array Oper):K P C h0 base Qf (.code (.region id ops true)::k) .normal t h=K P C h0 base Qf (.dops id ops 0 ops.toList []::k) .normal t h:=by
  show (∃ effs,_ ∧ _)=(∃ effs,_ ∧ _)
  congr 1
  funext effs
  rw [← At7]; rfl
theorem Al5 (id:Nat) (ops:Array Oper) (i:Nat):K P C h0 base Qf (.ops id ops i []::k) .normal t h=K P C h0 base Qf k .normal t h:=rfl
variable (P C h0 base Qf) in
def Kgrd (g:Option Bool) (id:Nat) (ops:Array Oper) (i:Nat) (o:Oper) (os:List Oper) (k:List It) (t:List PV) (h:Heap):Prop :=
  match g with
  | none => False
  | some g => if g=true then K P C h0 base Qf (.one id ops i o os::k) .normal t h else K P C h0 base Qf (.ops id ops (i + 1) os::k) .normal (Cx t o.dst Cr) h
theorem Al4 (id:Nat) (ops:Array Oper) (i:Nat) (o:Oper) (os:List Oper):Kgrd P C h0 base Qf (some true) id ops i o os k t h=K P C h0 base Qf (.one id ops i o os::k) .normal t h:=rfl
theorem Y7 (id:Nat) (ops:Array Oper) (i:Nat) (o:Oper) (os:List Oper):Kgrd P C h0 base Qf (some false) id ops i o os k t h=K P C h0 base Qf (.ops id ops (i + 1) os::k) .normal (Cx t o.dst Cr) h:=rfl
theorem K_ops (id:Nat) (ops:Array Oper) (i:Nat) (o:Oper) (os:List Oper):K P C h0 base Qf (.ops id ops i (o::os)::k) .normal t h=Kgrd P C h0 base Qf (E5 ops t o) id ops i o os k t h:=by
  show Dg P C base id ops i (o::os) t h _=_
  unfold Dg Kgrd
  cases E5 ops t o with
  | none => rfl
  | some g => cases g <;> rfl
variable (P C h0 base Qf) in
def Kres (r:Option Out) (id:Nat) (ops:Array Oper) (i:Nat) (o:Oper) (os:List Oper) (k:List It) (t:List PV) (h:Heap):Prop :=
  match r with
  | some out => K P C h0 base Qf (.ops id ops (i + 1) os::k) .normal (Cx t o.dst out.val) (h.ups out.ups)
  | none => False
theorem Al1 (v:PV) (us:List (Name × Box)) (id:Nat) (ops:Array Oper) (i:Nat) (o:Oper) (os:List Oper):Kres P C h0 base Qf (some ⟨v,us⟩) id ops i o os k t h=K P C h0 base Qf (.ops id ops (i + 1) os::k) .normal (Cx t o.dst v) (h.ups us):=rfl
def A2:Op → Bool
  | .call { callee:=.value _,.. } => true
  | _ => false
theorem K4 {c:Call} (hc:A2 (.call c)=false) (t:List PV):Db t c=none:=by
  obtain ⟨callee,args,ts⟩:=c
  cases callee <;> first|rfl|simp [A2] at hc
theorem Qb {c:Call} (hc:Ax (.call c)=false):A2 (.call c)=false:=by
  obtain ⟨callee,args,ts⟩:=c
  cases callee with
  | value f => cases hc
  | _ => rfl
theorem Ax5 (id:Nat) (ops:Array Oper) (i:Nat) (o:Oper) (os:List Oper) (hc:Ax o.op=false):K P C h0 base Qf (.one id ops i o os::k) .normal t h =
    match Ao P h ((id,i)::base) (St.opnd t) o.op with
    | some out => K P C h0 base Qf (.ops id ops (i + 1) os::k) .normal (Cx t o.dst out.val) (h.ups out.ups)
    | none => False:=by
  show (∃ v h',_ ∧ _)=_
  apply propext
  constructor
  · rintro ⟨v,h',hs|⟨s',out,hx,_⟩|⟨c,g,args,ho,hcal,_⟩,hw⟩
    · obtain ⟨out,hs,rfl,rfl⟩:=hs
      rw [hs]; exact hw
    · rw [hc] at hx; cases hx
    · rw [ho] at hc
      rw [K4 (Qb hc)] at hcal; cases hcal
  · intro hw
    split at hw
    · rename_i out hs
      exact ⟨_,_,.inl ⟨out,hs,rfl,rfl⟩,hw⟩
    · exact hw.elim
theorem Ql (id:Nat) (ops:Array Oper) (i:Nat) (acc:List Keys):K P C h0 base Qf (.dops id ops i [] acc::k) .normal t h=(Au ops acc.reverse=true ∧ K P C h0 base Qf k .normal t h):=by
  show (∃ effs,_ ∧ _)=_
  apply propext
  constructor
  · rintro ⟨effs,h1,h2⟩
    cases effs with
    | nil => simp only [List.map_nil,List.append_nil] at h1; exact ⟨h1,h2⟩
    | cons e es => exact h2.elim
  · rintro ⟨h1,h2⟩
    exact ⟨[],by simpa using h1,h2⟩
variable (P C h0 base Qf) in
def Kdgrd (g:Option Bool) (id:Nat) (ops:Array Oper) (i:Nat) (o:Oper) (os:List Oper) (acc:List Keys) (k:List It) (t:List PV) (h:Heap):Prop :=
  match g with
  | none => False
  | some g => if g=true then K P C h0 base Qf (.done id ops i o os acc::k) .normal t h else K P C h0 base Qf (.dops id ops (i + 1) os (([],[])::acc)::k) .normal (Cx t o.dst Cr) h
theorem Zb (id:Nat) (ops:Array Oper) (i:Nat) (o:Oper) (os:List Oper) (acc:List Keys):Kdgrd P C h0 base Qf (some true) id ops i o os acc k t h=K P C h0 base Qf (.done id ops i o os acc::k) .normal t h:=rfl
theorem Wu (id:Nat) (ops:Array Oper) (i:Nat) (o:Oper) (os:List Oper) (acc:List Keys):Kdgrd P C h0 base Qf (some false) id ops i o os acc k t h=K P C h0 base Qf (.dops id ops (i + 1) os (([],[])::acc)::k) .normal (Cx t o.dst Cr) h:=rfl
theorem Ax7 (id:Nat) (ops:Array Oper) (i:Nat) (o:Oper) (os:List Oper) (acc:List Keys):K P C h0 base Qf (.dops id ops i (o::os) acc::k) .normal t h =
    Kdgrd P C h0 base Qf (E5 ops t o) id ops i o os acc k t h:=by
  show (∃ effs,_ ∧ _)=_
  unfold Kdgrd
  apply propext
  constructor
  · rintro ⟨effs,h1,h2⟩
    cases effs with
    | nil => exact h2.elim
    | cons e es =>
      obtain ⟨h2,h3⟩:=h2
      unfold Zh at h2
      cases hg:E5 ops t o with
      | none => rw [hg] at h2; exact h2
      | some g =>
        rw [hg] at h2
        cases g with
        | true => simp only [if_true]; exact ⟨e,es,h2,by simpa using h1,h3⟩
        | false =>
          simp only [Bool.false_eq_true,if_false]
          subst h2
          exact ⟨es,by simpa [Eff.keys] using h1,h3⟩
  · intro hw
    cases hg:E5 ops t o with
    | none => rw [hg] at hw; exact hw.elim
    | some g =>
      rw [hg] at hw
      cases g with
      | true =>
        simp only [if_true] at hw
        obtain ⟨e,es,h1,h2,h3⟩:=hw
        exact ⟨e::es,by simpa using h2,by unfold Zh; rw [hg]; exact h1,h3⟩
      | false =>
        simp only [Bool.false_eq_true,if_false] at hw
        obtain ⟨es,h1,h2⟩:=hw
        exact ⟨⟨Cr,[],[]⟩::es,by simpa [Eff.keys] using h1,by unfold Zh; rw [hg],h2⟩
variable (P C h0 base Qf) in
def Kdres (r:Option Out) (id:Nat) (ops:Array Oper) (i:Nat) (o:Oper) (os:List Oper) (acc:List Keys) (k:List It) (t:List PV) (h:Heap):Prop :=
  match r with
  | some out => K P C h0 base Qf (.dops id ops (i + 1) os ((out.ups.map fun u => Dr u.1,(((id,i)::base)::H5 o.op (Eo t o.op)).map Dr)::acc)::k) .normal (Cx t o.dst out.val) (h.ups out.ups)
  | none => False
theorem Y8 (v:PV) (us:List (Name × Box)) (id:Nat) (ops:Array Oper) (i:Nat) (o:Oper) (os:List Oper) (acc:List Keys):Kdres P C h0 base Qf (some ⟨v,us⟩) id ops i o os acc k t h =
    K P C h0 base Qf (.dops id ops (i + 1) os ((us.map fun u => Dr u.1,(((id,i)::base)::H5 o.op (Eo t o.op)).map Dr)::acc)::k) .normal (Cx t o.dst v) (h.ups us):=rfl
theorem Al6 (id:Nat) (ops:Array Oper) (i:Nat) (o:Oper) (os:List Oper) (acc:List Keys) (hc:Ax o.op=false):K P C h0 base Qf (.done id ops i o os acc::k) .normal t h =
    match Ao P h ((id,i)::base) (St.opnd t) o.op with
    | some out => K P C h0 base Qf (.dops id ops (i + 1) os ((out.ups.map fun u => Dr u.1,(((id,i)::base)::H5 o.op (Eo t o.op)).map Dr)::acc)::k) .normal (Cx t o.dst out.val) (h.ups out.ups)
    | none => False:=by
  show (∃ e effs,_ ∧ _ ∧ _)=_
  apply propext
  constructor
  · rintro ⟨e,effs,hs|⟨s',out,hx,_⟩|⟨c,g,args,v,us,ho,hcal,_⟩,h1,h2⟩
    · obtain ⟨out,hs,rfl⟩:=hs
      rw [hs]
      exact ⟨effs,by simpa [Eff.keys] using h1,h2⟩
    · rw [hc] at hx; cases hx
    · rw [ho] at hc
      rw [K4 (Qb hc)] at hcal; cases hcal
  · intro hw
    split at hw
    · rename_i out hs
      obtain ⟨effs,h1,h2⟩:=hw
      exact ⟨⟨out.val,out.ups,_⟩,effs,.inl ⟨out,hs,rfl⟩,by simpa [Eff.keys] using h1,h2⟩
    · exact hw.elim
variable (P C h0 base Qf) in
def Kone (b:Bool) (id:Nat) (ops:Array Oper) (i:Nat) (o:Oper) (os:List Oper) (k:List It) (t:List PV) (h:Heap):Prop :=
  if b=true then K P C h0 base Qf (.call id ops i o os::k) .normal t h else Kres P C h0 base Qf (Ao P h ((id,i)::base) (St.opnd t) o.op) id ops i o os k t h
theorem Al2 (id:Nat) (ops:Array Oper) (i:Nat) (o:Oper) (os:List Oper):Kone P C h0 base Qf true id ops i o os k t h=K P C h0 base Qf (.call id ops i o os::k) .normal t h:=rfl
theorem Bd4 (id:Nat) (ops:Array Oper) (i:Nat) (o:Oper) (os:List Oper):Kone P C h0 base Qf false id ops i o os k t h=Kres P C h0 base Qf (Ao P h ((id,i)::base) (St.opnd t) o.op) id ops i o os k t h:=rfl
theorem K_one (id:Nat) (ops:Array Oper) (i:Nat) (o:Oper) (os:List Oper):K P C h0 base Qf (.one id ops i o os::k) .normal t h=Kone P C h0 base Qf (Ax o.op) id ops i o os k t h:=by
  unfold Kone
  by_cases hc:Ax o.op=true
  · rw [if_pos hc]; rfl
  · rw [if_neg hc,Ax5 _ _ _ _ _ (by simpa using hc)]; rfl
variable (P C h0 base Qf) in
def Kdone (b:Bool) (id:Nat) (ops:Array Oper) (i:Nat) (o:Oper) (os:List Oper) (acc:List Keys) (k:List It) (t:List PV) (h:Heap):Prop :=
  if b=true then K P C h0 base Qf (.dcall id ops i o os acc::k) .normal t h else Kdres P C h0 base Qf (Ao P h ((id,i)::base) (St.opnd t) o.op) id ops i o os acc k t h
theorem Za (id:Nat) (ops:Array Oper) (i:Nat) (o:Oper) (os:List Oper) (acc:List Keys):Kdone P C h0 base Qf true id ops i o os acc k t h=K P C h0 base Qf (.dcall id ops i o os acc::k) .normal t h:=rfl
theorem Ax3 (id:Nat) (ops:Array Oper) (i:Nat) (o:Oper) (os:List Oper) (acc:List Keys):Kdone P C h0 base Qf false id ops i o os acc k t h=Kdres P C h0 base Qf (Ao P h ((id,i)::base) (St.opnd t) o.op) id ops i o os acc k t h:=rfl
theorem Ax8 (id:Nat) (ops:Array Oper) (i:Nat) (o:Oper) (os:List Oper) (acc:List Keys):K P C h0 base Qf (.done id ops i o os acc::k) .normal t h=Kdone P C h0 base Qf (Ax o.op) id ops i o os acc k t h:=by
  unfold Kdone
  by_cases hc:Ax o.op=true
  · rw [if_pos hc]; rfl
  · rw [if_neg hc,Al6 _ _ _ _ _ _ (by simpa using hc)]; rfl
def CallsP (P:Program) (g:FuncId) (args:List PV) (v:PV):Prop:=∀ base,∃ u hu,CallR P base g args Heap.none u hu ∧ Fc hu u=some v
theorem Gj {id : Nat} {ops : Array Oper} {i : Nat} {o : Oper} {os : List Oper} {c : Call} {g : FuncId} {args largs : List PV} {v : PV} (hs : CallsP P g largs v) (ho : o.op = .call c) (hcal : Db t c = some (g, args)) (he : A7 P g = true)
    (hl:Cv (Ch h) args=some largs)
    (hk:K P (CallR P) h0 base Qf (.ops id ops (i + 1) os::k) .normal (Cx t o.dst v) (h.ups (if Aw v then [] else B7 h (args.flatMap Al)))) :
    K P (CallR P) h0 base Qf (.call id ops i o os::k) .normal t h:=by
  obtain ⟨u,hu,h1,h2⟩:=hs ((id,i)::base)
  exact ⟨v,_,.inr (.inr ⟨c,g,args,ho,hcal,he,.inr ⟨_,.inl ⟨largs,u,hu,hl,h1,h2,rfl⟩,rfl⟩⟩),hk⟩
theorem K7 {id : Nat} {ops : Array Oper} {i : Nat} {o : Oper} {os : List Oper} {c : Call} {g : FuncId} {args : List PV} {v : PV} {h' : Heap} (hs : CallR P ((id, i) :: base) g args h v h') (ho : o.op = .call c) (hcal : Db t c = some (g, args)) (he : A7 P g = true)
    (hk:K P (CallR P) h0 base Qf (.ops id ops (i + 1) os::k) .normal (Cx t o.dst v) h') :
    K P (CallR P) h0 base Qf (.call id ops i o os::k) .normal t h :=
  ⟨v,_,.inr (.inr ⟨c,g,args,ho,hcal,he,.inl hs⟩),hk⟩
theorem Uf {id : Nat} {ops : Array Oper} {i : Nat} {o : Oper} {os : List Oper} {acc : List Keys} {c : Call} {g : FuncId} {args largs : List PV} {v : PV} (hs : CallsP P g largs v) (ho : o.op = .call c) (hcal : Db t c = some (g, args)) (he : A7 P g = true)
    (hl:Cv (Ch h) args=some largs)
    (hk:K P (CallR P) h0 base Qf (.dops id ops (i + 1) os (((if Aw v then [] else B7 h (args.flatMap Al)).map fun u => Dr u.1,(((id,i)::base)::(args.flatMap Al ++ Bs (Eo t o.op))).map Dr)::acc)::k) .normal (Cx t o.dst v)
      (h.ups (if Aw v then [] else B7 h (args.flatMap Al)))) :
    K P (CallR P) h0 base Qf (.dcall id ops i o os acc::k) .normal t h:=by
  obtain ⟨u,hu,h1,h2⟩:=hs ((id,i)::base)
  obtain ⟨effs,h3,h4⟩:=hk
  refine ⟨⟨v,_,_⟩,effs,.inr (.inr ⟨c,g,args,v,_,ho,hcal,he,.inl ⟨largs,u,hu,hl,h1,h2,rfl⟩,rfl⟩),?_,h4⟩
  simpa [Eff.keys] using h3
def CallsO (P:Program) (g:FuncId) (args:List PV) (z n top:Nat) (cs:List IV):Prop:=∀ base,∃ b hu,CallR P base g args Heap.none (.view b 0 z n top) hu ∧ hu b=some (.row false cs) ∧ cs.length=top
def CallsA (P:Program) (g:FuncId) (args:List PV) (vf:Name → PV) (cs:List IV):Prop:=∀ base,∃ b u hu,CallR P base g args Heap.none u hu ∧ hu b=some (.row false cs) ∧ ∀ s,Qd hu b s u=some (vf s)
theorem CallsO.toA {P:Program} {g:FuncId} {args:List PV} {z n top:Nat} {cs:List IV} (h:CallsO P g args z n top cs):CallsA P g args (fun s => .view s 0 z n top) cs:=fun base => by
  obtain ⟨b,hu,h1,h2,_⟩:=h base
  exact ⟨b,_,hu,h1,h2,fun s => by simp [Qd,Nh,Ng]⟩
theorem Al9 {id : Nat} {ops : Array Oper} {i : Nat} {o : Oper} {os : List Oper} {c : Call} {g : FuncId} {args largs : List PV} {vf : Name → PV} {cs : List IV} (hs : CallsA P g largs vf cs) (ho : o.op = .call c) (hcal : Db t c = some (g, args)) (he : A7 P g = true)
    (hl:Cv (Ch h) args=some largs) (hn:h ((id,i)::base)=none)
    (hk:K P (CallR P) h0 base Qf (.ops id ops (i + 1) os::k) .normal (Cx t o.dst (vf ((id,i)::base))) ((h.ups (B7 h (args.flatMap Al))).put ((id,i)::base) (.row false cs))) :
    K P (CallR P) h0 base Qf (.call id ops i o os::k) .normal t h:=by
  obtain ⟨b,u,hu,h1,h2,h3⟩:=hs ((id,i)::base)
  exact ⟨_,_,.inr (.inr ⟨c,g,args,ho,hcal,he,.inr ⟨_,.inr (.inl ⟨largs,b,u,cs,hu,hl,h1,h2,hn,h3 _,rfl⟩),by rw [Heap.ups_append,Heap.ups_cons,Heap.ups_nil]⟩⟩),hk⟩
theorem Zf {id : Nat} {ops : Array Oper} {i : Nat} {o : Oper} {os : List Oper} {acc : List Keys} {c : Call} {g : FuncId} {args largs : List PV} {vf : Name → PV} {cs : List IV} (hs : CallsA P g largs vf cs) (ho : o.op = .call c) (hcal : Db t c = some (g, args)) (he : A7 P g = true)
    (hl:Cv (Ch h) args=some largs) (hn:h ((id,i)::base)=none)
    (hk:K P (CallR P) h0 base Qf (.dops id ops (i + 1) os (((B7 h (args.flatMap Al) ++ [((id,i)::base,Box.row false cs)]).map fun u => Dr u.1,(((id,i)::base)::(args.flatMap Al ++ Bs (Eo t o.op))).map Dr)::acc)::k) .normal (Cx t o.dst (vf ((id,i)::base)))
      ((h.ups (B7 h (args.flatMap Al))).put ((id,i)::base) (.row false cs))) :
    K P (CallR P) h0 base Qf (.dcall id ops i o os acc::k) .normal t h:=by
  obtain ⟨b,u,hu,h1,h2,h3⟩:=hs ((id,i)::base)
  obtain ⟨effs,h4,h5⟩:=hk
  have hup:h.ups (B7 h (args.flatMap Al) ++ [((id,i)::base,Box.row false cs)])=(h.ups (B7 h (args.flatMap Al))).put ((id,i)::base) (.row false cs):=by rw [Heap.ups_append,Heap.ups_cons,Heap.ups_nil]
  refine ⟨⟨vf ((id,i)::base),B7 h (args.flatMap Al) ++ [((id,i)::base,Box.row false cs)],_⟩,effs,.inr (.inr ⟨c,g,args,_,_,ho,hcal,he,.inr (.inl ⟨largs,b,u,cs,hu,hl,h1,h2,hn,h3 _,rfl⟩),rfl⟩),?_,?_⟩
  · simpa [Eff.keys] using h4
  · rw [hup]; exact h5
def Ls (P:Program) (g:FuncId) (args:List PV) (v:PV) (cs cs':List IV):Prop:=∀ base,∃ hu,CallR P base g args (Heap.none.put wN (.row false cs)) v hu ∧ hu wN=some (.row false cs')
theorem Al7 {id : Nat} {ops : Array Oper} {i : Nat} {o : Oper} {os : List Oper} {acc : List Keys} {c : Call} {g : FuncId} {args largs : List PV} {v : PV} {cs cs' : List IV} (b : Name) (hs : Ls P g largs v cs cs') (ho : o.op = .call c) (hcal : Db t c = some (g, args)) (he : A7 P g = true)
    (hb:h b=some (.row false cs)) (hm:b ∈ args.flatMap Al) (hl:Cv (Fz h b) args=some largs) (hv:Aw v=true) (hlen:cs'.length=cs.length)
    (hk:K P (CallR P) h0 base Qf (.dops id ops (i + 1) os (((B7 h ((args.flatMap Al).filter (H8 b)) ++ [(b,Box.row false cs')]).map fun u => Dr u.1,(((id,i)::base)::(args.flatMap Al ++ Bs (Eo t o.op))).map Dr)::acc)::k) .normal (Cx t o.dst v)
      ((h.ups (B7 h ((args.flatMap Al).filter (H8 b)))).put b (.row false cs'))) :
    K P (CallR P) h0 base Qf (.dcall id ops i o os acc::k) .normal t h:=by
  obtain ⟨hu,h1,h2⟩:=hs ((id,i)::base)
  obtain ⟨effs,h4,h5⟩:=hk
  have hup:h.ups (B7 h ((args.flatMap Al).filter (H8 b)) ++ [(b,Box.row false cs')])=(h.ups (B7 h ((args.flatMap Al).filter (H8 b)))).put b (.row false cs'):=by rw [Heap.ups_append,Heap.ups_cons,Heap.ups_nil]
  refine ⟨⟨v,B7 h ((args.flatMap Al).filter (H8 b)) ++ [(b,Box.row false cs')],_⟩,effs,.inr (.inr ⟨c,g,args,_,_,ho,hcal,he,.inr (.inr ⟨b,largs,cs,cs',hu,hb,hm,hl,h1,h2,hv,hlen,rfl⟩),rfl⟩),?_,?_⟩
  · simpa [Eff.keys] using h4
  · rw [hup]; exact h5
theorem E6 {ks:List Bool} (hl:ks.length=t.length):Forget h0 t h ks []:=⟨hl,fun b hb => by simp at hb,fun b hb => by simp at hb,fun c cs _ b hb => by simp at hb⟩
theorem drop_nil (h:Heap):h.drop []=h:=by funext c; simp [Heap.drop]
def Again (h0:Heap) (ks:List Bool) (bs:List Name) (n:Nat) (It:Nat → List PV × Heap) (j:Nat) (t:List PV) (h:Heap):Prop :=
  j < n ∧ Forget h0 t h ks bs ∧ Di ks t=(It (j + 1)).1 ∧ h.drop bs=(It (j + 1)).2
def Round (P:Program) (C:B9) (h0:Heap) (base:Name) (Qf:Ex → List PV → Heap → Prop) (k:List It) (ks:List Bool) (bs:List Name) (n:Nat) (It:Nat → List PV × Heap) (j:Nat):Ex → List PV → Heap → Prop
  | .normal,t,h => Again h0 ks bs n It j t h
  | e,t,h => K P C h0 base Qf k e t h
theorem T9 {ks:List Bool} {bs:List Name} {n:Nat} {It:Nat → List PV × Heap} {j:Nat}:Round P C h0 base Qf k ks bs n It j .normal t h=Again h0 ks bs n It j t h:=rfl
theorem Y0 {ks:List Bool} {bs:List Name} {n:Nat} {It:Nat → List PV × Heap} {j id:Nat}:Round P C h0 base Qf k ks bs n It j (.exit id) t h=K P C h0 base Qf k (.exit id) t h:=rfl
theorem Al0 {ks:List Bool} {bs:List Name} {n:Nat} {It:Nat → List PV × Heap} {j:Nat}:Round P C h0 base Qf k ks bs n It j .ret t h=K P C h0 base Qf k .ret t h:=rfl
theorem wmono (c:Code) {t:List PV} {h:Heap} {Q Q':Ex → List PV → Heap → Prop} (hw:W P C h0 base c t h Q) (hq:∀ e t h,Q e t h → Q' e t h):W P C h0 base c t h Q' :=
  F7 (fun _ _ _ _ _ _ h => h) c t h hq hw
def Nj (h0:Heap) (ks:List Bool) (bs:List Name) (I:Nat → List PV → Heap → Prop) (j:Nat) (t:List PV) (h:Heap):Prop :=
  ∃ i,j=i + 1 ∧ Forget h0 t h ks bs ∧ I i (Di ks t) (h.drop bs)
def Ub (P:Program) (C:B9) (h0:Heap) (base:Name) (Qf:Ex → List PV → Heap → Prop) (k:List It) (ks:List Bool) (bs:List Name) (I:Nat → List PV → Heap → Prop) (j:Nat):Ex → List PV → Heap → Prop
  | .normal,t,h => Nj h0 ks bs I j t h
  | e,t,h => K P C h0 base Qf k e t h
theorem Q8 {ks:List Bool} {bs:List Name} {I:Nat → List PV → Heap → Prop} {j:Nat}:Ub P C h0 base Qf k ks bs I j .normal t h=Nj h0 ks bs I j t h:=rfl
theorem Wr {ks:List Bool} {bs:List Name} {I:Nat → List PV → Heap → Prop} {j id:Nat}:Ub P C h0 base Qf k ks bs I j (.exit id) t h=K P C h0 base Qf k (.exit id) t h:=rfl
theorem Y2 {ks:List Bool} {bs:List Name} {I:Nat → List PV → Heap → Prop} {j:Nat}:Ub P C h0 base Qf k ks bs I j .ret t h=K P C h0 base Qf k .ret t h:=rfl
theorem Ue {b : Code} (ks : List Bool) (bs : List Name) (n : Nat) (I : Nat → List PV → Heap → Prop) (h1 : Forget h0 t h ks bs) (h2 : I n (Di ks t) (h.drop bs))
    (hr:∀ j t h,I j t h → K P C h0 base (Ub P C h0 base Qf k ks bs I j) [.code b] .normal t h):K P C h0 base Qf (.code (.loop b)::k) .normal t h:=by
  have key:∀ j t h,Forget h0 t h ks bs → I j (Di ks t) (h.drop bs) → Wq h0 (W P C h0 base b) ks bs (j + 1) t h (K P C h0 base Qf k):=by
    intro d
    induction d with
    | zero =>
      intro t h hf hi
      refine ⟨hf,?_⟩
      refine wmono _ (hr 0 _ _ hi) fun e t' h' hq => ?_
      cases e with
      | normal => obtain ⟨i,hi,_⟩:Nj h0 ks bs I 0 t' h':=hq; omega
      | exit id => exact hq
      | ret => exact hq
    | succ d ih =>
      intro t h hf hi
      refine ⟨hf,?_⟩
      refine wmono _ (hr (d + 1) _ _ hi) fun e t' h' hq => ?_
      cases e with
      | normal =>
        obtain ⟨i,hi,hf',hn⟩:Nj h0 ks bs I (d + 1) t' h':=hq
        have:d=i:=by omega
        subst this
        exact ih t' h' hf' hn
      | exit id => exact hq
      | ret => exact hq
  exact ⟨n + 1,ks,bs,key n t h h1 h2⟩
def Ua (P:Program) (C:B9) (h0:Heap) (base:Name) (Qf:Ex → List PV → Heap → Prop) (k:List It) (ks:List Bool) (bs:List Name) (I:Nat → List PV → Heap → Prop) (x:Nat) (E:List PV → Heap → Prop) (j:Nat):Ex → List PV → Heap → Prop
  | .normal,t,h => Nj h0 ks bs I j t h
  | .exit id,t,h => if id=x then E t h else K P C h0 base Qf k (.exit id) t h
  | e,t,h => K P C h0 base Qf k e t h
theorem Q6 {ks:List Bool} {bs:List Name} {I:Nat → List PV → Heap → Prop} {x:Nat} {E:List PV → Heap → Prop} {j:Nat}:Ua P C h0 base Qf k ks bs I x E j .normal t h=Nj h0 ks bs I j t h:=rfl
theorem N5 {ks:List Bool} {bs:List Name} {I:Nat → List PV → Heap → Prop} {x:Nat} {E:List PV → Heap → Prop} {j id:Nat}:Ua P C h0 base Qf k ks bs I x E j (.exit id) t h=if id=x then E t h else K P C h0 base Qf k (.exit id) t h:=rfl
theorem Y1 {ks:List Bool} {bs:List Name} {I:Nat → List PV → Heap → Prop} {x:Nat} {E:List PV → Heap → Prop} {j:Nat}:Ua P C h0 base Qf k ks bs I x E j .ret t h=K P C h0 base Qf k .ret t h:=rfl
theorem Zc {k:List It} {e:Ex} {t:List PV} {h:Heap} {Q Q':Ex → List PV → Heap → Prop} {b:Code} (hq:∀ e t h,Q e t h → Q' e t h) (hk:K P C h0 base Q [.code b] .normal t h):K P C h0 base Q' [.code b] .normal t h :=
  wmono b hk hq
theorem Ab4 {b : Code} (ks : List Bool) (bs : List Name) (n : Nat) (I : Nat → List PV → Heap → Prop) (x : Nat) (E : List PV → Heap → Prop) (h1 : Forget h0 t h ks bs) (h2 : I n (Di ks t) (h.drop bs))
    (hr:∀ j t h,I j t h → K P C h0 base (Ua P C h0 base Qf k ks bs I x E j) [.code b] .normal t h) (hx:∀ t h,E t h → K P C h0 base Qf k (.exit x) t h):K P C h0 base Qf (.code (.loop b)::k) .normal t h:=by
  refine Ue ks bs n I h1 h2 fun j t h hi => Zc (e:=.normal) (k:=[]) (fun e t h hq => ?_) (hr j t h hi)
  cases e with
  | normal => exact hq
  | ret => exact hq
  | exit id =>
    rw [N5] at hq
    show K P C h0 base Qf k (.exit id) t h
    by_cases e:id=x
    · rw [if_pos e] at hq; subst e; exact hx t h hq
    · rw [if_neg e] at hq; exact hq
def Shape (T:(Nat → PV) → List PV) (t:List PV):Prop:=∃ f,t=T f
theorem Shape.of {T:(Nat → PV) → List PV} {t:List PV} (h:t=T (fun i => t.getD i Cr)):Shape T t:=⟨_,h⟩
end
section
variable {P:Program} {C:B9} {h0:Heap} {base:Name}
theorem Lr {id:Nat} {ops:Array Oper}:∀ (os:List Oper) (i:Nat) (t:List PV) (h:Heap) {Q:List PV → Heap → Prop},Dg P C base id ops i os t h Q → ∃ t' h',Q t' h' ∧ Dg P C base id ops i os t h fun t2 h2 => t2=t' ∧ h2=h'
  | [],i,t,h,Q,hw => ⟨t,h,hw,rfl,rfl⟩
  | o::os,i,t,h,Q,hw => by
    unfold Dg at hw ⊢
    split at hw
    · exact hw.elim
    · exact Lr os (i + 1) _ _ hw
    · obtain ⟨v,h',hs,hw⟩:=hw
      obtain ⟨t',h2,hq,hw'⟩:=Lr os (i + 1) _ _ hw
      exact ⟨t',h2,hq,v,h',hs,hw'⟩
theorem Qm {id:Nat} {ops:Array Oper}:∀ (os:List Oper) (es:List Eff) (i:Nat) (t:List PV) (h:Heap) {Q:List PV → Heap → Prop},Effs P C base id ops i os es t h Q → ∃ t' h',Q t' h' ∧ Effs P C base id ops i os es t h fun t2 h2 => t2=t' ∧ h2=h'
  | [],[],i,t,h,Q,hw => ⟨t,h,hw,rfl,rfl⟩
  | o::os,e::es,i,t,h,Q,hw => by
    obtain ⟨t',h2,hq,hw'⟩:=Qm os es (i + 1) _ _ hw.2
    exact ⟨t',h2,hq,hw.1,hw'⟩
  | [],_::_,_,_,_,_,hw => hw.elim
  | _::_,[],_,_,_,_,hw => hw.elim
theorem Ab2:∀ (c:Code) (t:List PV) (h:Heap) {Q:Ex → List PV → Heap → Prop},W P C h0 base c t h Q → ∃ e t' h',Q e t' h' ∧ W P C h0 base c t h fun e2 t2 h2 => e2=e ∧ t2=t' ∧ h2=h':=by
  intro c
  induction c with
  | skip => intro t h Q hw; exact ⟨_,_,_,hw,rfl,rfl,rfl⟩
  | exit id => intro t h Q hw; exact ⟨_,_,_,hw,rfl,rfl,rfl⟩
  | ret => intro t h Q hw; exact ⟨_,_,_,hw,rfl,rfl,rfl⟩
  | region id ops draw =>
    intro t h Q hw
    unfold W at hw ⊢
    split at hw
    · rename_i hd
      obtain ⟨effs,h1,h2⟩:=hw
      obtain ⟨t',h',hq,h3⟩:=Qm _ _ _ _ _ h2
      refine ⟨.normal,t',h',hq,?_⟩
      rw [if_pos hd]
      exact ⟨effs,h1,Ni (fun _ _ _ _ _ _ h => h) _ _ _ _ _ (fun t2 h2 he => ⟨rfl,he⟩) h3⟩
    · rename_i hd
      obtain ⟨t',h',hq,h3⟩:=Lr _ _ _ _ hw
      refine ⟨.normal,t',h',hq,?_⟩
      rw [if_neg hd]
      exact K2 (fun _ _ _ _ _ _ h => h) _ _ _ _ (fun t2 h2 he => ⟨rfl,he⟩) h3
  | seq a b iha ihb =>
    intro t h Q hw
    obtain ⟨e,t',h',hq,hw'⟩:=iha t h hw
    cases e with
    | normal =>
      obtain ⟨e2,t2,h2,hq2,hw2⟩:=ihb t' h' hq
      refine ⟨e2,t2,h2,hq2,F7 (fun _ _ _ _ _ _ h => h) a _ _ (fun e3 t3 h3 he => ?_) hw'⟩
      obtain ⟨rfl,rfl,rfl⟩:=he
      exact hw2
    | exit id =>
      refine ⟨.exit id,t',h',hq,F7 (fun _ _ _ _ _ _ h => h) a _ _ (fun e3 t3 h3 he => ?_) hw'⟩
      obtain ⟨rfl,rfl,rfl⟩:=he
      exact ⟨rfl,rfl,rfl⟩
    | ret =>
      refine ⟨.ret,t',h',hq,F7 (fun _ _ _ _ _ _ h => h) a _ _ (fun e3 t3 h3 he => ?_) hw'⟩
      obtain ⟨rfl,rfl,rfl⟩:=he
      exact ⟨rfl,rfl,rfl⟩
  | cond c x y ihx ihy =>
    intro t h Q hw
    unfold W at hw ⊢
    split at hw
    · rename_i b hb
      split at hw
      · rename_i hbt
        obtain ⟨e,t',h',hq,hw'⟩:=ihx t h hw
        exact ⟨e,t',h',hq,by rw [if_pos hbt]; exact hw'⟩
      · rename_i hbt
        obtain ⟨e,t',h',hq,hw'⟩:=ihy t h hw
        exact ⟨e,t',h',hq,by rw [if_neg hbt]; exact hw'⟩
    · exact hw.elim
  | block id b ih =>
    intro t h Q hw
    obtain ⟨e,t',h',hq,hw'⟩:=ih t h hw
    by_cases he:e=.exit id
    · rw [if_pos he] at hq
      refine ⟨.normal,t',h',hq,F7 (fun _ _ _ _ _ _ h => h) b _ _ (fun e3 t3 h3 hh => ?_) hw'⟩
      obtain ⟨rfl,rfl,rfl⟩:=hh
      rw [if_pos he]; exact ⟨rfl,rfl,rfl⟩
    · rw [if_neg he] at hq
      refine ⟨e,t',h',hq,F7 (fun _ _ _ _ _ _ h => h) b _ _ (fun e3 t3 h3 hh => ?_) hw'⟩
      obtain ⟨rfl,rfl,rfl⟩:=hh
      rw [if_neg he]; exact ⟨rfl,rfl,rfl⟩
  | loop b ih =>
    intro t h Q hw
    obtain ⟨n,ks,bs,hw⟩:=hw
    have key:∀ (n:Nat) (t:List PV) (h:Heap),Wq h0 (W P C h0 base b) ks bs n t h Q → ∃ e t' h',Q e t' h' ∧ Wq h0 (W P C h0 base b) ks bs n t h fun e2 t2 h2 => e2=e ∧ t2=t' ∧ h2=h':=by
      intro n
      induction n with
      | zero => intro t h hw; exact hw.elim
      | succ n ihn =>
        intro t h hw
        obtain ⟨hf,hw⟩:=hw
        obtain ⟨e,t',h',hq,hw'⟩:=ih _ _ hw
        cases e with
        | normal =>
          obtain ⟨e2,t2,h2,hq2,hw2⟩:=ihn t' h' hq
          refine ⟨e2,t2,h2,hq2,hf,F7 (fun _ _ _ _ _ _ h => h) b _ _ (fun e3 t3 h3 hh => ?_) hw'⟩
          obtain ⟨rfl,rfl,rfl⟩:=hh
          exact hw2
        | exit id =>
          refine ⟨.exit id,t',h',hq,hf,F7 (fun _ _ _ _ _ _ h => h) b _ _ (fun e3 t3 h3 hh => ?_) hw'⟩
          obtain ⟨rfl,rfl,rfl⟩:=hh
          exact ⟨rfl,rfl,rfl⟩
        | ret =>
          refine ⟨.ret,t',h',hq,hf,F7 (fun _ _ _ _ _ _ h => h) b _ _ (fun e3 t3 h3 hh => ?_) hw'⟩
          obtain ⟨rfl,rfl,rfl⟩:=hh
          exact ⟨rfl,rfl,rfl⟩
    obtain ⟨e,t',h',hq,hw'⟩:=key n t h hw
    exact ⟨e,t',h',hq,n,ks,bs,hw'⟩
  | rangeFunc g ps assign body _ _ => intro t h Q hw; obtain ⟨hn,t',h',hr,hq⟩:=hw; exact ⟨.normal,t',h',hq,hn,t',h',hr,rfl,rfl,rfl⟩
  | _ => intro t h Q hw; exact hw.elim
end
theorem CallR.walk {P : Program} {base : Name} {f : FuncId} {fn : Func} {c : Code} {args : List PV} {h : Heap} {v : PV} {h' : Heap} (hf : P.funcs[f]? = some fn) (hb : fn.body = some c)
    (hw:K P (CallR P) h base (fun e t hh => (e=.normal ∨ e=.ret) ∧ Ij P fn t hh=some v ∧ hh=h') [.code c] .normal (V1 fn args) h):CallR P base f args h v h' :=
  CallR.intro hf hb (F7 (fun _ _ _ _ _ _ h => h) c _ _ (fun _ _ _ hq => hq) hw)
def U1 (P:Program) (rs:List ResultVar) (t:List PV) (h:Heap):Option PV :=
  match Cv (J3 P t h) rs with
  | some [x] => some x
  | some xs => some (.tup xs)
  | none => none
theorem CallsP.walk {P : Program} {f : FuncId} {fn : Func} {c : Code} {args : List PV} {v : PV} (hf : P.funcs[f]? = some fn) (hb : fn.body = some c)
    (hw:∀ base,K P (CallR P) Heap.none base (fun e t hh => (e=.normal ∨ e=.ret) ∧ (Ij P fn t hh).bind (Fc hh)=some v) [.code c] .normal (V1 fn args) Heap.none):CallsP P f args v:=by
  intro base
  obtain ⟨e,t',h',⟨he,hr⟩,hw'⟩:=Ab2 c _ _ (hw base)
  cases hu:Ij P fn t' h' with
  | none => rw [hu] at hr; cases hr
  | some u =>
    rw [hu] at hr
    refine ⟨u,h',CallR.intro hf hb (F7 (fun _ _ _ _ _ _ h => h) c _ _ (fun e2 t2 h2 hh => ?_) hw'),hr⟩
    obtain ⟨rfl,rfl,rfl⟩:=hh
    exact ⟨he,hu,rfl⟩
theorem CallsP.start {P : Program} {f : FuncId} {fn : Func} {c : Code} {args : List PV} {v : PV} {n : Nat} {rs : List ResultVar} (hf : P.funcs[f]? = some fn) (hb : fn.body = some c) (hn : fn.ntmps = n) (hrs : fn.results.toList = rs)
    (hw:∀ base,K P (CallR P) Heap.none base (fun e t hh => (e=.normal ∨ e=.ret) ∧ (U1 P rs t hh).bind (Fc hh)=some v) [.code c] .normal (args ++ List.replicate (n - args.length) Cr) Heap.none):CallsP P f args v:=by
  subst hn; subst hrs
  exact CallsP.walk hf hb hw
theorem CallR.start {P : Program} {base : Name} {f : FuncId} {fn : Func} {c : Code} {args : List PV} {h : Heap} {v : PV} {h' : Heap} {n : Nat} {rs : List ResultVar} (hf : P.funcs[f]? = some fn) (hb : fn.body = some c) (hn : fn.ntmps = n) (hrs : fn.results.toList = rs)
    (hw:K P (CallR P) h base (fun e t hh => (e=.normal ∨ e=.ret) ∧ U1 P rs t hh=some v ∧ hh=h') [.code c] .normal (args ++ List.replicate (n - args.length) Cr) h):CallR P base f args h v h':=by
  subst hn; subst hrs
  exact CallR.walk hf hb hw
def sim0 :=
  And.intro @List.getElem?_toArray.{0}<|And.intro @Q6<|And.intro @N5<|And.intro @Y1<|And.intro @Q8<|And.intro @Wr<|And.intro @Y2<|And.intro @T9<|And.intro @Y0<|And.intro @Al0<|And.intro @K_seq<|And.intro @Ax4<|And.intro @Ax6<|And.intro @K_skip<|And.intro @K_cond<|And.intro @Ax2<|And.intro @Al3<|And.intro @Ab5<|And.intro @K_exit<|And.intro @Qk<|And.intro @Wv<|And.intro @K_retc<|And.intro @K_ret<|@K_inB
def sim1 :=
  And.intro @K_nil<|And.intro @K_ops<|And.intro @Al4<|And.intro @Y7<|And.intro @K_one<|And.intro @Al2<|And.intro @Bd4<|And.intro @Al1<|And.intro @Al5<|And.intro @Ax7<|And.intro @Ql<|And.intro @Zb<|And.intro @Wu<|And.intro @Ax8<|And.intro @Za<|And.intro @Ax3<|And.intro @List.getD_cons_succ.{0}<|And.intro @List.getD_cons_zero.{0}<|And.intro @List.set_cons_succ.{0}<|And.intro @List.set_cons_zero.{0}<|And.intro @List.getElem?_cons_succ.{0}<|And.intro @List.getElem?_cons_zero.{0}<|@List.getElem?_nil.{0}
def sim2 :=
  And.intro @Option.bind_some.{0,0}<|And.intro @Option.map_some.{0,0}<|And.intro @if_true.{1}<|And.intro @if_false.{1}<|And.intro @Heap.ups_nil<|And.intro @Heap.ups_cons<|And.intro @List.map_cons.{0,0}<|And.intro @List.map_nil.{0,0}<|And.intro @gt_iff_lt.{0}<|And.intro @ge_iff_le.{0}<|And.intro @decide_true<|And.intro @decide_false<|And.intro @Bool.false_eq_true<|And.intro @Bool.not_true<|And.intro @Bool.not_false<|And.intro @Int.natCast_nonneg<|And.intro @Int.toNat_natCast<|And.intro @Option.isSome_some.{0}<|And.intro @List.getElem?_map.{0,0}<|And.intro @and_true<|And.intro @true_and<|And.intro @and_self<|And.intro @Nat.mul_one<|@Nat.zero_add
def sim3 :=
  And.intro @Nat.add_zero<|And.intro @Nat.one_mul<|And.intro @List.all_cons.{0}<|And.intro @List.all_nil.{0}<|And.intro @Bool.and_self<|And.intro @Bool.and_true<|And.intro @Bool.true_and<|And.intro @List.length_cons.{0}<|And.intro @List.length_nil.{0}<|And.intro @List.nil_append.{0}<|And.intro @List.cons_append.{0}<|And.intro @List.take_zero.{0}<|And.intro @List.take_succ_cons.{0}<|And.intro @List.drop_zero.{0}<|And.intro @List.drop_succ_cons.{0}<|And.intro @List.take_nil.{0}<|And.intro @List.drop_nil.{0}<|And.intro @beq_self_eq_true.{0}<|And.intro @beq_true<|And.intro @beq_false<|And.intro @ne_eq.{1}<|And.intro @not_false_eq_true<|And.intro @not_true_eq_false<|@List.size_toArray.{0}
def sim4 :=
  And.intro @List.toList_toArray.{0}<|And.intro @ite_true.{1}<|And.intro @ite_false.{1}<|And.intro @List.append_nil.{0}<|And.intro @Option.any_some.{0}<|And.intro @Option.map_none.{0,0}<|And.intro @Option.isSome_none.{0}<|And.intro @List.flatMap_cons.{0,0}<|And.intro @List.flatMap_nil.{0,0}<|@List.filterMap_nil.{0,0}
def sims :=
  And.intro @sim0<|And.intro @sim1<|And.intro @sim2<|And.intro @sim3<|@sim4
end Go.Proofs.Ythnfphgjfpcpbaa.TM
namespace Go.Proofs.Ythnfphgjfpcpbaa.TM
open Go Go.RowKit Go.ChangeShapes Go.WideShapes Go.ChangeAt
abbrev RC (W:World):Addr → Value → Prop:=fun a v => W.cell? a=some v
structure RepL (R:Addr → Value → Prop) (xs:List IV) (cs:List Value):Prop where
  len:cs.length=xs.length
  one:∀ u ∈ cs,u.oneCell'=true
  rep:∀ (j:Nat) (x:IV) (v:Value),xs[j]?=some x → cs[j]?=some v → RepI R x v
theorem RepL.append {R:Addr → Value → Prop} {xs ys:List IV} {cs ds:List Value} (h:RepL R xs cs) (k:RepL R ys ds):RepL R (xs ++ ys) (cs ++ ds):=by
  refine ⟨by simp [h.len,k.len],fun u hu => ?_,fun j x v hx hv => ?_⟩
  · rcases List.mem_append.1 hu with hu|hu
    · exact h.one u hu
    · exact k.one u hu
  · rw [List.getElem?_append] at hx hv
    rw [← h.len] at hx
    by_cases hj:j < cs.length
    · rw [if_pos hj] at hx hv; exact h.rep j x v hx hv
    · rw [if_neg hj] at hx hv; exact k.rep _ x v hx hv
section
variable {H:Type} {enc:TypeId × Value → H} {P:Program} {α:Type} {t:TypeId}
def OpensI (enc:TypeId × Value → H) (P:Program) (t:TypeId) (iv:α → List IV) (good:α → Prop):Prop :=
  ∀ (W:World) (base:Nat) (spare:Nat → Bool) (held:Bool) (fuel:Nat) (cs:List Value) (x:DataW H × List MemPlace),
    DataW.trod enc P W base spare held fuel t cs=some x → ∃ a,good a ∧ RepL (RC W) (iv a) cs
theorem Ap3 {R:Addr → Value → Prop} {x:Value} (h1:x.oneCell'=true):RepL R [.v x] [x] :=
  ⟨rfl,fun u hu => by simp at hu; rw [hu]; exact h1,fun j y v hy hv => by
    cases j with
    | zero => simp at hy hv; subst hy; subst hv; exact .v x
    | succ j => simp at hy⟩
theorem opens_int {k:IntKind} (ht:P.underlying t=some (.int k)):OpensI enc P t (fun n:Int => [IV.v (.int k n)]) (fun n => (Lit.int k n).wf=true):=by
  intro W base spare held fuel cs x h
  obtain ⟨n,hc,_,hw⟩:=DataW.trod_int ht h
  rw [hc]
  exact ⟨n,hw,Ap3 rfl⟩
theorem Aj9 {W:World} {base n:Nat} {a:Addr} {c:List Value} (h:W.cells? base a n=some c):c.length=n ∧ ∀ (j:Nat) (u:Value),c[j]?=some u → W.cell? (a.add j)=some u:=by
  unfold World.cells? at h
  split at h
  · have hl:c.length=n:=by simpa using mapM_some_length h
    refine ⟨hl,fun j u hj => ?_⟩
    have hj':j < n:=by
      rw [← hl]
      exact (List.getElem?_eq_some_iff.1 hj).1
    have:=mapM_some_get h j j (by simp [hj'])
    rw [this,hj]
  · simp at h
theorem Vf {e:TypeId} {z:Nat} {iv:α → List IV} {good:α → Prop} (ht:P.underlying t=some (.slice e)) (ho:OpensI enc P e iv good) (hz:P.cellsOf e=z) (hiv:∀ a,(iv a).length=z) :
    OpensI enc P t (fun l:List α => [IV.l l.length (l.flatMap iv)]) (fun l => l.length ≤ maxLen ∧ ∀ a ∈ l,good a):=by
  intro W base spare held fuel cs x h
  rcases DataW.trod_slice ht h with ⟨rfl,_⟩|⟨a,len,cap,elems,rest,n,_,rfl,_,_,hl,hc,hel,hget,_,_⟩
  · refine ⟨[],⟨by simp,by simp⟩,rfl,fun u hu => by simp at hu; rw [hu]; rfl,fun j y v hy hv => ?_⟩
    cases j with
    | zero => simp at hy hv; subst hy; subst hv; exact .nil
    | succ j => simp at hy
  · have hx:∀ i:Nat,i < len → ∃ (y:α) (c:List Value),good y ∧ RepL (RC W) (iv y) c ∧ ∀ (j:Nat) (u:Value),c[j]?=some u → W.cell? (a.add (i * z + j))=some u:=by
      intro i hi
      have g:=hget i hi
      rw [List.getElem?_eq_getElem (by omega)] at g
      rw [Option.bind_eq_some_iff] at g
      obtain ⟨c,hcs,htr⟩:=g
      obtain ⟨h1,h2⟩:=Aj9 hcs
      obtain ⟨y,hg,hr⟩:=ho _ _ _ _ _ _ _ htr
      refine ⟨y,c,hg,hr,fun j u hj => ?_⟩
      have:=h2 j u hj
      rw [hz,Addr.add_add] at this
      exact this
    have hl2:∀ m:Nat,m ≤ len → ∃ (l:List α) (c:List Value),l.length=m ∧ (∀ y ∈ l,good y) ∧ RepL (RC W) (l.flatMap iv) c ∧ c.length=m * z ∧ ∀ (j:Nat) (u:Value),c[j]?=some u → W.cell? (a.add j)=some u:=by
      intro m
      induction m with
      | zero => exact fun _ => ⟨[],[],rfl,by simp,⟨rfl,by simp,fun j x v hx => by simp at hx⟩,by simp,by simp⟩
      | succ m ih =>
        intro hm
        obtain ⟨l,c,h1,h2,h3,h4,h5⟩:=ih (by omega)
        obtain ⟨y,d,hg,hr,hcell⟩:=hx m (by omega)
        refine ⟨l ++ [y],c ++ d,by simp [h1],fun q hq => ?_,?_,?_,fun j u hj => ?_⟩
        · rcases List.mem_append.1 hq with hq|hq
          · exact h2 q hq
          · simp at hq; rw [hq]; exact hg
        · rw [List.flatMap_append,List.flatMap_cons,List.flatMap_nil,List.append_nil]
          exact h3.append hr
        · rw [List.length_append,h4,hr.len,hiv,Nat.succ_mul]
        · rw [List.getElem?_append] at hj
          by_cases hlt:j < c.length
          · rw [if_pos hlt] at hj; exact h5 j u hj
          · rw [if_neg hlt] at hj
            have:=hcell _ u hj
            rw [h4] at this
            rwa [show m * z + (j - m * z)=j by omega] at this
    obtain ⟨l,c,h1,h2,h3,h4,h5⟩:=hl2 len (Nat.le_refl _)
    have hmax:maxLen=9223372036854775807:=rfl
    refine ⟨l,⟨by omega,h2⟩,rfl,fun u hu => by simp at hu; rw [hu]; rfl,fun j y v hy hv => ?_⟩
    cases j with
    | succ j => simp at hy
    | zero =>
      simp at hy hv
      subst hy; subst hv
      rw [← h1]
      have hcl:(l.flatMap iv).length=c.length:=h3.len.symm
      refine .l _ _ a cap (fun j => c.getD j undef) (by omega) (fun j hj => ?_) (fun j hj => ?_) (fun j x hj => ?_)
      · have hlt:j < c.length:=by omega
        show W.cell? (a.add j)=some _
        rw [h5 j c[j] (List.getElem?_eq_getElem hlt)]
        simp [hlt]
      · have hlt:j < c.length:=by omega
        have:c.getD j undef=c[j]:=by simp [hlt]
        rw [this]; exact h3.one _ (List.getElem_mem hlt)
      · have hlt:j < c.length:=by have:=(List.getElem?_eq_some_iff.1 hj).1; omega
        have:c.getD j undef=c[j]:=by simp [hlt]
        rw [this]; exact h3.rep j x _ hj (List.getElem?_eq_getElem hlt)
end
theorem Pd {W:World} {x:IV} {v:Value} (h:RepI (RC W) x v):Rep ⟨fun _ => 0,fun _ => False⟩ Heap.none W (.i x) v :=
  .i _ _ (h.mono fun a v hc => ⟨⟨fun hf => hf,Ds _ _⟩,hc⟩)
theorem rep_agg {W:World} {xs:List IV} {cs:Array Value} (h:RepL (RC W) xs cs.toList):Rep ⟨fun _ => 0,fun _ => False⟩ Heap.none W (.agg (xs.map .i)) (.agg cs):=by
  refine .agg _ _ (by have:=h.len; simp at this; simp [this]) fun j p hj => ?_
  rw [List.getElem?_map] at hj
  cases hx:xs[j]? with
  | none => simp [hx] at hj
  | some x =>
    simp [hx] at hj; subst hj
    have hlt:j < cs.toList.length:=by rw [h.len]; exact (List.getElem?_eq_some_iff.1 hx).1
    have h2:cs.getD j undef=cs.toList[j]:=by
      have:j < cs.size:=by simpa using hlt
      simp [this]
    rw [h2]
    exact Pd (h.rep j x _ hx (List.getElem?_eq_getElem hlt))
theorem Ba1 {β:Pl} {h:Heap} {W:World}:∀ (ps:List PV) (vs:List Value),ps.length=vs.length → (∀ (j:Nat) (p:PV) (v:Value),ps[j]?=some p → vs[j]?=some v → Rep β h W p v) → Reps β h W ps vs.toArray:=by
  intro ps vs hl hr
  refine ⟨by simp [hl],fun j p hj => ?_⟩
  have hlt:j < vs.length:=by rw [← hl]; exact (List.getElem?_eq_some_iff.1 hj).1
  have:vs.toArray.getD j undef=vs[j]:=by simp [hlt]
  rw [this]
  exact hr j p _ hj (List.getElem?_eq_getElem hlt)
theorem CallsP.calls {P : Program} (hm : P.follows .mixedOrders = true) {f : FuncId} {args : List PV} {x : Value} (hc : CallsP P f args (.i (.v x))) {W : World} {vs : Array Value}
    (hr:Reps ⟨fun _ => 0,fun _ => False⟩ Heap.none W args vs):Calls P f vs W fun e w' => e=.returned x ∧ Below W.heap.size W w':=by
  obtain ⟨u,hu,h1,h2⟩:=hc []
  refine (Km hm _ _ _ _ _ _ h1 ⟨fun _ => 0,fun _ => False⟩ W vs (HInv.none fun blk hb => hb.elim) hr).mono ?_
  rintro e w' ⟨rv,β',rfl,H',hrep,E⟩
  have h3:RepP β' hu (fun a v => w'.cell? a=some v) (szW w') (.i (.v x)) rv:=Lh H' hrep h2 (fun a v h => h.2) fun b x hb j v hcell => hcell
  have h4:rv=x:=by cases h3 with|i _ _ h => exact Ap4 h
  refine ⟨by rw [h4],E.os,E.tape,E.output,E.size,fun k hk => (E.stab k hk (Ds _ _)).2⟩
end Go.Proofs.Ythnfphgjfpcpbaa.TM
namespace Go.Proofs.Ythnfphgjfpcpbaa.TM
open Go
theorem To (ks:List Bool) (x:PV) (xs:List PV):Di (true::ks) (x::xs)=x::Di ks xs:=rfl
theorem Tp (ks:List Bool) (x:PV) (xs:List PV):Di (false::ks) (x::xs)=.dead::Di ks xs:=rfl
theorem R8 (xs:List PV):Di [] xs=[]:=by cases xs <;> rfl
def sets:List PV → List (Nat × PV) → List PV
  | t,[] => t
  | t,(i,v)::r => sets (t.set i v) r
theorem An9 (t:List PV):sets t []=t:=rfl
theorem Ad0 (t:List PV) (i:Nat) (v:PV) (r:List (Nat × PV)):sets t ((i,v)::r)=sets (t.set i v) r:=rfl
theorem Heap.put_at (h:Heap) (b c:Name) (x:Box):h.put b x c=if c=b then some x else h c:=rfl
theorem Heap.none_at (c:Name):Heap.none c=Option.none:=rfl
def A8:Op → List Operand
  | .alloc _ => []
  | .move x|.assign x|.box _ x|.load _ x|.nilCheck x|.unOp _ _ x|.convert _ _ x|.fieldAddr _ x _|.field _ x _|.extract x _|.panic x|.makeInterface _ x => [x]
  | .pick c a b => [c,a,b]
  | .build _ ps|.buildSlice _ _ ps => ps.toList.map (·.2)
  | .store _ a v|.binOp _ _ a v _|.makeSlice _ a v|.indexAddr _ a v|.index _ a v => [a,v]
  | .slice _ x l h m => x::(l.toList ++ h.toList ++ m.toList)
  | .call { callee:=.value f,args:=as,.. } => f::as.toList
  | .call { callee:=.builtin _,args:=as,.. } => as.toList
  | op => op.operands.toList
theorem I3 (op:Op):op.operands.toList=A8 op:=by
  cases op <;> try rfl
  case slice t x l h m => cases l <;> cases h <;> cases m <;> simp [A8,Op.operands]
  case call c => obtain ⟨f,as,ts⟩:=c; cases f <;> simp [A8,Op.operands,Call.operands]
def Et (us:List (Name × Box)):List (Nat × Nat):=us.map fun u => Dr u.1
def J9 (s:Name) (op:Op) (ps:List PV):List (Nat × Nat):=Dr s::(H5 op ps).map Dr
theorem Ai7 (x:Nat × Nat) (b:Name):Dr (x::b)=x:=rfl
theorem Ah9:Et []=[]:=rfl
theorem X6 (b:Name) (x:Box) (us:List (Name × Box)):Et ((b,x)::us)=Dr b::Et us:=rfl
def C2 (ps:List PV):List (Nat × Nat):=(Bs ps).map Dr
def Z6 (r:Bool) (ps:List PV):List (Nat × Nat):=if r=true then C2 ps else []
theorem X7 (ps:List PV):Z6 true ps=C2 ps:=rfl
theorem Vv (ps:List PV):Z6 false ps=[]:=rfl
theorem As3 (x:Nat × Nat) (b:Name) (op:Op) (ps:List PV):J9 (x::b) op ps=x::Z6 (Aq op) ps:=by
  unfold J9 H5 Z6 C2
  cases Aq op <;> rfl
theorem Ai4:C2 []=[]:=rfl
theorem Bb0 (x:IV) (ps:List PV):C2 (.i x::ps)=C2 ps:=rfl
theorem Yb (ps:List PV):C2 (.dead::ps)=C2 ps:=rfl
theorem Ya (cs:List IV) (o:Nat) (ps:List PV):C2 (.iref cs o::ps)=C2 ps:=rfl
theorem X8 (b:Name) (o z n p:Nat) (ps:List PV):C2 (.view b o z n p::ps)=Dr b::C2 ps:=rfl
theorem Ai3 (b:Name) (o p:Nat) (ps:List PV):C2 (.ref b o p::ps)=Dr b::C2 ps:=rfl
theorem Ai6 (cs ps:List PV):C2 (.agg cs::ps)=C2 cs ++ C2 ps:=by simp [C2,Bs,Bn]
theorem Ai2 (cs ps:List PV):C2 (.tup cs::ps)=C2 cs ++ C2 ps:=by simp [C2,Bs,Bn]
theorem Ai5 (f:FuncId) (cs ps:List PV):C2 (.clo f cs::ps)=C2 cs ++ C2 ps:=by simp [C2,Bs,Bn]
def sim5 :=
  And.intro @Ai7<|And.intro @Ah9<|And.intro @X6<|And.intro @As3<|And.intro @X7<|And.intro @Vv<|And.intro @Ai4<|And.intro @Bb0<|And.intro @Yb<|And.intro @Ya<|And.intro @X8<|And.intro @Ai3<|And.intro @Ai6<|And.intro @Ai2<|@Ai5
section
variable {P:Program} {C:B9} {h0:Heap} {base:Name} {Qf:Ex → List PV → Heap → Prop} {k:List It} {t:List PV} {h:Heap}
theorem Y9 (v:PV) (us:List (Name × Box)) (id:Nat) (ops:Array Oper) (i:Nat) (o:Oper) (os:List Oper) (acc:List Keys):Kdres P C h0 base Qf (some ⟨v,us⟩) id ops i o os acc k t h =
    K P C h0 base Qf (.dops id ops (i + 1) os ((Et us,J9 ((id,i)::base) o.op ((A8 o.op).map (St.opnd t)))::acc)::k) .normal (Cx t o.dst v) (h.ups us):=by
  rw [Y8,Eo,I3]; rfl
theorem Ww {id : Nat} {ops : Array Oper} {i : Nat} {o : Oper} {os : List Oper} {acc : List Keys} {c : Call} {g : FuncId} {args largs : List PV} {vf : Name → PV} {cs : List IV} (hs : CallsA P g largs vf cs) (ho : o.op = .call c) (hcal : Db t c = some (g, args)) (he : A7 P g = true)
    (hl:Cv (Ch h) args=some largs) (hn:h ((id,i)::base)=none)
    (hk:K P (CallR P) h0 base Qf (.dops id ops (i + 1) os ((Et (B7 h (args.flatMap Al) ++ [((id,i)::base,Box.row false cs)]),Dr ((id,i)::base)::((args.flatMap Al).map Dr ++ C2 ((A8 o.op).map (St.opnd t))))::acc)::k) .normal (Cx t o.dst (vf ((id,i)::base)))
      ((h.ups (B7 h (args.flatMap Al))).put ((id,i)::base) (.row false cs))) :
    K P (CallR P) h0 base Qf (.dcall id ops i o os acc::k) .normal t h:=by
  refine Zf hs ho hcal he hl hn ?_
  rw [Eo,I3,List.map_cons,show (args.flatMap Al ++ Bs ((A8 o.op).map (St.opnd t))).map Dr=(args.flatMap Al).map Dr ++ C2 ((A8 o.op).map (St.opnd t)) from List.map_append]
  exact hk
theorem Zd {id : Nat} {ops : Array Oper} {i : Nat} {o : Oper} {os : List Oper} {acc : List Keys} {c : Call} {g : FuncId} {args largs : List PV} {v : PV} {cs cs' : List IV} (b : Name) (hs : Ls P g largs v cs cs') (ho : o.op = .call c) (hcal : Db t c = some (g, args)) (he : A7 P g = true)
    (hb:h b=some (.row false cs)) (hm:b ∈ args.flatMap Al) (hl:Cv (Fz h b) args=some largs) (hv:Aw v=true) (hlen:cs'.length=cs.length)
    (hk:K P (CallR P) h0 base Qf (.dops id ops (i + 1) os ((Et (B7 h ((args.flatMap Al).filter (H8 b)) ++ [(b,Box.row false cs')]),Dr ((id,i)::base)::((args.flatMap Al).map Dr ++ C2 ((A8 o.op).map (St.opnd t))))::acc)::k) .normal (Cx t o.dst v)
      ((h.ups (B7 h ((args.flatMap Al).filter (H8 b)))).put b (.row false cs'))) :
    K P (CallR P) h0 base Qf (.dcall id ops i o os acc::k) .normal t h:=by
  refine Al7 b hs ho hcal he hb hm hl hv hlen ?_
  rw [Eo,I3,List.map_cons,show (args.flatMap Al ++ Bs ((A8 o.op).map (St.opnd t))).map Dr=(args.flatMap Al).map Dr ++ C2 ((A8 o.op).map (St.opnd t)) from List.map_append]
  exact hk
theorem Ug {id : Nat} {ops : Array Oper} {i : Nat} {o : Oper} {os : List Oper} {acc : List Keys} {c : Call} {g : FuncId} {args largs : List PV} {v : PV} (hs : CallsP P g largs v) (ho : o.op = .call c) (hcal : Db t c = some (g, args)) (he : A7 P g = true)
    (hl:Cv (Ch h) args=some largs)
    (hk:K P (CallR P) h0 base Qf (.dops id ops (i + 1) os ((Et (if Aw v then [] else B7 h (args.flatMap Al)),Dr ((id,i)::base)::((args.flatMap Al).map Dr ++ C2 ((A8 o.op).map (St.opnd t))))::acc)::k) .normal (Cx t o.dst v)
      (h.ups (if Aw v then [] else B7 h (args.flatMap Al)))) :
    K P (CallR P) h0 base Qf (.dcall id ops i o os acc::k) .normal t h:=by
  refine Uf hs ho hcal he hl ?_
  rw [Eo,I3,List.map_cons,List.map_append]
  exact hk
end
section
variable {P:Program} {C:B9} {h0:Heap} {base:Name} {Qf:Ex → List PV → Heap → Prop} {k:List It} {t:List PV} {h:Heap}
def Ay3 (h0:Heap) (ks:List Bool) (bs:List Name) (n:Nat) (Φ:Nat → Prop) (T:Nat → List PV) (hh:Nat → Heap) (j:Nat) (t:List PV) (h:Heap):Prop :=
  j < n ∧ Forget h0 t h ks bs ∧ Φ (j + 1) ∧ Di ks t=T (j + 1) ∧ h.drop bs=hh (j + 1)
def Uc (P:Program) (C:B9) (h0:Heap) (base:Name) (Qf:Ex → List PV → Heap → Prop) (k:List It) (ks:List Bool) (bs:List Name) (n:Nat) (Φ:Nat → Prop) (T:Nat → List PV) (hh:Nat → Heap) (j:Nat):Ex → List PV → Heap → Prop
  | .normal,t,h => Ay3 h0 ks bs n Φ T hh j t h
  | e,t,h => K P C h0 base Qf k e t h
def LtN (j n:Nat):Prop:=j < n
theorem Ra {ks:List Bool} {bs:List Name} {n:Nat} {Φ:Nat → Prop} {T:Nat → List PV} {hh:Nat → Heap} {j:Nat}:Uc P C h0 base Qf k ks bs n Φ T hh j .normal t h=(LtN j n ∧ Forget h0 t h ks bs ∧ Φ (j + 1) ∧ Di ks t=T (j + 1) ∧ h.drop bs=hh (j + 1)):=rfl
theorem Wt {ks:List Bool} {bs:List Name} {n:Nat} {Φ:Nat → Prop} {T:Nat → List PV} {hh:Nat → Heap} {j id:Nat}:Uc P C h0 base Qf k ks bs n Φ T hh j (.exit id) t h=K P C h0 base Qf k (.exit id) t h:=rfl
theorem Y4 {ks:List Bool} {bs:List Name} {n:Nat} {Φ:Nat → Prop} {T:Nat → List PV} {hh:Nat → Heap} {j:Nat}:Uc P C h0 base Qf k ks bs n Φ T hh j .ret t h=K P C h0 base Qf k .ret t h:=rfl
theorem Bd6 {b : Code} (ks : List Bool) (bs : List Name) (a n : Nat) (Φ : Nat → Prop) (u : Nat → List (Nat × PV)) (hh : Nat → Heap) (h1 : Forget h0 t h ks bs) (h2 : Di ks t = sets (Di ks t) (u a)) (h3 : h.drop bs = hh a) (ha : a ≤ n) (hΦ : Φ a)
    (hr:∀ j,j ≤ n → Φ j → K P C h0 base (Uc P C h0 base Qf k ks bs n Φ (fun j => sets (Di ks t) (u j)) hh j) [.code b] .normal (sets (Di ks t) (u j)) (hh j)):K P C h0 base Qf (.code (.loop b)::k) .normal t h:=by
  refine Ue ks bs (n - a) (fun m t' h' => ∃ j,m=n - j ∧ j ≤ n ∧ Φ j ∧ t'=sets (Di ks t) (u j) ∧ h'=hh j) h1 ⟨a,rfl,ha,hΦ,h2,h3⟩ ?_
  rintro m t' h' ⟨j,hm,hj,hp,rfl,rfl⟩
  refine Zc (e:=.normal) (k:=[]) (fun e t2 h2 hq => ?_) (hr j hj hp)
  cases e with
  | normal =>
    obtain ⟨g1,g2,g3,g4,g5⟩:Ay3 h0 ks bs n Φ (fun j => sets (Di ks t) (u j)) hh j t2 h2:=hq
    exact ⟨n - (j + 1),by omega,g2,j + 1,rfl,g1,g3,g4,g5⟩
  | exit id => exact hq
  | ret => exact hq
end
def rowP (s:Name) (z n:Nat) (cs:List IV):PV:=if n=0 then .i (.v (.slice none 0 0)) else .view s 0 z n cs.length
def C9 (h:Heap) (s:Name) (n:Nat) (cs:List IV):Heap:=if n=0 then h else h.put s (.row false cs)
theorem Bk (s:Name) (z:Nat) (cs:List IV):rowP s z 0 cs=.i (.v (.slice none 0 0)):=rfl
theorem Ci (h:Heap) (s:Name) (cs:List IV):C9 h s 0 cs=h:=rfl
theorem Bi (s:Name) (z n:Nat) (cs:List IV):rowP s z (n + 1) cs=.view s 0 z (n + 1) cs.length:=rfl
theorem De (h:Heap) (s:Name) (n:Nat) (cs:List IV):C9 h s (n + 1) cs=h.put s (.row false cs):=rfl
theorem Hq (h:Heap) {s c:Name} (n:Nat) (cs:List IV) (hc:c ≠ s):C9 h s n cs c=h c:=by
  unfold C9; split
  · rfl
  · exact Heap.put_ne _ _ hc
theorem Lo {P : Program} {h : Heap} {s : Name} {t e : TypeId} {zs : List Value} {n z m : Nat} {cs xs : List IV} {y : PV} {k2 : SK} (he : Bw P t = some e) (hz : B6 P e = some zs) (hzl : zs.length = z) (hz0 : 0 < z)
    (hn:cs.length=n * z) (hs:h s=if n=0 then none else some (.row false cs)) (hy:y.sk=some k2) (hm:k2.len=m) (hm0:0 < m) (hx:k2.cells h z=some xs)
    (hb:(n + m) * P.bytesOf e ≤ 140737488355328) (hl:n + m ≤ maxLen) :
    Do P h s t (rowP s z n cs) y=some ⟨rowP s z (n + m) (cs ++ xs),[(s,.row false (cs ++ xs))]⟩:=by
  subst hzl
  unfold Do
  rw [he]
  simp only [hz]
  unfold rowP
  by_cases h0:n=0
  · subst h0
    have:cs=[]:=List.eq_nil_of_length_eq_zero (by simpa using hn)
    subst this
    rw [if_pos rfl] at hs ⊢
    simp only [show (PV.i (.v (.slice none 0 0))).sk=some SK.nil from rfl,hy,hx,show SK.nil.len=0 from rfl,hm]
    rw [if_pos ⟨hz0,hb,hl⟩,if_neg (by omega),if_neg (by omega)]
    simp only [Ec,hs,Nat.zero_add,List.nil_append]
  · rw [if_neg h0] at hs ⊢
    simp only [show (PV.view s 0 zs.length n cs.length).sk=some (SK.own s 0 zs.length n cs.length) from rfl,hy,hx,show (SK.own s 0 zs.length n cs.length).len=n from rfl,hm]
    rw [if_pos ⟨hz0,hb,hl⟩,if_neg (by omega),if_neg (by omega),hs]
    simp only [hn,and_self,if_true,true_and]
theorem R5 {h:Heap} {s:Name} {z n:Nat} {cs:List IV} (hn:cs.length=n * z) (hs:n ≠ 0 → h s=some (.row false cs)):Cl h (rowP s z n cs)=some (.i (.l n cs)):=by
  unfold rowP
  by_cases h0:n=0
  · subst h0
    have:cs=[]:=List.eq_nil_of_length_eq_zero (by simpa using hn)
    subst this
    rfl
  · rw [if_neg h0]
    simp only [Cl,hs h0,Nat.zero_add,hn,Nat.le_refl,and_self,if_true,List.drop_zero]
    rw [← hn,List.take_length]
theorem Bh (h:Heap) (s c:Name) (n:Nat) (cs:List IV):C9 h s n cs c=if n=0 then h c else if c=s then some (.row false cs) else h c:=by
  unfold C9; split <;> rfl
theorem Heap.drop_at (h:Heap) (bs:List Name) (c:Name):h.drop bs c=if c ∈ bs then Option.none else h c:=rfl
theorem Be {b s:Name} {z n:Nat} {cs:List IV}:b ∈ Bn (rowP s z n cs) ↔ n ≠ 0 ∧ b=s:=by
  unfold rowP; split
  · rename_i h; simp [Bn,h]
  · rename_i h; simp [Bn,h]
def Dw (b:Name) (h:Heap):Prop:=∀ c cs,h c=some (.var cs) → b ∉ Bs cs
theorem Bx (b:Name):Dw b Heap.none:=fun c cs h => by cases h
theorem Bu {b c:Name} {cs:List PV} {h:Heap} (h1:Dw b h) (h2:b ∉ Bs cs):Dw b (h.put c (.var cs)):=fun d ds hd => by
  rw [Heap.put_at] at hd
  split at hd
  · cases hd; exact h2
  · exact h1 d ds hd
theorem Bp {b c:Name} {fz:Bool} {cs:List IV} {h:Heap} (h1:Dw b h):Dw b (h.put c (.row fz cs)):=fun d ds hd => by
  rw [Heap.put_at] at hd
  split at hd
  · cases hd
  · exact h1 d ds hd
theorem B4 {b c:Name} {k:IntKind} {es:List (Int × Value)} {h:Heap} (h1:Dw b h):Dw b (h.put c (.map k es)):=fun d ds hd => by
  by_cases hdc:d=c
  · subst hdc; rw [Heap.put_same] at hd; cases hd
  · rw [Heap.put_ne _ _ hdc] at hd; exact h1 d ds hd
theorem Bt {b c:Name} {n:Nat} {cs:List IV} {h:Heap} (h1:Dw b h):Dw b (C9 h c n cs):=by
  unfold C9; split
  · exact h1
  · exact Bp h1
theorem Hz {P : Program} {C : B9} {h0 : Heap} {base : Name} {Qf : Ex → List PV → Heap → Prop} {k : List It} {t : List PV} {h : Heap} {r : Option Out} {out : Out} {id : Nat} {ops : Array Oper} {i : Nat} {o : Oper} {os : List Oper} (hr : r = some out)
    (hk:K P C h0 base Qf (.ops id ops (i + 1) os::k) .normal (Cx t o.dst out.val) (h.ups out.ups)):Kres P C h0 base Qf r id ops i o os k t h:=by
  subst hr; exact hk
theorem Sn (zs:List Value):Cc zs 0=[]:=rfl
theorem I0 (zs:List Value) (n:Nat):Cc zs (n + 1)=zs ++ Cc zs n:=by simp [Cc,List.replicate_succ]
theorem Ap9 (t:List PV) (k:Tmp):St.opnd t (.tmp k)=t.getD k Cr:=rfl
theorem Xv (t:List PV) (v:Value):St.opnd t (.const v)=Az v:=rfl
theorem Ae7 (t:List PV) (f:FuncId):St.opnd t (.func f)=.i (.v (.func (.func f) #[] #[])):=rfl
theorem Ar7 (h:Heap):Cl h (.i (.v (.slice none 0 0)))=some (.i (.l 0 [])):=rfl
theorem Ar8 (h:Heap) (k:IntKind) (n:Int):Cl h (.i (.v (.int k n)))=some (.i (.v (.int k n))):=rfl
theorem Af9 (h:Heap) (b:Bool):Cl h (.i (.v (.bool b)))=some (.i (.v (.bool b))):=rfl
theorem Vt (h:Heap) (b:ByteArray):Cl h (.i (.v (.string b)))=some (.i (.v (.string b))):=rfl
theorem Af8 (h:Heap) (f:Fn) (a b:Array Value):Cl h (.i (.v (.func f a b)))=some (.i (.v (.func f a b))):=rfl
theorem lowC_l (h:Heap) (n:Nat) (cs:List IV):Cl h (.i (.l n cs))=some (.i (.l n cs)):=rfl
theorem Af7 (h:Heap) (cs:List IV) (o:Nat):Cl h (.iref cs o)=some (.iref cs o):=rfl
def lowV (x:Option Box) (off z n top:Nat):Option PV:=match x with
  | some (.row _ cs) => if cs.length=top ∧ off + n * z ≤ cs.length then some (.i (.l n ((cs.drop off).take (n * z)))) else none
  | _ => none
theorem Ar2 (fz:Bool) (cs:List IV) (off z n top:Nat):lowV (some (.row fz cs)) off z n top=if cs.length=top ∧ off + n * z ≤ cs.length then some (.i (.l n ((cs.drop off).take (n * z)))) else none:=rfl
theorem Af6 (h:Heap) (b:Name) (off z n top:Nat):Cl h (.view b off z n top)=lowV (h b) off z n top:=rfl
theorem Ar9 (h:Heap) (cs:List PV):Ch h (.agg cs)=(Cv (Cl h) cs).map .agg:=rfl
theorem lowA_i (h:Heap) (x:IV):Ch h (.i x)=Cl h (.i x):=rfl
theorem Ag1 (h:Heap) (cs:List IV) (o:Nat):Ch h (.iref cs o)=Cl h (.iref cs o):=rfl
theorem Ag0 (h:Heap) (b:Name) (off z n top:Nat):Ch h (.view b off z n top)=Cl h (.view b off z n top):=rfl
theorem Ar3 (h:Heap) (cs:List PV):Fc h (.tup cs)=(Cv (Ch h) cs).map .tup:=rfl
theorem Ar4 (h:Heap) (cs:List PV):Fc h (.agg cs)=Ch h (.agg cs):=rfl
theorem lowT_i (h:Heap) (x:IV):Fc h (.i x)=Ch h (.i x):=rfl
theorem Af1 (h:Heap) (b:Name) (off z n top:Nat):Fc h (.view b off z n top)=Ch h (.view b off z n top):=rfl
def consO {γ:Type} (y:Option γ) (ys:Option (List γ)):Option (List γ):=match y,ys with
  | some y,some ys => some (y::ys)
  | _,_ => none
theorem Ys {γ:Type} (y:γ) (ys:List γ):consO (some y) (some ys)=some (y::ys):=rfl
theorem Ar1 {α γ:Type} (f:α → Option γ):Cv f []=some []:=rfl
theorem Ae9 {α γ:Type} (f:α → Option γ) (x:α) (xs:List α):Cv f (x::xs)=consO (f x) (Cv f xs):=rfl
theorem Ap0 (P:Program) (t:List PV) (h:Heap) (k:Tmp):J3 P t h (.tmp k)=some (t.getD k Cr):=rfl
theorem Ae2 (P:Program) (t:List PV) (h:Heap) (a:Tmp) (ty:TypeId):J3 P t h (.cell a ty)=if Cb P ty=true then Ap P h ty (t.getD a Cr) else none:=rfl
def resO (xs:Option (List PV)):Option PV:=match xs with
  | some [x] => some x
  | some xs => some (.tup xs)
  | none => none
theorem Ap2 (x:PV):resO (some [x])=some x:=rfl
theorem Ap1 (x y:PV) (xs:List PV):resO (some (x::y::xs))=some (.tup (x::y::xs)):=rfl
theorem Ba0 (P:Program) (rs:List ResultVar) (t:List PV) (h:Heap):U1 P rs t h=resO (Cv (J3 P t h) rs):=rfl
def sim7 :=
  And.intro @Ap9<|And.intro @Xv<|@Ae7
def simr :=
  And.intro @Ar7<|And.intro @Ar8<|And.intro @Af9<|And.intro @Vt<|And.intro @Af8<|And.intro @lowC_l<|And.intro @Af7<|And.intro @Ar2<|And.intro @Af6<|And.intro @Ar9<|And.intro @lowA_i<|And.intro @Ag1<|And.intro @Ag0<|And.intro @Ar3<|And.intro @Ar4<|And.intro @lowT_i<|And.intro @Af1<|And.intro @Ys<|And.intro @Ar1<|And.intro @Ae9<|And.intro @Ap0<|And.intro @Ae2<|And.intro @Ap2<|And.intro @Ap1<|@Ba0
theorem U3 (p:PV) (ps:List PV):Bs (p::ps)=Bn p ++ Bs ps:=by simp [Bs]
end Go.Proofs.Ythnfphgjfpcpbaa.TM
namespace Go.Proofs.Ythnfphgjfpcpbaa.TM
open Go Go.RowKit Go.ChangeShapes Go.WideShapes Go.ChangeAt
theorem N1 {α β:Type} (f:α → β):∀ l:List α,(l.flatMap fun a => [f a])=l.map f
  | [] => rfl
  | a::l => by rw [List.flatMap_cons,N1 f l]; rfl
theorem opens_slice1 {H:Type} {enc:TypeId × Value → H} {P:Program} {α:Type} {t e:TypeId} {f:α → IV} {good:α → Prop} (ht:P.underlying t=some (.slice e)) (ho:OpensI enc P e (fun a => [f a]) good) (hz:P.cellsOf e=1) :
    OpensI enc P t (fun l:List α => [IV.l l.length (l.map f)]) (fun l => l.length ≤ maxLen ∧ ∀ a ∈ l,good a):=by
  intro W base spare held fuel cs x h
  obtain ⟨l,hg,hr⟩:=Vf ht ho hz (fun a => rfl) W base spare held fuel cs x h
  replace hr:RepL (RC W) [IV.l l.length (l.flatMap fun a => [f a])] cs:=hr
  rw [N1] at hr
  exact ⟨l,hg,hr⟩
def Sk (W:World):List PV → List Value → Prop
  | [],[] => True
  | p::ps,v::vs => Rep ⟨fun _ => 0,fun _ => False⟩ Heap.none W p v ∧ Sk W ps vs
  | _,_ => False
theorem repsL_nil {W:World}:Sk W [] []:=trivial
theorem repsL_cons {W:World} {p:PV} {v:Value} {ps:List PV} {vs:List Value} (h:Rep ⟨fun _ => 0,fun _ => False⟩ Heap.none W p v) (hs:Sk W ps vs):Sk W (p::ps) (v::vs):=⟨h,hs⟩
theorem Pc {W:World}:∀ {ps:List PV} {vs:List Value},Sk W ps vs → ps.length=vs.length ∧ ∀ (j:Nat) (p:PV) (v:Value),ps[j]?=some p → vs[j]?=some v → Rep ⟨fun _ => 0,fun _ => False⟩ Heap.none W p v
  | [],[],_ => ⟨rfl,fun j p v h => by simp at h⟩
  | p::ps,v::vs,h => by
    obtain ⟨h1,h2⟩:=Pc h.2
    refine ⟨by simp [h1],fun j q u hq hu => ?_⟩
    cases j with
    | zero => simp at hq hu; subst hq; subst hu; exact h.1
    | succ j => simp at hq hu; exact h2 j q u hq hu
theorem repsL_reps {W:World} {ps:List PV} {vs:List Value} (h:Sk W ps vs):Reps ⟨fun _ => 0,fun _ => False⟩ Heap.none W ps vs.toArray :=
  Ba1 ps vs (Pc h).1 (Pc h).2
theorem rep_v {W:World} (v:Value):Rep ⟨fun _ => 0,fun _ => False⟩ Heap.none W (.i (.v v)) v:=Pd (.v v)
theorem rep_one {W:World} {x:IV} {v:Value} (h:RepL (RC W) [x] [v]):Rep ⟨fun _ => 0,fun _ => False⟩ Heap.none W (.i x) v:=Pd (h.rep 0 x v rfl rfl)
end Go.Proofs.Ythnfphgjfpcpbaa.TM
namespace Go.Proofs.Ythnfphgjfpcpbaa.TM
open Go
def toL (n:Nat) (f:Nat → PV):List PV:=(List.range n).map f
def upd (f:Nat → PV) (k:Nat) (v:PV):Nat → PV:=fun j => if j=k then v else f j
def K5 (args:List PV):Nat → PV:=fun i => args.getD i Cr
def Au3:Nat → PV:=fun _ => .dead
def updl (f:Nat → PV):List (Nat × PV) → Nat → PV
  | [] => f
  | (i,v)::r => updl (upd f i v) r
def L3:List Nat → (Nat → PV) → Nat → PV
  | [],_ => Au3
  | i::L,f => upd (L3 L f) i (f i)
theorem Lv (n:Nat) (f:Nat → PV):(toL n f).length=n:=by simp [toL]
theorem Ic (n:Nat) (f:Nat → PV) (k:Nat):(toL n f)[k]?=if k < n then some (f k) else none:=by
  unfold toL
  rw [List.getElem?_map]
  by_cases h:k < n
  · rw [if_pos h,List.getElem?_range h]; rfl
  · rw [if_neg h,List.getElem?_eq_none (by simp; omega)]; rfl
theorem Am6 (n:Nat) (f:Nat → PV) (k:Nat) (u:PV):(toL n f).getD k u=if k < n then f k else u:=by
  rw [List.getD_eq_getElem?_getD,Ic]; split <;> rfl
theorem As0 {n:Nat} {l:List PV} (hl:l.length=n) (f:Nat → PV) (h:∀ i,i < n → l.getD i Cr=f i):l=toL n f:=by
  apply List.ext_getElem?
  intro i
  rw [Ic]
  by_cases hi:i < n
  · rw [if_pos hi,← h i hi,List.getElem?_eq_getElem (by omega),List.getD_eq_getElem?_getD,List.getElem?_eq_getElem (by omega)]; rfl
  · rw [if_neg hi,List.getElem?_eq_none (by omega)]
theorem Ay6 (n:Nat) (f:Nat → PV) (k:Nat) (v:PV):(toL n f).set k v=toL n (upd f k v):=by
  apply List.ext_getElem?
  intro i
  rw [List.getElem?_set,Ic,Ic,Lv]
  unfold upd
  by_cases hk:k=i
  · subst hk
    rw [if_pos rfl]
    by_cases hn:k < n
    · simp [hn]
    · simp [hn]
  · rw [if_neg hk,if_neg (show ¬ i=k from fun h => hk h.symm)]
theorem Am5 (f:Nat → PV) (k j:Nat) (v:PV):upd f k v j=if j=k then v else f j:=rfl
theorem Av3 (args:List PV) (i:Nat):K5 args i=args.getD i Cr:=rfl
theorem Au2 (i:Nat):Au3 i=.dead:=rfl
theorem Am4 (f:Nat → PV):updl f []=f:=rfl
theorem Ac0 (f:Nat → PV) (i:Nat) (v:PV) (r:List (Nat × PV)):updl f ((i,v)::r)=updl (upd f i v) r:=rfl
theorem Ae6 (f:Nat → PV):L3 [] f=Au3:=rfl
theorem Pi (i:Nat) (L:List Nat) (f:Nat → PV):L3 (i::L) f=upd (L3 L f) i (f i):=rfl
theorem Ph (f:Nat → PV) (i:Nat):∀ L:List Nat,L3 L f i=if i ∈ L then f i else .dead
  | [] => rfl
  | k::L => by
    rw [Pi,Am5,Ph f i L]
    by_cases h:i=k
    · subst h; simp
    · simp [h]
theorem Rf (args:List PV) {n m:Nat} (hm:args.length=m) (h:m ≤ n):args ++ List.replicate (n - m) Cr=toL n (K5 args):=by
  subst hm
  refine As0 (by simp; omega) _ fun i hi => ?_
  unfold K5
  rw [List.getD_eq_getElem?_getD,List.getElem?_append]
  split
  · rw [List.getD_eq_getElem?_getD]
  · rename_i h2
    rw [List.getElem?_replicate,List.getD_eq_getElem?_getD,List.getElem?_eq_none (by omega)]
    split <;> rfl
theorem CallsP.startF {P : Program} {f : FuncId} {fn : Func} {c : Code} {args : List PV} {v : PV} {n m : Nat} {rs : List ResultVar} (hf : P.funcs[f]? = some fn) (hb : fn.body = some c) (hn : fn.ntmps = n) (hrs : fn.results.toList = rs) (hm : args.length = m) (hmn : m ≤ n)
    (hw:∀ base,K P (CallR P) Heap.none base (fun e t hh => (e=.normal ∨ e=.ret) ∧ (U1 P rs t hh).bind (Fc hh)=some v) [.code c] .normal (toL n (K5 args)) Heap.none):CallsP P f args v :=
  CallsP.start hf hb hn hrs fun base => by rw [Rf args rfl (by omega)]; exact hw base
theorem CallR.startF {P : Program} {base : Name} {f : FuncId} {fn : Func} {c : Code} {args : List PV} {h : Heap} {v : PV} {h' : Heap} {n m : Nat} {rs : List ResultVar} (hf : P.funcs[f]? = some fn) (hb : fn.body = some c) (hn : fn.ntmps = n) (hrs : fn.results.toList = rs) (hm : args.length = m) (hmn : m ≤ n)
    (hw:K P (CallR P) h base (fun e t hh => (e=.normal ∨ e=.ret) ∧ U1 P rs t hh=some v ∧ hh=h') [.code c] .normal (toL n (K5 args)) h):CallR P base f args h v h' :=
  CallR.start hf hb hn hrs (by rw [Rf args rfl (by omega)]; exact hw)
def X5 (n:Nat) (L:List Nat):List Bool:=(List.range n).map fun i => decide (i ∈ L)
theorem Vx:∀ (ks:List Bool) (t:List PV),ks.length=t.length → ∀ i:Nat,(Di ks t)[i]?=if ks[i]?=some true then t[i]? else (t[i]?).map fun _ => PV.dead
  | [],[],_,i => by simp [R8]
  | k::ks,x::xs,h,i => by
    cases i with
    | zero => cases k <;> simp [To,Tp]
    | succ i => cases k <;> simp [To,Tp] <;> exact Vx ks xs (by simpa using h) i
  | [],_::_,h,_ => by simp at h
  | _::_,[],h,_ => by simp at h
theorem Py {n:Nat} {L:List Nat} {t:List PV} (hl:t.length=n) {g:Nat → PV} (he:∀ i ∈ L,t.getD i Cr=g i):Di (X5 n L) t=toL n (L3 L g):=by
  apply List.ext_getElem?
  intro i
  rw [Vx _ _ (by simp [X5,hl]),Ic]
  by_cases hi:i < n
  · have h1:t[i]?=some t[i]:=List.getElem?_eq_getElem (by omega)
    have h2:(X5 n L)[i]?=some (decide (i ∈ L)):=by unfold X5; rw [List.getElem?_map,List.getElem?_range hi]; rfl
    rw [if_pos hi,h1,h2,Ph]
    by_cases hL:i ∈ L
    · rw [if_pos (by simp [hL]),if_pos hL,← he i hL,List.getD_eq_getElem?_getD,h1]; rfl
    · rw [if_neg (by simp [hL]),if_neg hL]; rfl
  · rw [if_neg hi,List.getElem?_eq_none (show t.length ≤ i by omega)]
    split <;> rfl
def FgT (h0:Heap) (bs:List Name) (L:List Nat) (t:List PV) (h:Heap):Prop:=∀ b ∈ bs,h0 b=none ∧ (∀ i ∈ L,b ∉ Bn (t.getD i Cr)) ∧ Dw b (h.drop bs)
def EqT (L:List Nat) (t:List PV) (g:Nat → PV):Prop:=∀ i ∈ L,t.getD i Cr=g i
theorem Bd7 (t:List PV) (g:Nat → PV):EqT [] t g=True:=by simp [EqT]
theorem Ay0 (i:Nat) (L:List Nat) (t:List PV) (g:Nat → PV):EqT (i::L) t g=(t.getD i Cr=g i ∧ EqT L t g):=by simp [EqT]
theorem Bl {h0:Heap} {L:List Nat} {t:List PV} {h:Heap}:FgT h0 [] L t h:=fun b hb => by simp at hb
def Js (b:Name) (L:List Nat) (t:List PV):Prop:=∀ i ∈ L,b ∉ Bn (t.getD i Cr)
theorem Bo (b:Name) (t:List PV):Js b [] t=True:=by simp [Js]
theorem Bm (b:Name) (i:Nat) (L:List Nat) (t:List PV):Js b (i::L) t=(b ∉ Bn (t.getD i Cr) ∧ Js b L t):=by simp [Js]
theorem Sc {h:Heap} {bs:List Name} {c:Name} {x:Box} (hd:h.drop bs c=some x):h c=some x:=by
  rw [Heap.drop_at] at hd
  split at hd
  · cases hd
  · exact hd
theorem P8 {h:Heap} {b:Name} {bs:List Name} {c:Name} {x:Box} (hd:h.drop (b::bs) c=some x):h.drop bs c=some x:=by
  rw [Heap.drop_at] at hd ⊢
  split at hd
  · cases hd
  · rename_i hn
    rw [if_neg (fun hm => hn (List.mem_cons_of_mem _ hm))]; exact hd
theorem Bv {h0:Heap} {b:Name} {bs:List Name} {L:List Nat} {t:List PV} {h:Heap} (h1:h0 b=none) (h2:Js b L t) (h3:Dw b h) (h4:FgT h0 bs L t h):FgT h0 (b::bs) L t h:=fun c hc => by
  rcases List.mem_cons.1 hc with rfl|hc
  · exact ⟨h1,h2,fun d ds hd => h3 d ds (Sc hd)⟩
  · exact ⟨(h4 c hc).1,(h4 c hc).2.1,fun d ds hd => (h4 c hc).2.2 d ds (P8 hd)⟩
theorem M8 {h0 h':Heap} {bs:List Name} {L:List Nat} {t:List PV} {h:Heap} (hd:h.drop bs=h') (h1:∀ b ∈ bs,h0 b=none) (h2:∀ b ∈ bs,Js b L t) (h3:∀ b ∈ bs,Dw b h'):FgT h0 bs L t h:=fun c hc =>
  ⟨h1 c hc,h2 c hc,by rw [hd]; exact h3 c hc⟩
theorem Pp {b:Name}:∀ {ps:List PV},b ∈ Bs ps → ∃ p ∈ ps,b ∈ Bn p
  | [],h => by simp [Bs] at h
  | p::ps,h => by
    rw [U3,List.mem_append] at h
    rcases h with h|h
    · exact ⟨p,by simp,h⟩
    · obtain ⟨q,h1,h2⟩:=Pp h; exact ⟨q,by simp [h1],h2⟩
theorem P7 {h0:Heap} {n:Nat} {bs:List Name} {L:List Nat} {t:List PV} {h:Heap} (hl:t.length=n) (hf:FgT h0 bs L t h):Forget h0 t h (X5 n L) bs:=by
  refine ⟨by simp [X5,hl],fun b hb => (hf b hb).1,fun b hb hm => ?_,fun c cs hc b hb => (hf b hb).2.2 c cs hc⟩
  rw [Py (g:=fun i => t.getD i Cr) hl (fun i _ => rfl)] at hm
  obtain ⟨p,h1,h2⟩:=Pp hm
  unfold toL at h1
  obtain ⟨i,hi,rfl⟩:=List.mem_map.1 h1
  rw [Ph] at h2
  split at h2
  · rename_i hL; exact (hf b hb).2.1 i hL h2
  · simp [Bn] at h2
section
variable {P:Program} {C:B9} {h0:Heap} {base:Name} {Qf:Ex → List PV → Heap → Prop} {k:List It} {h:Heap}
def Qh (P:Program) (C:B9) (h0:Heap) (base:Name) (Qf:Ex → List PV → Heap → Prop) (k:List It) (n:Nat) (L:List Nat) (bs:List Name) (m:Nat) (Φ:Nat → Prop) (F:Nat → Nat → PV) (hh:Nat → Heap) (j:Nat):Ex → List PV → Heap → Prop
  | .normal,t,h => t.length=n ∧ LtN j m ∧ FgT h0 bs L t h ∧ Φ (j + 1) ∧ EqT L t (F (j + 1)) ∧ h.drop bs=hh (j + 1)
  | e,t,h => K P C h0 base Qf k e t h
variable {n:Nat} {L:List Nat} {bs:List Name} {m:Nat} {Φ:Nat → Prop} {F:Nat → Nat → PV} {hh:Nat → Heap} {j:Nat} {t:List PV}
theorem Q9 {g:Nat → PV}:Qh P C h0 base Qf k n L bs m Φ F hh j .normal (toL n g) h=(LtN j m ∧ FgT h0 bs L (toL n g) h ∧ Φ (j + 1) ∧ EqT L (toL n g) (F (j + 1)) ∧ h.drop bs=hh (j + 1)):=by
  show ((toL n g).length=n ∧ _)=_
  rw [Lv]; simp
theorem Ws {id:Nat}:Qh P C h0 base Qf k n L bs m Φ F hh j (.exit id) t h=K P C h0 base Qf k (.exit id) t h:=rfl
theorem Y3:Qh P C h0 base Qf k n L bs m Φ F hh j .ret t h=K P C h0 base Qf k .ret t h:=rfl
theorem Bd5 {b : Code} {f : Nat → PV} (L : List Nat) (bs : List Name) (a m : Nat) (Φ : Nat → Prop) (u : Nat → List (Nat × PV)) (hh : Nat → Heap) (h1 : FgT h0 bs L (toL n f) h) (h2 : EqT L (toL n f) (updl f (u a))) (h3 : h.drop bs = hh a) (ha : a ≤ m) (hΦ : Φ a) (hL : ∀ i ∈ L, i < n)
    (hr:∀ j,j ≤ m → Φ j → K P C h0 base (Qh P C h0 base Qf k n L bs m Φ (fun j => updl f (u j)) hh j) [.code b] .normal (toL n (L3 L (updl f (u j)))) (hh j)):K P C h0 base Qf (.code (.loop b)::k) .normal (toL n f) h:=by
  refine Ue (X5 n L) bs (m - a) (fun r t' h' => ∃ j,r=m - j ∧ j ≤ m ∧ Φ j ∧ t'=toL n (L3 L (updl f (u j))) ∧ h'=hh j) (P7 (Lv n f) h1) ⟨a,rfl,ha,hΦ,Py (Lv n f) h2,h3⟩ ?_
  rintro r t' h' ⟨j,hm,hj,hp,rfl,rfl⟩
  refine Zc (e:=.normal) (k:=[]) (fun e t2 h2 hq => ?_) (hr j hj hp)
  cases e with
  | normal =>
    obtain ⟨g0,g1,g2,g3,g4,g5⟩:t2.length=n ∧ LtN j m ∧ FgT h0 bs L t2 h2 ∧ Φ (j + 1) ∧ EqT L t2 (updl f (u (j + 1))) ∧ h2.drop bs=hh (j + 1):=hq
    have g1:j < m:=g1
    exact ⟨m - (j + 1),by omega,P7 g0 g2,j + 1,rfl,g1,g3,Py g0 g4,g5⟩
  | exit id => exact hq
  | ret => exact hq
end
section
variable {P:Program} {h0:Heap} {base:Name} {Qf:Ex → List PV → Heap → Prop} {k:List It} {h:Heap} {t:List PV}
theorem G2 (g:FuncId) (as:Array Operand) (ts:Array TypeId):Db t ⟨.value (.func g),as,ts⟩=some (g,as.toList.map (St.opnd t)):=by
  simp [Db,St.opnd]
theorem Al8 {id : Nat} {ops : Array Oper} {i : Nat} {o : Oper} {os : List Oper} {g : FuncId} {as : Array Operand} {ts : Array TypeId} {largs : List PV} {v : PV} (hs : CallsP P g largs v) (ho : o.op = .call ⟨.value (.func g), as, ts⟩) (he : A7 P g = true)
    (hl:Cv (Ch h) (as.toList.map (St.opnd t))=some largs)
    (hk:K P (CallR P) h0 base Qf (.ops id ops (i + 1) os::k) .normal (Cx t o.dst v) (h.ups (if Aw v then [] else B7 h ((as.toList.map (St.opnd t)).flatMap Al)))) :
    K P (CallR P) h0 base Qf (.call id ops i o os::k) .normal t h :=
  Gj hs ho (G2 g as ts) he hl hk
theorem Ze {id : Nat} {ops : Array Oper} {i : Nat} {o : Oper} {os : List Oper} {acc : List Keys} {g : FuncId} {as : Array Operand} {ts : Array TypeId} {largs : List PV} {v : PV} (hs : CallsP P g largs v) (ho : o.op = .call ⟨.value (.func g), as, ts⟩) (he : A7 P g = true)
    (hl:Cv (Ch h) (as.toList.map (St.opnd t))=some largs)
    (hk:K P (CallR P) h0 base Qf (.dops id ops (i + 1) os ((Et (if Aw v then [] else B7 h ((as.toList.map (St.opnd t)).flatMap Al)),Dr ((id,i)::base)::(((as.toList.map (St.opnd t)).flatMap Al).map Dr ++ C2 ((A8 o.op).map (St.opnd t))))::acc)::k) .normal (Cx t o.dst v)
      (h.ups (if Aw v then [] else B7 h ((as.toList.map (St.opnd t)).flatMap Al)))) :
    K P (CallR P) h0 base Qf (.dcall id ops i o os acc::k) .normal t h :=
  Ug hs ho (G2 g as ts) he hl hk
end
def sim6 :=
  And.intro @Lv<|And.intro @Ic<|And.intro @Am6<|And.intro @Ay6<|And.intro @Am5<|And.intro @Av3<|And.intro @Au2<|And.intro @Am4<|And.intro @Ac0<|And.intro @Ae6<|And.intro @Pi<|And.intro @Bd7<|And.intro @Ay0<|And.intro @Q9<|And.intro @Ws<|@Y3
end Go.Proofs.Ythnfphgjfpcpbaa.TM
namespace Go.Proofs.Ythnfphgjfpcpbaa.TM
open Go
theorem XInv.start (ops:Array Oper):XInv ops [] 0 ops.toList:=⟨rfl,rfl⟩
theorem XInv.at {ops:Array Oper} {ds:List (Option Tmp)} {i:Nat} {o:Oper} {os:List Oper} (h:XInv ops ds i (o::os)):i < ops.toList.length ∧ ops.toList[i]?=some o:=by
  have h1:=congrArg (·[0]?) h.1
  simp only [List.getElem?_drop,List.getElem?_cons_zero,Nat.add_zero] at h1
  exact ⟨(List.getElem?_eq_some_iff.1 h1).1,h1⟩
theorem XInv.step {ops:Array Oper} {ds:List (Option Tmp)} {i:Nat} {o:Oper} {os:List Oper} (h:XInv ops ds i (o::os)):XInv ops (o.dst::ds) (i + 1) os:=by
  obtain ⟨h1,h2⟩:=h.at
  refine ⟨?_,?_⟩
  · rw [← List.drop_drop,h.1]; rfl
  · rw [List.reverse_cons,h.2,List.take_succ_eq_append_getElem h1,List.map_append,List.map_cons,List.map_nil]
    have:ops.toList[i]=o:=by
      have:=List.getElem?_eq_getElem h1
      rw [h2] at this
      exact (Option.some.inj this).symm
    rw [this]
theorem XInv.dst {ops:Array Oper} {ds:List (Option Tmp)} {i:Nat} {os:List Oper} (h:XInv ops ds i os) (hi:i ≤ ops.toList.length) {j:Nat} (hj:j < i):(ops[j]?).bind (·.dst)=(ds[i - 1 - j]?).join:=by
  have hlen:ds.length=i:=by
    have:=congrArg List.length h.2
    simp only [List.length_reverse,List.length_map,List.length_take] at this
    omega
  have h3:ds[i - 1 - j]?=ds.reverse[j]?:=by
    rw [List.getElem?_reverse (by omega),hlen]
  rw [h3,h.2,List.getElem?_map,List.getElem?_take,if_pos hj,← Array.getElem?_toList]
  cases ops.toList[j]? <;> rfl
def Ka:Option PV → Bool → Option Bool
  | some (.i (.v (.bool b))),want => some (b == want)
  | some (.tup []),_ => some false
  | _,_ => none
def Yg (ops:Array Oper) (_:DepA ops) (t:List PV) (j:Nat) (want:Bool):Option Bool:=Ka (((ops[j]?).bind (·.dst)).bind (t[·]?)) want
def Rm (t:List PV):Option Tmp → Option PV
  | some k => t[k]?
  | none => none
theorem W9 (t:List PV) (k:Tmp):Rm t (some k)=t[k]?:=rfl
theorem Xa (t:List PV):Rm t none=none:=rfl
theorem An8 (t:List PV) (o:Option Tmp):o.bind (t[·]?)=Rm t o:=by cases o <;> rfl
def Jd (ops:Array Oper) (a:DepA ops) (i:Nat) (ds:List (Option Tmp)) (t:List PV):Option (Nat × Bool) → Option Bool
  | none => some true
  | some (j,want) => if j < i then Ka (Rm t (ds[i - 1 - j]?).join) want else Yg ops a t j want
theorem V8 {ops:Array Oper} {o:Oper} {j:Nat} {want:Bool} (hgg:o.guard=some (j,want)) (t:List PV):E5 ops t o=Ka (((ops[j]?).bind (·.dst)).bind (t[·]?)) want:=by
  unfold E5
  rw [hgg]
  simp only
  generalize ((ops[j]?).bind (·.dst)).bind (t[·]?)=x
  unfold Ka
  split
  · rfl
  · rfl
  · split <;> simp_all
theorem Sa {ops:Array Oper} {ds:List (Option Tmp)} {i:Nat} {o:Oper} {os:List Oper} (h:XInv ops ds i (o::os)) (t:List PV):E5 ops t o=Jd ops .mk i ds t o.guard:=by
  cases hgg:o.guard with
  | none => unfold E5; rw [hgg]; rfl
  | some q =>
    obtain ⟨j,want⟩:=q
    rw [V8 hgg]
    show _=if j < i then Ka (Rm t (ds[i - 1 - j]?).join) want else Yg ops .mk t j want
    by_cases hj:j < i
    · rw [if_pos hj,h.dst (Nat.le_of_lt h.at.1) hj,An8]
    · rw [if_neg hj]; rfl
theorem V7 (ops:Array Oper) (a:DepA ops) (i:Nat) (ds:List (Option Tmp)) (t:List PV):Jd ops a i ds t none=some true:=rfl
theorem V6 (ops:Array Oper) (a:DepA ops) (i:Nat) (ds:List (Option Tmp)) (t:List PV) (j:Nat) (want:Bool):Jd ops a i ds t (some (j,want))=if j < i then Ka (Rm t (ds[i - 1 - j]?).join) want else Yg ops a t j want:=rfl
theorem V5 (b want:Bool):Ka (some (.i (.v (.bool b)))) want=some (b == want):=rfl
theorem Yf (want:Bool):Ka (some (.tup [])) want=some false:=rfl
theorem Ai8 (d:Option Tmp):Option.join (some d)=d:=rfl
section
variable {P:Program} {C:B9} {h0:Heap} {base:Name} {Qf:Ex → List PV → Heap → Prop} {k:List It} {t:List PV} {h:Heap}
theorem X_seq (a b:Code) (d:Dep (.seq a b)):K P C h0 base Qf (.lk (.seq a b) d::k) .normal t h=K P C h0 base Qf (.lk a .mk::.lk b .mk::k) .normal t h:=by
  show W P C h0 base a t h _=W P C h0 base a t h _
  congr 1
  funext e t' h'
  cases e <;> rfl
theorem X_skip (d:Dep .skip):K P C h0 base Qf (.lk .skip d::k) .normal t h=K P C h0 base Qf k .normal t h:=rfl
theorem X_exit (id:Nat) (d:Dep (.exit id)):K P C h0 base Qf (.lk (.exit id) d::k) .normal t h=K P C h0 base Qf k (.exit id) t h:=rfl
theorem X_retc (d:Dep .ret):K P C h0 base Qf (.lk .ret d::k) .normal t h=K P C h0 base Qf k .ret t h:=rfl
theorem Ak8 (c:Code) (d:Dep c) (j:Nat):K P C h0 base Qf (.lk c d::k) (.exit j) t h=K P C h0 base Qf k (.exit j) t h:=rfl
theorem Bd0 (id:Nat) (b:Code) (d:Dep (.block id b)):K P C h0 base Qf (.lk (.block id b) d::k) .normal t h=K P C h0 base Qf (.lk b .mk::.inB id::k) .normal t h :=
  Ab5 id b
variable (P C h0 base Qf) in
def Xif (p:PV) (x y:Code) (dx:Dep x) (dy:Dep y) (k:List It) (t:List PV) (h:Heap):Prop :=
  match p with
  | .i (.v (.bool b)) => if b=true then K P C h0 base Qf (.lk x dx::k) .normal t h else K P C h0 base Qf (.lk y dy::k) .normal t h
  | _ => False
theorem Aw0 (x y:Code) (dx:Dep x) (dy:Dep y):Xif P C h0 base Qf (.i (.v (.bool true))) x y dx dy k t h=K P C h0 base Qf (.lk x .mk::k) .normal t h:=rfl
theorem Ak4 (x y:Code) (dx:Dep x) (dy:Dep y):Xif P C h0 base Qf (.i (.v (.bool false))) x y dx dy k t h=K P C h0 base Qf (.lk y .mk::k) .normal t h:=rfl
theorem X_cond (c:Operand) (x y:Code) (d:Dep (.cond c x y)):K P C h0 base Qf (.lk (.cond c x y) d::k) .normal t h=Xif P C h0 base Qf (St.opnd t c) x y .mk .mk k t h:=rfl
theorem Ak7 (id:Nat) (l:List Oper) (d:Dep (.region id l.toArray false)):K P C h0 base Qf (.lk (.region id l.toArray false) d::k) .normal t h=K P C h0 base Qf (.xops id l.toArray [] 0 l ⟨XInv.start l.toArray⟩::k) .normal t h:=rfl
theorem Bc8 (id:Nat) (l:List Oper) (d:Dep (.region id l.toArray true)):K P C h0 base Qf (.lk (.region id l.toArray true) d::k) .normal t h=K P C h0 base Qf (.xdops id l.toArray [] 0 l ⟨XInv.start l.toArray⟩ []::k) .normal t h:=Ax6 id l.toArray
theorem X_nil (id:Nat) (ops:Array Oper) (ds:List (Option Tmp)) (i:Nat) (pf:XPf ops ds i []):K P C h0 base Qf (.xops id ops ds i [] pf::k) .normal t h=K P C h0 base Qf k .normal t h:=rfl
variable (P C h0 base Qf) in
def Xg (g:Option Bool) (d:Option Tmp) (p:Op) (nm:Name) (R Rc:It) (k:List It) (t:List PV) (h:Heap):Prop :=
  match g with
  | none => False
  | some g => if g = true then (if Ax p = true then K P C h0 base Qf (Rc :: k) .normal t h else (match Ao P h nm (St.opnd t) p with
      | some out => K P C h0 base Qf (R::k) .normal (Cx t d out.val) (h.ups out.ups)
      | none => False)) else K P C h0 base Qf (R::k) .normal (Cx t d Cr) h
variable (P C h0 base Qf) in
def Xo (b:Bool) (d:Option Tmp) (p:Op) (nm:Name) (R Rc:It) (k:List It) (t:List PV) (h:Heap):Prop :=
  if b = true then K P C h0 base Qf (Rc :: k) .normal t h else (match Ao P h nm (St.opnd t) p with
      | some out => K P C h0 base Qf (R::k) .normal (Cx t d out.val) (h.ups out.ups)
      | none => False)
variable (P C h0 base Qf) in
def Xr (r:Option Out) (d:Option Tmp) (R:It) (k:List It) (t:List PV) (h:Heap):Prop :=
  match r with
  | some out => K P C h0 base Qf (R::k) .normal (Cx t d out.val) (h.ups out.ups)
  | none => False
theorem Bc7 (d:Option Tmp) (p:Op) (nm:Name) (R Rc:It):Xg P C h0 base Qf (some true) d p nm R Rc k t h=Xo P C h0 base Qf (Ax p) d p nm R Rc k t h:=rfl
theorem Aw1 (d:Option Tmp) (p:Op) (nm:Name) (R Rc:It):Xg P C h0 base Qf (some false) d p nm R Rc k t h=K P C h0 base Qf (R::k) .normal (Cx t d Cr) h:=rfl
theorem Bc6 (d:Option Tmp) (p:Op) (nm:Name) (R Rc:It):Xo P C h0 base Qf true d p nm R Rc k t h=K P C h0 base Qf (Rc::k) .normal t h:=rfl
theorem Av9 (d:Option Tmp) (p:Op) (nm:Name) (R Rc:It):Xo P C h0 base Qf false d p nm R Rc k t h=Xr P C h0 base Qf (Ao P h nm (St.opnd t) p) d R k t h:=rfl
theorem Bc5 (v:PV) (us:List (Name × Box)) (d:Option Tmp) (R:It):Xr P C h0 base Qf (some ⟨v,us⟩) d R k t h=K P C h0 base Qf (R::k) .normal (Cx t d v) (h.ups us):=rfl
end
section
variable {P:Program} {C:B9} {h0:Heap} {base:Name} {Qf:Ex → List PV → Heap → Prop} {k:List It} {t:List PV} {h:Heap}
theorem X_ops0 (id:Nat) (ops:Array Oper) (ds:List (Option Tmp)) (i:Nat) (o:Oper) (os:List Oper) (pf:XPf ops ds i (o::os)) :
    K P C h0 base Qf (.xops id ops ds i (o::os) pf::k) .normal t h=Xg P C h0 base Qf (Jd ops .mk i ds t o.guard) o.dst o.op ((id,i)::base) (.xops id ops (o.dst::ds) (i + 1) os ⟨pf.h.step⟩) (.xcall id ops ds i o os pf) k t h:=by
  show K P C h0 base Qf (.ops id ops i (o::os)::k) .normal t h=_
  rw [K_ops,Sa pf.h]
  unfold Kgrd Xg
  cases Jd ops .mk i ds t o.guard with
  | none => rfl
  | some g =>
    cases g with
    | false => rfl
    | true =>
      simp only [if_true]
      rw [K_one]
      unfold Kone
      rfl
theorem X_ops (id:Nat) (ops:Array Oper) (ds:List (Option Tmp)) (i:Nat) (d:Option Tmp) (p:Op) (ty:TypeId) (ps:String) (af:Array Edge) (g:Option (Nat × Bool)) (os:List Oper) (pf:XPf ops ds i ({ dst:=d,op:=p,type:=ty,pos:=ps,after:=af,guard:=g }::os)) :
    K P C h0 base Qf (.xops id ops ds i ({ dst:=d,op:=p,type:=ty,pos:=ps,after:=af,guard:=g }::os) pf::k) .normal t h =
    Xg P C h0 base Qf (Jd ops .mk i ds t g) d p ((id,i)::base) (.xops id ops (d::ds) (i + 1) os ⟨pf.h.step⟩) (.xcall id ops ds i { dst:=d,op:=p,type:=ty,pos:=ps,after:=af,guard:=g } os pf) k t h :=
  X_ops0 id ops ds i _ os pf
theorem Bg {id : Nat} {ops : Array Oper} {ds : List (Option Tmp)} {i : Nat} {d : Option Tmp} {p : Op} {ty : TypeId} {ps : String} {af : Array Edge} {g0 : Option (Nat × Bool)} {os : List Oper} {pf : XPf ops ds i ({ dst := d, op := p, type := ty, pos := ps, after := af, guard := g0 } :: os)} (hv : A2 p = false)
    (hk:Xr P C h0 base Qf (Ao P h ((id,i)::base) (St.opnd t) p) d (.xops id ops (d::ds) (i + 1) os ⟨pf.h.step⟩) k t h) :
    K P C h0 base Qf (.xcall id ops ds i { dst:=d,op:=p,type:=ty,pos:=ps,after:=af,guard:=g0 } os pf::k) .normal t h:=by
  unfold Xr at hk
  split at hk
  · rename_i out hs; exact ⟨_,_,.inl ⟨out,hs,rfl,rfl⟩,hk⟩
  · exact hk.elim
theorem Ab1 (s : Name) {id : Nat} {ops : Array Oper} {ds : List (Option Tmp)} {i : Nat} {d : Option Tmp} {p : Op} {ty : TypeId} {ps : String} {af : Array Edge} {g0 : Option (Nat × Bool)} {os : List Oper} {pf : XPf ops ds i ({ dst := d, op := p, type := ty, pos := ps, after := af, guard := g0 } :: os)} (hv : Ax p = true)
    (hk:Xr P C h0 base Qf (Ao P h s (St.opnd t) p) d (.xops id ops (d::ds) (i + 1) os ⟨pf.h.step⟩) k t h) :
    K P C h0 base Qf (.xcall id ops ds i { dst:=d,op:=p,type:=ty,pos:=ps,after:=af,guard:=g0 } os pf::k) .normal t h:=by
  unfold Xr at hk
  split at hk
  · rename_i out hs; exact ⟨_,_,.inr (.inl ⟨s,out,hv,.inl hs,rfl,rfl⟩),hk⟩
  · exact hk.elim
theorem K6 (s : Name) {id : Nat} {ops : Array Oper} {ds : List (Option Tmp)} {i : Nat} {d : Option Tmp} {p : Op} {ty : TypeId} {ps : String} {af : Array Edge} {g0 : Option (Nat × Bool)} {os : List Oper} {pf : XPf ops ds i ({ dst := d, op := p, type := ty, pos := ps, after := af, guard := g0 } :: os)} (hv : Ax p = true)
    (hk:Xr P C h0 base Qf (Es P h s (St.opnd t) p) d (.xops id ops (d::ds) (i + 1) os ⟨pf.h.step⟩) k t h) :
    K P C h0 base Qf (.xcall id ops ds i { dst:=d,op:=p,type:=ty,pos:=ps,after:=af,guard:=g0 } os pf::k) .normal t h:=by
  unfold Xr at hk
  split at hk
  · rename_i out hs; exact ⟨_,_,.inr (.inl ⟨s,out,hv,.inr hs,rfl,rfl⟩),hk⟩
  · exact hk.elim
variable (P C h0 base Qf) in
def Xdg (g:Option Bool) (d:Option Tmp) (p:Op) (nm:Name) (R:List Keys → It) (Rc:It) (acc:List Keys) (k:List It) (t:List PV) (h:Heap):Prop :=
  match g with
  | none => False
  | some g => if g = true then (if Ax p = true then K P C h0 base Qf (Rc :: k) .normal t h else (match Ao P h nm (St.opnd t) p with
      | some out => K P C h0 base Qf (R ((Et out.ups,J9 nm p ((A8 p).map (St.opnd t)))::acc)::k) .normal (Cx t d out.val) (h.ups out.ups)
      | none => False)) else K P C h0 base Qf (R (([],[])::acc)::k) .normal (Cx t d Cr) h
def mkD (id:Nat) (ops:Array Oper) (ds:List (Option Tmp)) (i:Nat) (os:List Oper) (pf:XPf ops ds i os):List Keys → It:=fun acc => .xdops id ops ds i os pf acc
variable (P C h0 base Qf) in
def Xdo (b:Bool) (d:Option Tmp) (p:Op) (nm:Name) (R:List Keys → It) (Rc:It) (acc:List Keys) (k:List It) (t:List PV) (h:Heap):Prop :=
  if b = true then K P C h0 base Qf (Rc :: k) .normal t h else (match Ao P h nm (St.opnd t) p with
      | some out => K P C h0 base Qf (R ((Et out.ups,J9 nm p ((A8 p).map (St.opnd t)))::acc)::k) .normal (Cx t d out.val) (h.ups out.ups)
      | none => False)
variable (P C h0 base Qf) in
def Xdr (r:Option Out) (d:Option Tmp) (p:Op) (nm:Name) (R:List Keys → It) (acc:List Keys) (k:List It) (t:List PV) (h:Heap):Prop :=
  match r with
  | some out => K P C h0 base Qf (R ((Et out.ups,J9 nm p ((A8 p).map (St.opnd t)))::acc)::k) .normal (Cx t d out.val) (h.ups out.ups)
  | none => False
theorem Aw4 (d:Option Tmp) (p:Op) (nm:Name) (R:List Keys → It) (Rc:It) (acc:List Keys):Xdg P C h0 base Qf (some true) d p nm R Rc acc k t h=Xdo P C h0 base Qf (Ax p) d p nm R Rc acc k t h:=rfl
theorem Ak6 (d:Option Tmp) (p:Op) (nm:Name) (id:Nat) (ops:Array Oper) (ds:List (Option Tmp)) (i:Nat) (os:List Oper) (pf:XPf ops ds i os) (Rc:It) (acc:List Keys):Xdg P C h0 base Qf (some false) d p nm (mkD id ops ds i os pf) Rc acc k t h=K P C h0 base Qf (.xdops id ops ds i os pf (([],[])::acc)::k) .normal (Cx t d Cr) h:=rfl
theorem Aw3 (d:Option Tmp) (p:Op) (nm:Name) (R:List Keys → It) (Rc:It) (acc:List Keys):Xdo P C h0 base Qf true d p nm R Rc acc k t h=K P C h0 base Qf (Rc::k) .normal t h:=rfl
theorem Ak5 (d:Option Tmp) (p:Op) (nm:Name) (R:List Keys → It) (Rc:It) (acc:List Keys):Xdo P C h0 base Qf false d p nm R Rc acc k t h=Xdr P C h0 base Qf (Ao P h nm (St.opnd t) p) d p nm R acc k t h:=rfl
theorem Aw2 (v:PV) (us:List (Name × Box)) (d:Option Tmp) (p:Op) (nm:Name) (id:Nat) (ops:Array Oper) (ds:List (Option Tmp)) (i:Nat) (os:List Oper) (pf:XPf ops ds i os) (acc:List Keys):Xdr P C h0 base Qf (some ⟨v,us⟩) d p nm (mkD id ops ds i os pf) acc k t h =
    K P C h0 base Qf (.xdops id ops ds i os pf ((Et us,J9 nm p ((A8 p).map (St.opnd t)))::acc)::k) .normal (Cx t d v) (h.ups us):=rfl
theorem Bc9 (id:Nat) (ops:Array Oper) (ds:List (Option Tmp)) (i:Nat) (o:Oper) (os:List Oper) (pf:XPf ops ds i (o::os)) (acc:List Keys) :
    K P C h0 base Qf (.xdops id ops ds i (o::os) pf acc::k) .normal t h=Xdg P C h0 base Qf (Jd ops .mk i ds t o.guard) o.dst o.op ((id,i)::base) (mkD id ops (o.dst::ds) (i + 1) os ⟨pf.h.step⟩) (.xdcall id ops ds i o os pf acc) acc k t h:=by
  show K P C h0 base Qf (.dops id ops i (o::os) acc::k) .normal t h=_
  rw [Ax7,Sa pf.h]
  unfold Kdgrd Xdg
  cases Jd ops .mk i ds t o.guard with
  | none => rfl
  | some g =>
    cases g with
    | false => rfl
    | true =>
      simp only [if_true]
      rw [Ax8]
      unfold Kdone
      split
      · rfl
      · unfold Kdres
        cases Ao P h ((id,i)::base) (St.opnd t) o.op with
        | none => rfl
        | some out =>
          simp only
          rw [Eo,I3]
          rfl
theorem X_dops (id:Nat) (ops:Array Oper) (ds:List (Option Tmp)) (i:Nat) (d:Option Tmp) (p:Op) (ty:TypeId) (ps:String) (af:Array Edge) (g:Option (Nat × Bool)) (os:List Oper) (pf:XPf ops ds i ({ dst:=d,op:=p,type:=ty,pos:=ps,after:=af,guard:=g }::os)) (acc:List Keys) :
    K P C h0 base Qf (.xdops id ops ds i ({ dst:=d,op:=p,type:=ty,pos:=ps,after:=af,guard:=g }::os) pf acc::k) .normal t h =
    Xdg P C h0 base Qf (Jd ops .mk i ds t g) d p ((id,i)::base) (mkD id ops (d::ds) (i + 1) os ⟨pf.h.step⟩) (.xdcall id ops ds i { dst:=d,op:=p,type:=ty,pos:=ps,after:=af,guard:=g } os pf acc) acc k t h :=
  Bc9 id ops ds i _ os pf acc
theorem Bb {id : Nat} {ops : Array Oper} {ds : List (Option Tmp)} {i : Nat} {d : Option Tmp} {p : Op} {ty : TypeId} {ps : String} {af : Array Edge} {g0 : Option (Nat × Bool)} {os : List Oper} {pf : XPf ops ds i ({ dst := d, op := p, type := ty, pos := ps, after := af, guard := g0 } :: os)} {acc : List Keys} (hv : A2 p = false)
    (hk:Xdr P C h0 base Qf (Ao P h ((id,i)::base) (St.opnd t) p) d p ((id,i)::base) (mkD id ops (d::ds) (i + 1) os ⟨pf.h.step⟩) acc k t h) :
    K P C h0 base Qf (.xdcall id ops ds i { dst:=d,op:=p,type:=ty,pos:=ps,after:=af,guard:=g0 } os pf acc::k) .normal t h:=by
  unfold Xdr at hk
  split at hk
  · rename_i out hs
    obtain ⟨effs,h1,h2⟩:=hk
    refine ⟨⟨out.val,out.ups,_⟩,effs,.inl ⟨out,hs,rfl⟩,?_,h2⟩
    rw [Eo,I3]
    rw [List.reverse_cons,List.append_assoc] at h1
    exact h1
  · exact hk.elim
theorem Qe (s : Name) {id : Nat} {ops : Array Oper} {ds : List (Option Tmp)} {i : Nat} {d : Option Tmp} {p : Op} {ty : TypeId} {ps : String} {af : Array Edge} {g0 : Option (Nat × Bool)} {os : List Oper} {pf : XPf ops ds i ({ dst := d, op := p, type := ty, pos := ps, after := af, guard := g0 } :: os)} {acc : List Keys} (hv : Ax p = true)
    (hk:Xdr P C h0 base Qf (Ao P h s (St.opnd t) p) d p s (mkD id ops (d::ds) (i + 1) os ⟨pf.h.step⟩) acc k t h) :
    K P C h0 base Qf (.xdcall id ops ds i { dst:=d,op:=p,type:=ty,pos:=ps,after:=af,guard:=g0 } os pf acc::k) .normal t h:=by
  unfold Xdr at hk
  split at hk
  · rename_i out hs
    obtain ⟨effs,h1,h2⟩:=hk
    refine ⟨⟨out.val,out.ups,_⟩,effs,.inr (.inl ⟨s,out,hv,hs,rfl⟩),?_,h2⟩
    rw [Eo,I3]
    rw [List.reverse_cons,List.append_assoc] at h1
    exact h1
  · exact hk.elim
def Av (ops:Array Oper) (_:DepA ops) (acc:List Keys):Prop:=Au ops acc.reverse=true
theorem dxX {ops : Array Oper} {d : DepA ops} {acc : List Keys} (h : Au ops acc.reverse = true) : Av ops d acc := h
theorem X_dnil (id:Nat) (ops:Array Oper) (ds:List (Option Tmp)) (i:Nat) (pf:XPf ops ds i []) (acc:List Keys):K P C h0 base Qf (.xdops id ops ds i [] pf acc::k) .normal t h=(Av ops .mk acc ∧ K P C h0 base Qf k .normal t h):=Ql id ops i acc
theorem Ak9 {id : Nat} {ops : Array Oper} {ds : List (Option Tmp)} {i : Nat} {d : Option Tmp} {p : Op} {ty : TypeId} {ps : String} {af : Array Edge} {g0 : Option (Nat × Bool)} {os : List Oper} {pf : XPf ops ds i ({ dst := d, op := p, type := ty, pos := ps, after := af, guard := g0 } :: os)} {g : FuncId} {as : Array Operand} {ts : Array TypeId} {largs : List PV} {v : PV} (ho : p = .call ⟨.value (.func g), as, ts⟩)
    (hl:Cv (Ch h) (as.toList.map (St.opnd t))=some largs) (hs:CallsP P g largs v) (he:A7 P g=true)
    (hk:K P (CallR P) h0 base Qf (.xops id ops (d::ds) (i + 1) os ⟨pf.h.step⟩::k) .normal (Cx t d v) (h.ups (if Aw v then [] else B7 h ((as.toList.map (St.opnd t)).flatMap Al)))) :
    K P (CallR P) h0 base Qf (.xcall id ops ds i { dst:=d,op:=p,type:=ty,pos:=ps,after:=af,guard:=g0 } os pf::k) .normal t h :=
  Al8 (i:=i) (ops:=ops) (id:=id) (os:=os) (o:={ dst:=d,op:=p,type:=ty,pos:=ps,after:=af,guard:=g0 }) hs ho he hl hk
theorem Bd {id : Nat} {ops : Array Oper} {ds : List (Option Tmp)} {i : Nat} {d : Option Tmp} {p : Op} {ty : TypeId} {ps : String} {af : Array Edge} {g0 : Option (Nat × Bool)} {os : List Oper} {pf : XPf ops ds i ({ dst := d, op := p, type := ty, pos := ps, after := af, guard := g0 } :: os)} {g : FuncId} {as : Array Operand} {ts : Array TypeId} (ho : p = .call ⟨.value (.func g), as, ts⟩) (he : A7 P g = true)
    (hk:∃ largs,Cv (Ch h) (as.toList.map (St.opnd t))=some largs ∧ ∃ v,CallsP P g largs v ∧ K P (CallR P) h0 base Qf (.xops id ops (d::ds) (i + 1) os ⟨pf.h.step⟩::k) .normal (Cx t d v) (h.ups (if Aw v then [] else B7 h ((as.toList.map (St.opnd t)).flatMap Al)))) :
    K P (CallR P) h0 base Qf (.xcall id ops ds i { dst:=d,op:=p,type:=ty,pos:=ps,after:=af,guard:=g0 } os pf::k) .normal t h:=by
  obtain ⟨largs,hl,v,hs,hk⟩:=hk
  exact Ak9 ho hl hs he hk
theorem Yz {id : Nat} {ops : Array Oper} {ds : List (Option Tmp)} {i : Nat} {d : Option Tmp} {p : Op} {ty : TypeId} {ps : String} {af : Array Edge} {g0 : Option (Nat × Bool)} {os : List Oper} {pf : XPf ops ds i ({ dst := d, op := p, type := ty, pos := ps, after := af, guard := g0 } :: os)} {acc : List Keys} {g : FuncId} {as : Array Operand} {ts : Array TypeId} {largs : List PV} {v : PV} (ho : p = .call ⟨.value (.func g), as, ts⟩)
    (hl:Cv (Ch h) (as.toList.map (St.opnd t))=some largs) (hs:CallsP P g largs v) (he:A7 P g=true)
    (hk:K P (CallR P) h0 base Qf (.xdops id ops (d::ds) (i + 1) os ⟨pf.h.step⟩ ((Et (if Aw v then [] else B7 h ((as.toList.map (St.opnd t)).flatMap Al)),Dr ((id,i)::base)::(((as.toList.map (St.opnd t)).flatMap Al).map Dr ++ C2 ((A8 p).map (St.opnd t))))::acc)::k) .normal (Cx t d v)
      (h.ups (if Aw v then [] else B7 h ((as.toList.map (St.opnd t)).flatMap Al)))) :
    K P (CallR P) h0 base Qf (.xdcall id ops ds i { dst:=d,op:=p,type:=ty,pos:=ps,after:=af,guard:=g0 } os pf acc::k) .normal t h :=
  Ze (i:=i) (ops:=ops) (id:=id) (os:=os) (o:={ dst:=d,op:=p,type:=ty,pos:=ps,after:=af,guard:=g0 }) hs ho he hl hk
theorem Bc {id : Nat} {ops : Array Oper} {ds : List (Option Tmp)} {i : Nat} {d : Option Tmp} {p : Op} {ty : TypeId} {ps : String} {af : Array Edge} {g0 : Option (Nat × Bool)} {os : List Oper} {pf : XPf ops ds i ({ dst := d, op := p, type := ty, pos := ps, after := af, guard := g0 } :: os)} {acc : List Keys} {g : FuncId} {as : Array Operand} {ts : Array TypeId} (ho : p = .call ⟨.value (.func g), as, ts⟩) (he : A7 P g = true)
    (hk:∃ largs,Cv (Ch h) (as.toList.map (St.opnd t))=some largs ∧ ∃ v,CallsP P g largs v ∧ K P (CallR P) h0 base Qf (.xdops id ops (d::ds) (i + 1) os ⟨pf.h.step⟩ ((Et (if Aw v then [] else B7 h ((as.toList.map (St.opnd t)).flatMap Al)),Dr ((id,i)::base)::(((as.toList.map (St.opnd t)).flatMap Al).map Dr ++ C2 ((A8 p).map (St.opnd t))))::acc)::k) .normal (Cx t d v)
      (h.ups (if Aw v then [] else B7 h ((as.toList.map (St.opnd t)).flatMap Al)))) :
    K P (CallR P) h0 base Qf (.xdcall id ops ds i { dst:=d,op:=p,type:=ty,pos:=ps,after:=af,guard:=g0 } os pf acc::k) .normal t h:=by
  obtain ⟨largs,hl,v,hs,hk⟩:=hk
  exact Yz ho hl hs he hk
theorem K1 {id : Nat} {ops : Array Oper} {ds : List (Option Tmp)} {i : Nat} {d : Option Tmp} {p : Op} {ty : TypeId} {ps : String} {af : Array Edge} {g0 : Option (Nat × Bool)} {os : List Oper} {pf : XPf ops ds i ({ dst := d, op := p, type := ty, pos := ps, after := af, guard := g0 } :: os)} {g : FuncId} {as : Array Operand} {ts : Array TypeId} {largs : List PV} {vf : Name → PV} {cs : List IV} (hs : CallsA P g largs vf cs) (ho : p = .call ⟨.value (.func g), as, ts⟩) (he : A7 P g = true)
    (hl:Cv (Ch h) (as.toList.map (St.opnd t))=some largs) (hn:h ((id,i)::base)=none)
    (hk:K P (CallR P) h0 base Qf (.xops id ops (d::ds) (i + 1) os ⟨pf.h.step⟩::k) .normal (Cx t d (vf ((id,i)::base))) ((h.ups (B7 h ((as.toList.map (St.opnd t)).flatMap Al))).put ((id,i)::base) (.row false cs))) :
    K P (CallR P) h0 base Qf (.xcall id ops ds i { dst:=d,op:=p,type:=ty,pos:=ps,after:=af,guard:=g0 } os pf::k) .normal t h :=
  Al9 (i:=i) (ops:=ops) (id:=id) (os:=os) (o:={ dst:=d,op:=p,type:=ty,pos:=ps,after:=af,guard:=g0 }) hs ho (G2 g as ts) he hl hn hk
theorem Jp {id : Nat} {ops : Array Oper} {ds : List (Option Tmp)} {i : Nat} {d : Option Tmp} {p : Op} {ty : TypeId} {ps : String} {af : Array Edge} {g0 : Option (Nat × Bool)} {os : List Oper} {pf : XPf ops ds i ({ dst := d, op := p, type := ty, pos := ps, after := af, guard := g0 } :: os)} {acc : List Keys} {g : FuncId} {as : Array Operand} {ts : Array TypeId} {largs : List PV} {vf : Name → PV} {cs : List IV} (hs : CallsA P g largs vf cs) (ho : p = .call ⟨.value (.func g), as, ts⟩) (he : A7 P g = true)
    (hl:Cv (Ch h) (as.toList.map (St.opnd t))=some largs) (hn:h ((id,i)::base)=none)
    (hk:K P (CallR P) h0 base Qf (.xdops id ops (d::ds) (i + 1) os ⟨pf.h.step⟩ ((Et (B7 h ((as.toList.map (St.opnd t)).flatMap Al) ++ [((id,i)::base,Box.row false cs)]),Dr ((id,i)::base)::(((as.toList.map (St.opnd t)).flatMap Al).map Dr ++ C2 ((A8 p).map (St.opnd t))))::acc)::k) .normal (Cx t d (vf ((id,i)::base))) ((h.ups (B7 h ((as.toList.map (St.opnd t)).flatMap Al))).put ((id,i)::base) (.row false cs))) :
    K P (CallR P) h0 base Qf (.xdcall id ops ds i { dst:=d,op:=p,type:=ty,pos:=ps,after:=af,guard:=g0 } os pf acc::k) .normal t h :=
  Ww (i:=i) (ops:=ops) (id:=id) (os:=os) (o:={ dst:=d,op:=p,type:=ty,pos:=ps,after:=af,guard:=g0 }) hs ho (G2 g as ts) he hl hn hk
theorem K0 {id : Nat} {ops : Array Oper} {ds : List (Option Tmp)} {i : Nat} {d : Option Tmp} {p : Op} {ty : TypeId} {ps : String} {af : Array Edge} {g0 : Option (Nat × Bool)} {os : List Oper} {pf : XPf ops ds i ({ dst := d, op := p, type := ty, pos := ps, after := af, guard := g0 } :: os)} {acc : List Keys} {g : FuncId} {as : Array Operand} {ts : Array TypeId} {args largs : List PV} {v : PV} {cs cs' : List IV} (b : Name) (hs : Ls P g largs v cs cs') (ho : p = .call ⟨.value (.func g), as, ts⟩) (he : A7 P g = true)
    (ha:as.toList.map (St.opnd t)=args) (hb:h b=some (.row false cs)) (hm:b ∈ args.flatMap Al) (hl:Cv (Fz h b) args=some largs) (hv:Aw v=true) (hlen:cs'.length=cs.length)
    (hk:K P (CallR P) h0 base Qf (.xdops id ops (d::ds) (i + 1) os ⟨pf.h.step⟩ ((Et (B7 h ((args.flatMap Al).filter (H8 b)) ++ [(b,Box.row false cs')]),Dr ((id,i)::base)::((args.flatMap Al).map Dr ++ C2 ((A8 p).map (St.opnd t))))::acc)::k) .normal (Cx t d v)
      ((h.ups (B7 h ((args.flatMap Al).filter (H8 b)))).put b (.row false cs'))) :
    K P (CallR P) h0 base Qf (.xdcall id ops ds i { dst:=d,op:=p,type:=ty,pos:=ps,after:=af,guard:=g0 } os pf acc::k) .normal t h:=by
  subst ha
  exact Zd (i:=i) (ops:=ops) (id:=id) (os:=os) (o:={ dst:=d,op:=p,type:=ty,pos:=ps,after:=af,guard:=g0 }) b hs ho (G2 g as ts) he hb hm hl hv hlen hk
theorem Ai0 (a b:List (Name × Box)):Et (a ++ b)=Et a ++ Et b:=by unfold Et; exact List.map_append
theorem G4 {id : Nat} {ops : Array Oper} {ds : List (Option Tmp)} {i : Nat} {d : Option Tmp} {p : Op} {ty : TypeId} {ps : String} {af : Array Edge} {g0 : Option (Nat × Bool)} {os : List Oper} {pf : XPf ops ds i ({ dst := d, op := p, type := ty, pos := ps, after := af, guard := g0 } :: os)} {g : FuncId} {as : Array Operand} {ts : Array TypeId} {args : List PV} {v : PV} {h' : Heap} (ho : p = .call ⟨.value (.func g), as, ts⟩) (he : A7 P g = true)
    (ha:as.toList.map (St.opnd t)=args) (hs:CallR P ((id,i)::base) g args h v h')
    (hk:K P (CallR P) h0 base Qf (.xops id ops (d::ds) (i + 1) os ⟨pf.h.step⟩::k) .normal (Cx t d v) h') :
    K P (CallR P) h0 base Qf (.xcall id ops ds i { dst:=d,op:=p,type:=ty,pos:=ps,after:=af,guard:=g0 } os pf::k) .normal t h:=by
  subst ha
  exact K7 (i:=i) (ops:=ops) (id:=id) (os:=os) (o:={ dst:=d,op:=p,type:=ty,pos:=ps,after:=af,guard:=g0 }) hs ho (G2 g as ts) he hk
theorem Fv {id : Nat} {ops : Array Oper} {ds : List (Option Tmp)} {i : Nat} {d : Option Tmp} {p : Op} {ty : TypeId} {ps : String} {af : Array Edge} {g0 : Option (Nat × Bool)} {os : List Oper} {pf : XPf ops ds i ({ dst := d, op := p, type := ty, pos := ps, after := af, guard := g0 } :: os)} {f : Operand} {as : Array Operand} {ts : Array TypeId} (ho : p = .call ⟨.value f, as, ts⟩)
    (hk:∃ g,St.opnd t f=.i (.v (.func (.func g) #[] #[])) ∧ A7 P g=true ∧ ∃ largs,Cv (Ch h) (as.toList.map (St.opnd t))=some largs ∧ ∃ v,CallsP P g largs v ∧ K P (CallR P) h0 base Qf (.xops id ops (d::ds) (i + 1) os ⟨pf.h.step⟩::k) .normal (Cx t d v) (h.ups (if Aw v then [] else B7 h ((as.toList.map (St.opnd t)).flatMap Al)))) :
    K P (CallR P) h0 base Qf (.xcall id ops ds i { dst:=d,op:=p,type:=ty,pos:=ps,after:=af,guard:=g0 } os pf::k) .normal t h:=by
  obtain ⟨g,hv,he,largs,hl,v,hs,hk⟩:=hk
  refine Gj (i:=i) (ops:=ops) (id:=id) (os:=os) (o:={ dst:=d,op:=p,type:=ty,pos:=ps,after:=af,guard:=g0 }) hs ho ?_ he hl hk
  simp only [Db,hv]
  rfl
theorem Ab0 {r:Option Out} {out:Out} {d:Option Tmp} {R:It} (hr:r=some out) (hk:K P C h0 base Qf (R::k) .normal (Cx t d out.val) (h.ups out.ups)):Xr P C h0 base Qf r d R k t h:=by
  subst hr; exact hk
theorem C4 {R : It} {d : Option Tmp} {s b : Name} {ty : TypeId} (e : TypeId) (zs : List Value) {n z : Nat} {cs : List IV} (xs : List IV) {fz : Bool}
    (he:Bw P ty=some e) (hz:B6 P e=some zs) (hzl:zs.length=z) (hz0:0 < z) (hn:cs.length=n * z) (hs:h s=if n=0 then none else some (.row false cs)) (hb:h b=some (.row fz xs)) (hx:xs.length=z)
    (hby:(n + 1) * P.bytesOf e ≤ 140737488355328) (hl:n + 1 ≤ maxLen)
    (hk:K P C h0 base Qf (R::k) .normal (Cx t d (rowP s z (n + 1) (cs ++ xs))) (h.put s (.row false (cs ++ xs)))) :
    Xr P C h0 base Qf (Do P h s ty (rowP s z n cs) (.view b 0 z 1 z)) d R k t h:=by
  refine Ab0 (Lo he hz hzl hz0 hn hs rfl (m:=1) rfl (by decide) (xs:=xs) ?_ hby hl) hk
  simp only [SK.cells,hb,hx,Nat.zero_add,Nat.one_mul,Nat.le_refl,and_self,if_true,List.drop_zero]
  rw [← hx,List.take_length]
inductive DepQ (q:Ex → List PV → Heap → Prop):Type where
  | mk
def LkQ (q:Ex → List PV → Heap → Prop) (_:DepQ q):Ex → List PV → Heap → Prop:=q
theorem LkQ_at (q:Ex → List PV → Heap → Prop) (d:DepQ q) (e:Ex):LkQ q d e t h=q e t h:=rfl
end
section
variable {P:Program} {C:B9} {h0:Heap} {base:Name} {Qf:Ex → List PV → Heap → Prop} {k:List It} {h:Heap}
theorem B5 {b : Code} {d : Dep (.loop b)} {n : Nat} {f : Nat → PV} (L : List Nat) (bs : List Name) (a m : Nat) (Φ : Nat → Prop) (u : Nat → List (Nat × PV)) (hh : Nat → Heap) (h1 : FgT h0 bs L (toL n f) h) (h2 : EqT L (toL n f) (updl f (u a))) (h3 : h.drop bs = hh a) (ha : a ≤ m) (hΦ : Φ a) (hL : ∀ i ∈ L, i < n)
    (hr:∀ j,j ≤ m → Φ j → K P C h0 base (LkQ (Qh P C h0 base Qf k n L bs m Φ (fun j => updl f (u j)) hh j) .mk) [.lk b .mk] .normal (toL n (L3 L (updl f (u j)))) (hh j)):K P C h0 base Qf (.lk (.loop b) d::k) .normal (toL n f) h :=
  Bd5 L bs a m Φ u hh h1 h2 h3 ha hΦ hL hr
def RoundS (h1:Heap) (bs:List Name) (hn:Heap):Ex → List PV → Heap → Prop
  | .normal,t,h => FgT h1 bs [] t h ∧ h.drop bs=hn
  | _,_,_ => False
theorem Q7 {h1:Heap} {bs:List Name} {hn:Heap} {t:List PV}:RoundS h1 bs hn .normal t h=(FgT h1 bs [] t h ∧ h.drop bs=hn):=rfl
theorem Kl {base : Name} {f : FuncId} {fn : Func} {c : Code} {args : List PV} {h : Heap} {v : PV} {h' : Heap} {n m : Nat} {rs : List ResultVar} (hf : P.funcs[f]? = some fn) (hb : fn.body = some c) (hn : fn.ntmps = n) (hrs : fn.results.toList = rs) (hm : args.length = m) (hmn : m ≤ n)
    (hw:K P (CallR P) h base (LkQ (fun e t hh => (e=.normal ∨ e=.ret) ∧ U1 P rs t hh=some v ∧ hh=h') .mk) [.lk c .mk] .normal (toL n (K5 args)) h):CallR P base f args h v h' :=
  CallR.startF hf hb hn hrs hm hmn hw
theorem Bj {f : FuncId} {fn : Func} {c : Code} {args : List PV} {v : PV} {n m : Nat} {rs : List ResultVar} (hf : P.funcs[f]? = some fn) (hb : fn.body = some c) (hn : fn.ntmps = n) (hrs : fn.results.toList = rs) (hm : args.length = m) (hmn : m ≤ n)
    (hw:∀ base,K P (CallR P) Heap.none base (LkQ (fun e t hh => (e=.normal ∨ e=.ret) ∧ (U1 P rs t hh).bind (Fc hh)=some v) .mk) [.lk c .mk] .normal (toL n (K5 args)) Heap.none):CallsP P f args v :=
  CallsP.startF hf hb hn hrs hm hmn hw
end
def frz:Option Box → Name → List (Name × Box)
  | some (.row _ cs),b => [(b,.row true cs)]
  | _,_ => []
theorem Aa0 (fz:Bool) (cs:List IV) (b:Name):frz (some (.row fz cs)) b=[(b,.row true cs)]:=rfl
theorem Mf (h:Heap):B7 h []=[]:=rfl
theorem Me (h:Heap) (b:Name) (bs:List Name):B7 h (b::bs)=frz (h b) b ++ B7 h bs:=by
  unfold B7
  rw [List.filterMap_cons]
  cases h b with
  | none => rfl
  | some x => cases x <;> rfl
theorem Yu (s:Name) (z n:Nat) (cs:List IV):Am (rowP s z n cs)=[rowP s z n cs]:=by unfold rowP; split <;> rfl
theorem Aq0 (s:Name) (z n:Nat) (cs:List IV):A9 (rowP s z n cs)=true:=by unfold rowP; split <;> rfl
def simx :=
  And.intro @X_seq<|And.intro @X_skip<|And.intro @X_exit<|And.intro @X_retc<|And.intro @Ak8<|And.intro @Bd0<|And.intro @Aw0<|And.intro @Ak4<|And.intro @X_cond<|And.intro @Ak7<|And.intro @Bc8<|And.intro @X_nil<|And.intro @Bc7<|And.intro @Aw1<|And.intro @Bc6<|And.intro @Av9<|And.intro @Bc5<|And.intro @X_ops<|And.intro @Aw4<|And.intro @Ak6<|And.intro @Aw3<|And.intro @Ak5<|And.intro @Aw2<|And.intro @X_dops<|And.intro @X_dnil<|And.intro @Yu<|And.intro @Aq0<|And.intro @W9<|And.intro @Xa<|And.intro @Mf<|And.intro @Me<|And.intro @Aa0<|And.intro @V7<|And.intro @V6<|And.intro @V5<|And.intro @Yf<|And.intro @Ai8<|@LkQ_at
end Go.Proofs.Ythnfphgjfpcpbaa.TM
namespace Go.Proofs.Ythnfphgjfpcpbaa.TM
open Go
theorem Ae (lo hi:Option Operand):Am2 lo hi none=false:=rfl
theorem Ak (lo hi:Option Operand) (x:Operand):Am2 lo hi (some x)=(lo.isNone && (isZ hi && isZ (some x))):=rfl
theorem Ba9:SK.len .zip=0:=rfl
theorem Vs (h:Heap):Cl h .zip=some (.i (.l 0 [])):=rfl
theorem Vu (h:Heap):Ch h .zip=Cl h .zip:=rfl
theorem Vr (h:Heap):Fc h .zip=Ch h .zip:=rfl
theorem X9 (b:Name) (ps:List PV):C2 (.mref b::ps)=Dr b::C2 ps:=rfl
theorem Ai1 (ps:List PV):C2 (.zip::ps)=C2 ps:=rfl
def clo1 (f:FuncId):Option PV → Option PV
  | some a => some (.clo f [a])
  | none => none
def clo2 (f:FuncId):Option PV → Option PV → Option PV
  | some a,some b => some (.clo f [a,b])
  | _,_ => none
theorem Aj8 (f:FuncId) (a:PV):clo1 f (some a)=some (.clo f [a]):=rfl
theorem Aj7 (f:FuncId) (a b:PV):clo2 f (some a) (some b)=some (.clo f [a,b]):=rfl
theorem Af3 (h:Heap) (f:FuncId) (p:PV):Fc h (.clo f [p])=clo1 f (F4 h p):=by
  show (Cv (F4 h) [p]).map (PV.clo f)=_
  simp only [Cv]
  cases F4 h p <;> rfl
theorem Af2 (h:Heap) (f:FuncId) (p q:PV):Fc h (.clo f [p,q])=clo2 f (F4 h p) (F4 h q):=by
  show (Cv (F4 h) [p,q]).map (PV.clo f)=_
  simp only [Cv]
  cases F4 h p <;> cases F4 h q <;> rfl
theorem Ag3 (h:Heap) (f:FuncId) (p:PV):Ch h (.clo f [p])=clo1 f (Fr p):=by
  show (Cv Fr [p]).map (PV.clo f)=_
  simp only [Cv]
  cases Fr p <;> rfl
theorem Ag2 (h:Heap) (f:FuncId) (p q:PV):Ch h (.clo f [p,q])=clo2 f (Fr p) (Fr q):=by
  show (Cv Fr [p,q]).map (PV.clo f)=_
  simp only [Cv]
  cases Fr p <;> cases Fr q <;> rfl
def Ar6:Option Box → Option PV
  | some (.var [.i x]) => some (.iref [x] 0)
  | _ => none
theorem Ar5 (h:Heap) (b:Name):F4 h (.ref b 0 1)=Ar6 (h b):=by
  unfold F4
  simp only
  generalize h b=o
  split
  · rfl
  · rename_i hn
    unfold Ar6
    split
    · exact absurd rfl (hn _)
    · rfl
theorem Af4 (x:IV):Ar6 (some (.var [.i x]))=some (.iref [x] 0):=rfl
theorem Af5 (cs:List IV) (o:Nat):Fr (.iref cs o)=some (.iref cs o):=rfl
theorem lowD_v (x:Value):Fr (.i (.v x))=some (.i (.v x)):=rfl
theorem Ad1 (f:FuncId) (cs:List PV):Aw (.clo f cs)=false:=rfl
theorem Ad2 (f:FuncId) (cs:List PV):A1 (.clo f cs)=false:=rfl
theorem Yv (f:FuncId) (cs:List PV):Al (.clo f cs)=[]:=rfl
def zzK:=And.intro @Ai0<|And.intro @Aj8<|And.intro @Aj7<|And.intro @Af3<|And.intro @Af2<|And.intro @Ag3<|And.intro @Ag2<|And.intro @Ar5<|And.intro @Af4<|And.intro @Af5<|And.intro @lowD_v<|And.intro @Ad1<|And.intro @Ad2<|@Yv
def zzB0 :=
  And.intro @sims<|And.intro @sim5<|And.intro @sim6<|And.intro @List.filterMap_cons.{0,0}<|And.intro @imp_self<|And.intro @false_imp_iff<|And.intro @true_imp_iff<|And.intro @Sn<|And.intro @I0<|And.intro @List.flatten_cons.{0}<|And.intro @List.flatten_nil.{0}<|And.intro @List.replicate_succ.{0}<|And.intro @List.replicate_zero.{0}<|And.intro @Nat.le_refl<|And.intro @Bh<|And.intro @Y9<|And.intro @Ra<|And.intro @Wt<|And.intro @Y4<|And.intro @E5.eq_1<|And.intro @just.eq_1<|And.intro @sim7<|And.intro @Lf.eq_1<|And.intro @Cx.eq_1<|And.intro @Cx.eq_2<|And.intro @Cr.eq_1<|And.intro @SK.len.eq_1<|And.intro @SK.len.eq_2<|And.intro @SK.len.eq_3<|@SK.pv.eq_1
def zzB1 :=
  And.intro @SK.pv.eq_2<|And.intro @SK.pv.eq_3<|And.intro @Ht.eq_1<|And.intro @Hu.eq_1<|And.intro @Vc.eq_1<|And.intro @Pn.eq_1<|And.intro @I4.eq_1<|And.intro @Ok.eq_1<|And.intro @Eg.eq_1<|And.intro @Jr.eq_1<|And.intro @Jr.eq_2<|And.intro @Places.get.eq_1<|And.intro @Places.get.eq_2<|And.intro @Ec.eq_1<|And.intro @Heap.none_at<|And.intro @Heap.put_at<|And.intro @List.cons.injEq.{0}<|And.intro @Prod.mk.injEq.{0,0}<|And.intro @Nat.succ_ne_zero<|And.intro @and_false<|And.intro @false_and<|And.intro @Bool.false_and<|And.intro @Bool.and_false<|And.intro @Bool.or_true<|And.intro @Bool.true_or<|And.intro @Bool.false_or<|And.intro @Bool.or_false<|And.intro @Bool.not_true<|And.intro @Bool.not_false<|@To
def zzB2 :=
  And.intro @Tp<|And.intro @R8<|And.intro @An9<|And.intro @Ad0<|And.intro @Cf.eq_1<|And.intro @Id.eq_1<|And.intro @Id.eq_2<|And.intro @H7.eq_1<|And.intro @H7.eq_2<|And.intro @Oj.eq_1<|And.intro @List.replicate.eq_1.{0}<|And.intro @List.replicate.eq_2.{0}<|And.intro @Mf<|And.intro @Me<|@Aa0
def zzB:=And.intro zzK<|And.intro @Q7<|And.intro @Ba9<|And.intro @X9<|And.intro @Ai1<|And.intro zzB0<|And.intro zzB1<|zzB2
def zzL :=
  And.intro zzK<|And.intro @Vs<|And.intro @Vu<|And.intro @Vr<|And.intro @simr<|And.intro @Heap.put_at<|And.intro @Heap.none_at<|And.intro @Bh<|And.intro @List.cons.injEq.{0}<|And.intro @Prod.mk.injEq.{0,0}<|And.intro @Nat.succ_ne_zero<|And.intro @and_false<|And.intro @false_and<|And.intro @and_true<|And.intro @and_self<|And.intro @Nat.zero_add<|And.intro @Nat.mul_one<|And.intro @List.length_cons.{0}<|And.intro @List.length_nil.{0}<|And.intro @Nat.le_refl<|And.intro @List.drop_zero.{0}<|And.intro @List.take_succ_cons.{0}<|And.intro @List.take_zero.{0}<|And.intro @Option.map_some.{0,0}<|And.intro @List.map_cons.{0,0}<|@List.map_nil.{0,0}
def zzR :=
  And.intro zzK<|And.intro @Vs<|And.intro @Vu<|And.intro @Vr<|And.intro @simr<|And.intro @or_true<|And.intro @true_or<|And.intro @false_or<|@or_false
end Go.Proofs.Ythnfphgjfpcpbaa.TM
namespace Go.Proofs.Ythnfphgjfpcpbaa.TM
open Go
section
variable {P:Program} {C:B9} {h0:Heap} {base:Name}
def EqF:List Nat → (Nat → PV) → (Nat → PV) → Prop
  | [],_,_ => True
  | i::L,g,f => g i=f i ∧ EqF L g f
theorem Bd8 (g f:Nat → PV):EqF [] g f=True:=rfl
theorem Ay1 (i:Nat) (L:List Nat) (g f:Nat → PV):EqF (i::L) g f=(g i=f i ∧ EqF L g f):=rfl
def Zy:List Nat → (Nat → PV) → List (Nat × PV)
  | [],_ => []
  | i::L,f => (i,f i)::Zy L f
theorem Ae5 (f:Nat → PV):Zy [] f=[]:=rfl
theorem Xu (i:Nat) (L:List Nat) (f:Nat → PV):Zy (i::L) f=(i,f i)::Zy L f:=rfl
variable (P C h0 base) in
def CutQ (Qf:Ex → List PV → Heap → Prop) (k:List It) (n:Nat) (L:List Nat) (f:Nat → PV) (h:Heap):Ex → List PV → Heap → Prop
  | .normal,t',h' => ∃ g,t'=toL n g ∧ EqF L g f ∧ h'=h
  | e,t',h' => K P C h0 base Qf k e t' h'
variable {Qf:Ex → List PV → Heap → Prop} {k:List It} {n:Nat} {L:List Nat} {f:Nat → PV} {h:Heap}
theorem Am0 (id:Nat) (t':List PV) (h':Heap):CutQ P C h0 base Qf k n L f h (.exit id) t' h'=K P C h0 base Qf k (.exit id) t' h':=rfl
theorem Ay2 (t':List PV) (h':Heap):CutQ P C h0 base Qf k n L f h .ret t' h'=K P C h0 base Qf k .ret t' h':=rfl
end
def zzC :=
  And.intro @Bd8<|And.intro @Ay1<|And.intro @Ae5<|And.intro @Xu<|And.intro @Am0<|@Ay2
end Go.Proofs.Ythnfphgjfpcpbaa.TM
