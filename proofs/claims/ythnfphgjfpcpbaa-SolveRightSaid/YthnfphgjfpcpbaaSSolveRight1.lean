/- What is proved of functions, and plain facts, part 1. Conditions: none. -/
import Derived.Orders
import Derived.Laws.AppendOwn
import Derived.Laws.MakeOwn
import Derived.Below
import Derived.DataElems
import Derived.Laws.BytesString
import Derived.Laws.Small
import Derived.Great.BuildSlice
set_option linter.defProp false
set_option linter.unusedSectionVars false
set_option linter.unusedSimpArgs false
set_option linter.unusedVariables false
namespace Go.Proofs.Ythnfphgjfpcpbaa.TM
open Go
abbrev Name:=List (Nat × Nat)
inductive IV where
  | v (x:Value)
  | l (n:Nat) (cs:List IV)
  deriving Inhabited
inductive PV where
  | i (x:IV)
  | view (b:Name) (off z n top:Nat)
  | ref (b:Name) (off top:Nat)
  | iref (cs:List IV) (off:Nat)
  | agg (cs:List PV)
  | tup (cs:List PV)
  | clo (f:FuncId) (caps:List PV)
  | mref (b:Name)
  | zip
  | dead
  deriving Inhabited
inductive Box where
  | row (fz:Bool) (cs:List IV)
  | var (cs:List PV)
  | map (k:IntKind) (es:List (Int × Value))
  deriving Inhabited
def Box.len:Box → Nat
  | .row _ cs => cs.length
  | .var cs => cs.length
  | .map _ _ => 0
def Box.open:Box → Bool
  | .row fz _ => !fz
  | .var _ => true
  | .map _ _ => true
def Box.isMap:Box → Bool
  | .map _ _ => true
  | _ => false
abbrev Heap:=Name → Option Box
def Heap.none:Heap:=fun _ => Option.none
def Heap.put (h:Heap) (b:Name) (x:Box):Heap:=fun c => if c=b then some x else h c
structure St where
  t:List PV
  h:Heap
def Az:Value → PV
  | .agg cs => .agg (cs.toList.map fun c => .i (.v c))
  | v => .i (.v v)
def Cr:PV:=.tup []
def St.opnd (t:List PV):Operand → PV
  | .tmp k => t.getD k Cr
  | .const v => Az v
  | .global _ => .dead
  | .func f => .i (.v (.func (.func f) #[] #[]))
def Cx (t:List PV) (dst:Option Tmp) (v:PV):List PV :=
  match dst with
  | some d => t.set d v
  | none => t
structure Out where
  val:PV
  ups:List (Name × Box)
def B2 (P:Program) (t:TypeId):Nat:=P.cellsOf t
def Bq (P:Program) (t:TypeId):Bool :=
  match P.underlying t with
  | some (.struct _)|some (.array _ _) => true
  | _ => false
def Br (P:Program) (t:TypeId):Bool :=
  match P.underlying t with
  | some (.array _ _) => true
  | _ => false
def Bw (P:Program) (t:TypeId):Option TypeId :=
  match P.underlying t with
  | some (.slice e) => some e
  | _ => none
inductive TK where
  | sl (e:TypeId)
  | arr (n:Nat) (e:TypeId)
  | str
  | int (k:IntKind)
  | bool
  | other
def tkB (P:Program) (t:TypeId):Option TK :=
  match P.underlying t with
  | some (.slice e) => some (.sl e)
  | some (.array n e) => some (.arr n e)
  | some .string => some .str
  | some (.int k) => some (.int k)
  | some .bool => some .bool
  | some _ => some .other
  | none => none
def Bz (P:Program) (s:TypeId) (f:Nat):Option (TypeId × Nat) :=
  match P.underlying s with
  | some (.struct fs) => match fs[f]? with
    | some q => if ((P.info? q.type).any fun i => 0 < i.size) && (P.underlying q.type).isSome then some (q.type,q.offset) else none
    | none => none
  | _ => none
def B1 (P:Program) (t:TypeId):Bool:=(P.info? t).isSome
def Cb (P:Program) (t:TypeId):Bool:=(P.underlying t).isSome
def B6 (P:Program) (t:TypeId):Option (List Value) :=
  match P.info? t with
  | some i => match i.zero with
    | some z => if z.cells.size=i.size then some z.cells.toList else none
    | none => none
  | none => none
def As (op:BinOp) (k:IntKind) (a b:Int):Option Value :=
  match op with
  | .add => some (.int k (k.wrap (a + b)))
  | .sub => some (.int k (k.wrap (a - b)))
  | .mul => some (.int k (k.wrap (a * b)))
  | .quo => if b=0 then none else some (.int k (k.wrap (a.tdiv b)))
  | .rem => if b=0 then none else some (.int k (a.tmod b))
  | .and => some (.int k (Go.bits .and k a b))
  | .or => some (.int k (Go.bits .or k a b))
  | .xor => some (.int k (Go.bits .xor k a b))
  | .andNot => some (.int k (Go.bits .andNot k a b))
  | .eql => some (.bool (a == b))
  | .neq => some (.bool (a != b))
  | .lss => some (.bool (a < b))
  | .leq => some (.bool (a ≤ b))
  | .gtr => some (.bool (a > b))
  | .geq => some (.bool (a ≥ b))
  | _ => none
def Ai (P:Program) (op:BinOp) (t:TypeId) (x y:Value):Option Value :=
  match x,y with
  | .int k a,.int k' b =>
    match op with
    | .shl => if b < 0 then none else some (.int k (k.wrap (a * 2 ^ (min b.toNat k.bits))))
    | .shr => if b < 0 then none else some (.int k (a.fdiv (2 ^ (min b.toNat k.bits))))
    | op => if k=k' then As op k a b else none
  | .bool a,.bool b =>
    match tkB P t,op with
    | some .bool,.eql => some (.bool (a == b))
    | some .bool,.neq => some (.bool (!(a == b)))
    | _,_ => none
  | .string a,.string b =>
    match op with
    | .eql => some (.bool (a.toList == b.toList))
    | .neq => some (.bool (!(a.toList == b.toList)))
    | _ => none
  | _,_ => none
def Ar (op:UnOp) (x:Value):Option Value :=
  match op,x with
  | .not,.bool b => some (.bool !b)
  | .neg,.int k n => some (.int k (k.wrap (0 - n)))
  | .xor,.int k n => some (.int k (Go.bits .xor k (if k.signed then -1 else k.max) n))
  | _,_ => none
inductive SK where
  | nil
  | zip
  | imm (n:Nat) (cs:List IV)
  | own (b:Name) (off z n top:Nat)
def PV.sk:PV → Option SK
  | .i (.v (.slice none 0 0)) => some .nil
  | .i (.l n cs) => some (.imm n cs)
  | .view b off z n top => some (.own b off z n top)
  | .zip => some .zip
  | _ => none
def SK.len:SK → Nat
  | .nil => 0
  | .zip => 0
  | .imm n _ => n
  | .own _ _ _ n _ => n
def SK.pv:SK → PV
  | .nil => .i (.v (.slice none 0 0))
  | .zip => .zip
  | .imm n cs => .i (.l n cs)
  | .own b off z n top => .view b off z n top
def SK.cells (h:Heap) (z:Nat):SK → Option (List IV)
  | .nil => some []
  | .zip => some []
  | .imm n cs => if cs.length=n * z then some cs else none
  | .own b off z' n top => match h b with
    | some (.row _ cs) => if cs.length=top ∧ z'=z ∧ off + n * z ≤ cs.length then some ((cs.drop off).take (n * z)) else none
    | _ => none
def Ba (h:Heap):PV → Option (IV × List (Name × Box))
  | .i x => some (x,[])
  | .zip => some (.l 0 [],[])
  | .view b off z n top => match h b with
    | some (.row _ cs) => if cs.length=top ∧ off + n * z ≤ cs.length then some (.l n ((cs.drop off).take (n * z)),[(b,.row true cs)]) else none
    | _ => none
  | _ => none
def Id (h:Heap):List PV → Option (List IV × List (Name × Box))
  | [] => some ([],[])
  | p::ps => match Ba h p,Id h ps with
    | some (x,u),some (xs,us) => some (x::xs,u ++ us)
    | _,_ => none
def A9:PV → Bool
  | .i (.v x) => x.oneCell'
  | .i (.l _ _) => true
  | .view .. => true
  | .ref .. => true
  | .clo .. => true
  | .mref .. => true
  | .zip => true
  | _ => false
def Am:PV → List PV
  | .agg cs => cs
  | p => [p]
def Cf {α:Type} (cs:List α) (off:Nat) (vs:List α):List α:=cs.take off ++ vs ++ cs.drop (off + vs.length)
def Ay:PV → Option Nat
  | .i (.v (.int _ n)) => if 0 ≤ n then some n.toNat else none
  | _ => none
def Ap (P:Program) (h:Heap) (t:TypeId) (x:PV):Option PV :=
  match x with
  | .ref b off top => match h b with
    | some (.var cs) => if cs.length=top then (if Bq P t then (if off + B2 P t ≤ top then some (.agg ((cs.drop off).take (B2 P t))) else none) else cs[off]?) else none
    | some (.row _ cs) => if cs.length=top then (if Bq P t then (if off + B2 P t ≤ top then some (.agg (((cs.drop off).take (B2 P t)).map .i)) else none) else (cs[off]?).map .i) else none
    | _ => none
  | .iref cs off => if Bq P t then (if off + B2 P t ≤ cs.length then some (.agg (((cs.drop off).take (B2 P t)).map .i)) else none) else (cs[off]?).map .i
  | _ => none
def Ah (P:Program) (h:Heap) (t:TypeId) (x v:PV):Option (List (Name × Box)) :=
  match x with
  | .ref b off top => match h b with
    | some (.var cs) =>
      if cs.length=top ∧ (Am v).length=B2 P t ∧ off + (Am v).length ≤ top ∧ (Am v).all A9 then some [(b,.var (Cf cs off (Am v)))] else none
    | some (.row false cs) => match Id h (Am v) with
      | some (vs,us) => if cs.length=top ∧ vs.length=B2 P t ∧ off + vs.length ≤ top ∧ (Am v).all A9 ∧ (us.all fun u => u.1 ≠ b) then some (us ++ [(b,.row false (Cf cs off vs))]) else none
      | none => none
    | _ => none
  | _ => none
def Ec (h:Heap) (s:Name) (x:Box) (v:PV) (us:List (Name × Box)):Option Out :=
  match h s with
  | none => some ⟨v,us ++ [(s,x)]⟩
  | some _ => none
def Pn (P:Program) (h:Heap) (s:Name) (t:TypeId) (v:PV):Option Out :=
  if (Am v).all A9 then
    if Br P t then match Id h (Am v) with
      | some (vs,us) => Ec h s (.row false vs) (.ref s 0 vs.length) us
      | none => none
    else Ec h s (.var (Am v)) (.ref s 0 (Am v).length) []
  else none
def I4 (P:Program) (h:Heap) (s:Name) (t:TypeId):Option Out :=
  match B6 P t with
  | some zs => if zs.all Value.oneCell' then
      (if Br P t then Ec h s (.row false (zs.map .v)) (.ref s 0 zs.length) [] else Ec h s (.var (zs.map fun x => .i (.v x))) (.ref s 0 zs.length) [])
    else none
  | none => none
def Jr (place:Nat → Option (Nat × Nat)):List (Nat × PV) → List PV → Option (List PV)
  | [],cs => some cs
  | (i,v)::rest,cs => match place i with
    | some (off,size) => if (Am v).length=size ∧ off + size ≤ cs.length ∧ (Am v).all A9 then Jr place rest (Cf cs off (Am v)) else none
    | none => none
inductive Places where
  | st (l:List (Nat × Nat))
  | ar (size:Nat)
def Places.get:Places → Nat → Option (Nat × Nat)
  | .st l,i => l[i]?
  | .ar z,i => some (i * z,z)
def Ck (P:Program) (t:TypeId):Option Places :=
  match P.underlying t with
  | some (.struct fs) => if fs.toList.all fun f => (P.info? f.type).isSome then some (.st (fs.toList.map fun f => (f.offset,B2 P f.type))) else none
  | some (.array _ e) => if (P.info? e).isSome then some (.ar (B2 P e)) else none
  | _ => none
def Ok (P:Program) (t:TypeId) (parts:List (Nat × PV)):Option PV :=
  match B6 P t,Ck P t with
  | some zs,some pl => if zs.all Value.oneCell' then (Jr pl.get parts (zs.map fun x => .i (.v x))).map .agg else none
  | _,_ => none
def Cc (zs:List Value) (n:Nat):List Value:=(List.replicate n zs).flatten
def Eg (P:Program) (h:Heap) (s:Name) (t:TypeId) (len:Nat) (parts:List (Nat × PV)):Option Out :=
  match Bw P t with
  | some e => match B6 P e with
    | some zs => if zs.all Value.oneCell' ∧ len * zs.length ≤ 16777216 ∧ 0 < zs.length then
        match Jr (fun i => some (i * zs.length,zs.length)) parts ((Cc zs len).map fun x => .i (.v x)) with
        | some cs => match Id h cs with
          | some (vs,us) => if vs.length=len * zs.length then Ec h s (.row false vs) (.view s 0 zs.length len vs.length) us else none
          | none => none
        | none => none
      else none
    | none => none
  | none => none
def Lf (P:Program) (h:Heap) (s:Name) (t:TypeId) (len cap:PV):Option Out :=
  match Bw P t,Ay len,Ay cap with
  | some e,some l,some c => match B6 P e with
    | some zs => if zs.all Value.oneCell' ∧ l ≤ c ∧ c * P.bytesOf e ≤ 140737488355328 ∧ c ≤ 140737488355328 ∧ 0 < zs.length then Ec h s (.row false ((Cc zs l).map .v)) (.view s 0 zs.length l (l * zs.length)) [] else none
    | none => none
  | _,_,_ => none
def H7:Option PV → Nat → Option Nat
  | none,d => some d
  | some v,_ => Ay v
def Oj (P:Program) (t:TypeId) (x:PV) (lo hi mx:Option PV):Option PV :=
  match tkB P t with
  | some (.sl e) => match x.sk with
    | some k => match H7 lo 0,H7 hi k.len,H7 mx k.len with
      | some l,some g,some m => if l ≤ g ∧ g ≤ m ∧ m ≤ k.len ∧ (mx.isSome → hi.isSome) ∧ B1 P e then
          match k with
          | .nil => some k.pv
          | .zip => some k.pv
          | .imm n cs => if cs.length=n * B2 P e then some (.i (.l (g - l) ((cs.drop (l * B2 P e)).take ((g - l) * B2 P e)))) else none
          | .own b off z n top => if z=B2 P e ∧ mx.isNone then some (.view b (off + l * z) z (g - l) top) else none
        else none
      | _,_,_ => none
    | none => none
  | _ => none
def Hu (P:Program) (s:TypeId) (x:PV) (f:Nat):Option PV :=
  match Bz P s f with
  | some (_,o) => match x with
    | .ref b off top => some (.ref b (off + o) top)
    | .iref cs off => some (.iref cs (off + o))
    | _ => none
  | none => none
def Ht (P:Program) (t:TypeId) (x ix:PV):Option PV :=
  match tkB P t,Ay ix with
  | some (.sl e),some i => match x.sk with
    | some (.imm n cs) => if i < n ∧ B1 P e then some (.iref cs (i * B2 P e)) else none
    | some (.own b off z n top) => if i < n ∧ z=B2 P e ∧ B1 P e then some (.ref b (off + i * z) top) else none
    | _ => none
  | some (.arr n e),some i => if i < n ∧ B1 P e then
      match x with
      | .ref b off top => some (.ref b (off + i * B2 P e) top)
      | .iref cs off => some (.iref cs (off + i * B2 P e))
      | _ => none
    else none
  | _,_ => none
def Vc (P:Program) (t:TypeId) (cs:List PV) (off:Nat):Option PV :=
  if Bq P t then (if off + B2 P t ≤ cs.length then some (.agg ((cs.drop off).take (B2 P t))) else none) else cs[off]?
def Aj (P:Program) (s:TypeId) (x:PV) (f:Nat):Option PV :=
  match Bz P s f,x with
  | some (t,o),.agg cs => Vc P t cs o
  | _,_ => none
def L4 (P:Program) (t:TypeId) (x ix:PV):Option PV :=
  match tkB P t,x,Ay ix with
  | some (.arr n e),.agg cs,some i => if i < n ∧ Cb P e then Vc P e cs (i * B2 P e) else none
  | some .str,.i (.v (.string s)),some i => if hi:i < s.size then some (.i (.v (.int .u8 s[i].toNat))) else none
  | _,_,_ => none
def G3:List IV → Option (List UInt8)
  | [] => some []
  | .v (.int .u8 n)::cs => (G3 cs).map fun l => UInt8.ofNat n.toNat::l
  | _ => none
def L5 (P:Program) (h:Heap) (e:TypeId) (x:PV):Option PV :=
  match tkB P e,x.sk with
  | some (.int .u8),some k => match k.cells h 1 with
    | some cs => (G3 cs).map fun l => .i (.v (.string ⟨l.toArray⟩))
    | none => none
  | _,_ => none
def Ab (P:Program) (h:Heap) (src dst:TypeId) (x:PV):Option PV :=
  match tkB P src,tkB P dst,x with
  | some _,some (.int k),.i (.v (.int _ n)) => some (.i (.v (.int k (k.wrap n))))
  | some .str,some .str,.i (.v (.string s)) => some x
  | some (.sl e),some .str,x => L5 P h e x
  | _,_,_ => none
def Do (P:Program) (h:Heap) (s:Name) (t:TypeId) (x y:PV):Option Out :=
  match Bw P t with
  | some e => match B6 P e with
    | some zs => match x.sk,y.sk with
      | some k,some k2 => match k2.cells h zs.length with
        | some xs => if 0 < zs.length ∧ (k.len + k2.len) * P.bytesOf e ≤ 140737488355328 ∧ k.len + k2.len ≤ maxLen then
            if k2.len=0 then (match k with|.nil => some ⟨x,[]⟩|.zip => some ⟨x,[]⟩|.own .. => some ⟨x,[]⟩|.imm .. => none) else
            match k with
            | .nil => Ec h s (.row false xs) (.view s 0 zs.length k2.len xs.length) []
            | .zip => Ec h s (.row false xs) (.view s 0 zs.length k2.len xs.length) []
            | .own b off z n top => match h b with
              | some (.row false cs) => if cs.length=top ∧ off=0 ∧ z=zs.length ∧ cs.length=n * z then
                  some ⟨.view b 0 z (n + k2.len) (cs ++ xs).length,[(b,.row false (cs ++ xs))]⟩ else
                if cs.length=top ∧ z=zs.length ∧ off + (n + k2.len) * z ≤ cs.length then
                  some ⟨.view b off z (n + k2.len) top,[(b,.row false (Cf cs (off + n * z) xs))]⟩ else none
              | _ => none
            | .imm .. => none
          else none
        | none => none
      | _,_ => none
    | none => none
  | none => none
def M2 (P:Program) (h:Heap) (t:TypeId) (x y:PV):Option Out :=
  match Bw P t with
  | some e => match x.sk,y.sk with
    | some (.own b off z n top),some k2 => match k2.cells h z,h b with
      | some xs,some (.row false cs) => if z=B2 P e ∧ 0 < z ∧ B1 P e ∧ cs.length=top ∧ off + n * z ≤ cs.length then
          some ⟨.i (.v (.int .i64 (min k2.len n:Nat))),[(b,.row false (Cf cs off (xs.take (min k2.len n * z))))]⟩ else none
      | _,_ => none
    | _,_ => none
  | none => none
def A5 (P:Program) (t:TypeId) (x:PV):Option PV :=
  match tkB P t with
  | some (.sl _) => (x.sk).map fun k => .i (.v (.int .i64 k.len))
  | some (.arr n _) => some (.i (.v (.int .i64 n)))
  | some .str => match x with
    | .i (.v (.string s)) => some (.i (.v (.int .i64 s.size)))
    | _ => none
  | _ => none
def Ad (P:Program) (h:Heap) (s:Name) (t t':TypeId) (x y:PV):Option Out :=
  match tkB P t',Bw P t,y with
  | some (.int .i64),some e,.i (.v (.int .i64 n)) => match x,B6 P e with
    | .i (.v (.slice none 0 0)),some zs => if zs.all Value.oneCell' ∧ 0 < n ∧ n.toNat * P.bytesOf e ≤ 140737488355328 ∧ n ≤ 140737488355328 ∧ 0 < zs.length then Ec h s (.row false ((Cc zs n.toNat).map .v)) (.view s 0 zs.length n.toNat (n.toNat * zs.length)) [] else none
    | _,_ => none
  | _,_,_ => none
def Ac (P:Program) (h:Heap) (s:Name) (b:Builtin) (ts:List TypeId) (xs:List PV):Option Out :=
  match b,ts,xs with
  | .append,[t,t'],[x,y] => if (Bw P t').isSome then Do P h s t x y else Ad P h s t t' x y
  | .copy,[t,_],[x,y] => M2 P h t x y
  | .len,[t],[x] => (A5 P t x).map fun v => ⟨v,[]⟩
  | .cap,[t],[.i (.v (.slice none 0 0))] => if (Bw P t).isSome then some ⟨.i (.v (.int .i64 0)),[]⟩ else none
  | .min,_,[.i (.v (.int k a)),.i (.v (.int k' b))] => some ⟨.i (.v (.int k (if b < a then b else a))),[]⟩
  | .max,_,[.i (.v (.int k a)),.i (.v (.int k' b))] => some ⟨.i (.v (.int k (if b > a then b else a))),[]⟩
  | _,_,_ => none
def Mo (P:Program) (t:TypeId):Option Value :=
  match P.info? t with
  | some i => match i.zero with
    | some z => if z.oneCell' then some z else none
    | none => none
  | none => none
def Vo (P:Program) (t:TypeId):Option (IntKind × TypeId) :=
  match P.underlying t with
  | some (.map k e) => match P.underlying k with
    | some (.int kd) => some (kd,e)
    | _ => none
  | _ => none
def At2 (n:Int):List (Int × Value) → Option Value
  | [] => none
  | q::es => if n=q.1 then some q.2 else At2 n es
def Tb (n:Int) (v:Value):List (Int × Value) → List (Int × Value)
  | [] => [(n,v)]
  | q::es => if n=q.1 then (n,v)::es else q::Tb n v es
def Aa (P:Program) (h:Heap) (s:Name) (t:TypeId):Option Out :=
  match Vo P t with
  | some (k,_) => Ec h s (.map k []) (.mref s) []
  | none => none
def A0 (h:Heap):PV → Option (IntKind × List (Int × Value))
  | .mref b => match h b with
    | some (.map k es) => some (k,es)
    | _ => none
  | _ => none
def Ag (P:Program) (h:Heap) (t:TypeId) (x ix:PV):Option PV :=
  match Vo P t,A0 h x,ix with
  | some (k,e),some (k',es),.i (.v (.int k'' n)) => match Mo P e with
    | some z => if k=k' ∧ k=k'' then some (.i (.v ((At2 n es).getD z))) else none
    | none => none
  | _,_,_ => none
def Af (P:Program) (h:Heap) (t:TypeId) (x ix v:PV):Option (List (Name × Box)) :=
  match x,Vo P t,A0 h x,ix,v with
  | .mref b,some (k,_),some (k',es),.i (.v (.int k'' n)),.i (.v u) => if k=k' ∧ k=k'' then some [(b,.map k (Tb n u es))] else none
  | _,_,_,_,_ => none
def isZ:Option Operand → Bool
  | some (.const (.int _ n)) => n == 0
  | _ => false
def Am2 (lo hi mx:Option Operand):Bool:=mx.isSome && (lo.isNone && (isZ hi && isZ mx))
def A3:Option PV → Bool
  | some (.i (.v (.int _ n))) => n == 0
  | _ => false
def A6 (P:Program) (t:TypeId) (x:PV) (hi mx:Option PV):Option PV :=
  match tkB P t with
  | some (.sl e) => if (B1 P e && (A3 hi && A3 mx))=true then (x.sk).map fun _ => .zip else none
  | _ => none
def At (P:Program) (op:BinOp) (t:TypeId) (n:Nat) (y:Value):Option PV :=
  match y with
  | .slice none _ _ => if 0 < n then match tkB P t with
      | some (.sl _) => match op with
        | .eql => some (.i (.v (.bool false)))
        | .neq => some (.i (.v (.bool true)))
        | _ => none
      | _ => none
    else none
  | _ => none
def just (v:Option PV):Option Out:=v.map fun v => ⟨v,[]⟩
def Ao (P:Program) (h:Heap) (s:Name) (ρ:Operand → PV) (op:Op):Option Out :=
  match op with
  | .move x => just (some (ρ x))
  | .assign x => just (some (ρ x))
  | .pick c a b => match ρ c with
    | .i (.v (.bool t)) => just (some (if t then ρ a else ρ b))
    | _ => none
  | .alloc t => I4 P h s t
  | .box t x => Pn P h s t (ρ x)
  | .build t ps => just (Ok P t (ps.toList.map fun p => (p.1,ρ p.2)))
  | .buildSlice t n ps => Eg P h s t n (ps.toList.map fun p => (p.1,ρ p.2))
  | .load t a => if Cb P t then just (Ap P h t (ρ a)) else none
  | .store t a x => if B1 P t then (Ah P h t (ρ a) (ρ x)).map fun us => ⟨Cr,us⟩ else none
  | .nilCheck x => match ρ x with
    | .ref b o p => just (some (.ref b o p))
    | .iref cs o => just (some (.iref cs o))
    | .clo f cs => just (some (.clo f cs))
    | .i (.v (.func (.func f) a c)) => just (some (.i (.v (.func (.func f) a c))))
    | _ => none
  | .binOp op t x y _ => match ρ x,ρ y with
    | .i (.v a),.i (.v b) => just ((Ai P op t a b).map fun v => .i (.v v))
    | .i (.l n _),.i (.v b) => just (At P op t n b)
    | _,_ => none
  | .unOp op _ x => match ρ x with
    | .i (.v a) => just ((Ar op a).map fun v => .i (.v v))
    | _ => none
  | .convert a b x => just (Ab P h a b (ρ x))
  | .makeFunc (.func f) first caps => if first.size=0 then (if caps.size=0 then just (some (.i (.v (.func (.func f) #[] #[])))) else just (some (.clo f (caps.toList.map ρ)))) else none
  | .makeSlice t l c => Lf P h s t (ρ l) (ρ c)
  | .slice t x lo hi mx => if Am2 lo hi mx=true then just (A6 P t (ρ x) (hi.map ρ) (mx.map ρ)) else just (Oj P t (ρ x) (lo.map ρ) (hi.map ρ) (mx.map ρ))
  | .makeMap t none => Aa P h s t
  | .lookup t x ix false => just (Ag P h t (ρ x) (ρ ix))
  | .mapUpdate t x ix v => (Af P h t (ρ x) (ρ ix) (ρ v)).map fun us => ⟨Cr,us⟩
  | .fieldAddr t x f => just (Hu P t (ρ x) f)
  | .field t x f => just (Aj P t (ρ x) f)
  | .indexAddr t x ix => just (Ht P t (ρ x) (ρ ix))
  | .index t x ix => just (L4 P t (ρ x) (ρ ix))
  | .extract x ix => match ρ x with
    | .tup vs => just vs[ix]?
    | _ => none
  | .call { callee:=.builtin b,args:=as,argTypes:=ts } => Ac P h s b ts.toList (as.toList.map ρ)
  | _ => none
end Go.Proofs.Ythnfphgjfpcpbaa.TM
namespace Go.Proofs.Ythnfphgjfpcpbaa.TM
open Go
def szW (w:World) (blk:Nat):Nat:=match w.heap[blk]? with
  | some (.cells c _ _) => c.size
  | _ => 0
structure Pl where
  b:Name → Nat
  F:Nat → Prop
instance:CoeFun Pl (fun _ => Name → Nat):=⟨Pl.b⟩
def Shut (β:Pl) (h:Heap) (blk:Nat):Prop:=∀ b x,h b=some x → x.open=true → β b ≠ blk
def Stable (β:Pl) (h:Heap) (blk:Nat):Prop:=¬ β.F blk ∧ Shut β h blk
def Rd (β:Pl) (h:Heap) (w:World) (a:Addr) (v:Value):Prop:=Stable β h a.block ∧ w.cell? a=some v
inductive RepI (R:Addr → Value → Prop):IV → Value → Prop
  | v (x:Value):RepI R (.v x) x
  | nil:RepI R (.l 0 []) (.slice none 0 0)
  | l (n : Nat) (cs : List IV) (a : Addr) (cap : Nat) (f : Nat → Value) (hc : n ≤ cap) (hr : ∀ j, j < cs.length → R (a.add j) (f j)) (h1 : ∀ j, j < cs.length → (f j).oneCell' = true)
      (hs:∀ j x,cs[j]?=some x → RepI R x (f j)):RepI R (.l n cs) (.slice (some a) n cap)
inductive RepP (β:Pl) (h:Heap) (R:Addr → Value → Prop) (S:Nat → Nat):PV → Value → Prop
  | i (x:IV) (v:Value):RepI R x v → RepP β h R S (.i x) v
  | view (b : Name) (off z n top : Nat) (x : Box) (a : Option Addr) (cap : Nat) (hb : h b = some x) (hrow : x.isMap = false) (ht : top ≤ x.len) (hn : n ≤ cap) (ha : a = none → n = 0 ∧ cap = 0)
      (hv:x.len=top → (n=0 ∧ cap=0 ∧ top ≤ off) ∨ (a=some ⟨β b,off,none⟩ ∧ off + cap * z ≤ S (β b) ∧ top ≤ off + cap * z)):RepP β h R S (.view b off z n top) (.slice a n cap)
  | ref (b:Name) (off top:Nat) (x:Box) (a:Addr) (hb:h b=some x) (ht:top ≤ x.len) (hv:x.len=top → a=⟨β b,off,none⟩):RepP β h R S (.ref b off top) (.pointer (some a))
  | iref (cs : List IV) (off : Nat) (a : Addr) (f : Nat → Value) (hr : ∀ j, j < cs.length → R (a.add j) (f j)) (h1 : ∀ j, j < cs.length → (f j).oneCell' = true)
      (hs:∀ j x,cs[j]?=some x → RepI R x (f j)):RepP β h R S (.iref cs off) (.pointer (some (a.add off)))
  | agg (cs:List PV) (arr:Array Value) (hl:arr.size=cs.length) (hs:∀ j x,cs[j]?=some x → RepP β h R S x (arr.getD j undef)):RepP β h R S (.agg cs) (.agg arr)
  | tup (cs:List PV) (arr:Array Value) (hl:arr.size=cs.length) (hs:∀ j x,cs[j]?=some x → RepP β h R S x (arr.getD j undef)):RepP β h R S (.tup cs) (.tuple arr)
  | clo (f:FuncId) (cs:List PV) (arr:Array Value) (hl:arr.size=cs.length) (hs:∀ j x,cs[j]?=some x → RepP β h R S x (arr.getD j undef)):RepP β h R S (.clo f cs) (.func (.func f) #[] arr)
  | mref (b:Name) (x:Box) (hb:h b=some x) (hm:x.isMap=true):RepP β h R S (.mref b) (.map (some (β b)))
  | zip (a:Option Addr):RepP β h R S .zip (.slice a 0 0)
  | dead (v:Value):RepP β h R S .dead v
abbrev Rep (β:Pl) (h:Heap) (w:World):PV → Value → Prop:=RepP β h (Rd β h w) (szW w)
def BoxRep (β:Pl) (h:Heap) (w:World) (x:Box) (c:Array Value):Prop :=
  match x with
  | .row _ cs => cs.length ≤ c.size ∧ ∀ j y,cs[j]?=some y → (c.getD j undef).oneCell'=true ∧ RepI (Rd β h w) y (c.getD j undef)
  | .var cs => cs.length ≤ c.size ∧ ∀ j y,cs[j]?=some y → (c.getD j undef).oneCell'=true ∧ Rep β h w y (c.getD j undef)
  | .map _ _ => False
def Gr (e:MapEntry):Value × Value:=(e.key,e.val)
def ObjRep (β:Pl) (h:Heap) (w:World) (x:Box) (o:Obj):Prop :=
  match x with
  | .map k es => ∃ ar clock,o=.map ar clock ∧ ar.toList.map Gr=es.map fun q => (Value.int k q.1,q.2)
  | x => ∃ c e,o=.cells c e (0,0) ∧ BoxRep β h w x c
structure HInv (β:Pl) (h:Heap) (w:World):Prop where
  inj:∀ b b' x x',h b=some x → h b'=some x' → β b=β b' → b=b'
  nf:∀ b x,h b=some x → ¬ β.F (β b)
  flt:∀ blk,β.F blk → blk < w.heap.size
  box:∀ b x,h b=some x → ∃ o,w.heap[β b]?=some o ∧ ObjRep β h w x o
structure Ext (β:Pl) (h:Heap) (w:World) (β':Pl) (h':Heap) (w':World):Prop where
  os:w'.os=w.os
  tape:w'.tape=w.tape
  output:w'.output=w.output
  size:w.heap.size ≤ w'.heap.size
  F:β'.F=β.F
  stab:∀ blk,blk < w.heap.size → Shut β h blk → Shut β' h' blk ∧ w'.heap[blk]?=w.heap[blk]?
  keep:∀ b x,h b=some x → ∃ x',h' b=some x' ∧ x'.isMap=x.isMap ∧ x.len ≤ x'.len ∧ (x'.len=x.len → β' b=β b)
  sz:∀ blk,blk < w.heap.size → szW w' blk=szW w blk
theorem HInv.lt {β:Pl} {h:Heap} {w:World} (H:HInv β h w) {b:Name} {x:Box} (hb:h b=some x):β b < w.heap.size:=by
  obtain ⟨o,ho,_⟩:=H.box b x hb
  exact (Array.getElem?_eq_some_iff.1 ho).1
theorem ObjRep.cells {β:Pl} {h:Heap} {w:World} {x:Box} {o:Obj} (hr:ObjRep β h w x o) (hm:x.isMap=false):∃ c e,o=.cells c e (0,0) ∧ BoxRep β h w x c:=by
  cases x with
  | row => exact hr
  | var => exact hr
  | map => cases hm
theorem ObjRep.of {β:Pl} {h:Heap} {w:World} {x:Box} {c:Array Value} {e:TypeId} (hr:BoxRep β h w x c):ObjRep β h w x (.cells c e (0,0)):=by
  cases x with
  | row => exact ⟨c,e,rfl,hr⟩
  | var => exact ⟨c,e,rfl,hr⟩
  | map => exact hr.elim
theorem HInv.cells {β:Pl} {h:Heap} {w:World} (H:HInv β h w) {b:Name} {x:Box} (hb:h b=some x) (hm:x.isMap=false):∃ c e,w.heap[β b]?=some (.cells c e (0,0)) ∧ BoxRep β h w x c:=by
  obtain ⟨o,ho,hr⟩:=H.box b x hb
  obtain ⟨c,e,rfl,hr2⟩:=hr.cells hm
  exact ⟨c,e,ho,hr2⟩
theorem Ext.refl (β:Pl) (h:Heap) (w:World):Ext β h w β h w :=
  ⟨rfl,rfl,rfl,Nat.le_refl _,rfl,fun _ _ hs => ⟨hs,rfl⟩,fun b x hb => ⟨x,hb,rfl,Nat.le_refl _,fun _ => rfl⟩,fun _ _ => rfl⟩
theorem Ext.trans {β β' β'':Pl} {h h' h'':Heap} {w w' w'':World} (E:Ext β h w β' h' w') (F:Ext β' h' w' β'' h'' w''):Ext β h w β'' h'' w'':=by
  refine ⟨F.os.trans E.os,F.tape.trans E.tape,F.output.trans E.output,Nat.le_trans E.size F.size,F.F.trans E.F,?_,?_,?_⟩
  · intro blk hl hs
    obtain ⟨hs',he⟩:=E.stab blk hl hs
    obtain ⟨hs'',he'⟩:=F.stab blk (Nat.lt_of_lt_of_le hl E.size) hs'
    exact ⟨hs'',he'.trans he⟩
  · intro b x hb
    obtain ⟨x',hb',hr,hl,hq⟩:=E.keep b x hb
    obtain ⟨x'',hb'',hr',hl',hq'⟩:=F.keep b x' hb'
    refine ⟨x'',hb'',hr'.trans hr,Nat.le_trans hl hl',fun he => ?_⟩
    have h1:x'.len=x.len:=by omega
    have h2:x''.len=x'.len:=by omega
    exact (hq' h2).trans (hq h1)
  · intro blk hl
    exact (F.sz blk (Nat.lt_of_lt_of_le hl E.size)).trans (E.sz blk hl)
theorem RepI.mono {R R':Addr → Value → Prop} (hR:∀ a v,R a v → R' a v) {x:IV} {v:Value} (h:RepI R x v):RepI R' x v:=by
  induction h with
  | v x => exact .v x
  | nil => exact .nil
  | l n cs a cap f hc hr h1 hs ih => exact .l n cs a cap f hc (fun j hj => hR _ _ (hr j hj)) h1 ih
theorem Rd.mono {β β':Pl} {h h':Heap} {w w':World} (E:Ext β h w β' h' w') {a:Addr} {v:Value} (hr:Rd β h w a v):Rd β' h' w' a v:=by
  obtain ⟨⟨hf,hs⟩,hc⟩:=hr
  obtain ⟨hs',he⟩:=E.stab a.block (World.block_lt_of_cell? w a hc) hs
  exact ⟨⟨by rw [E.F]; exact hf,hs'⟩,(World.cell?_of_block he).trans hc⟩
theorem RepP.mono {β β':Pl} {h h':Heap} {w w':World} (H:HInv β h w) (E:Ext β h w β' h' w') {p:PV} {v:Value} (hp:Rep β h w p v):Rep β' h' w' p v:=by
  have hR:∀ a v,Rd β h w a v → Rd β' h' w' a v:=fun a v => Rd.mono E
  induction hp with
  | i x v hx => exact .i x v (hx.mono hR)
  | view b off z n top x a cap hb hrow ht hn ha hv =>
    obtain ⟨x',hb',hr',hl',hq'⟩:=E.keep b x hb
    refine .view b off z n top x' a cap hb' (hr'.trans hrow) (Nat.le_trans ht hl') hn ha fun he => ?_
    have h1:x.len=top:=by omega
    have h2:x'.len=x.len:=by omega
    rw [hq' h2]
    rcases hv h1 with h0|⟨h0,hz,hq⟩
    · exact .inl h0
    · exact .inr ⟨h0,by rw [E.sz (β b) (H.lt hb)]; exact hz,hq⟩
  | ref b off top x a hb ht hv =>
    obtain ⟨x',hb',hr',hl',hq'⟩:=E.keep b x hb
    refine .ref b off top x' a hb' (Nat.le_trans ht hl') fun he => ?_
    have h1:x.len=top:=by omega
    have h2:x'.len=x.len:=by omega
    rw [hq' h2]
    exact hv h1
  | iref cs off a f hr h1 hs => exact .iref cs off a f (fun j hj => hR _ _ (hr j hj)) h1 fun j x hx => (hs j x hx).mono hR
  | agg cs arr hl hs ih => exact .agg cs arr hl ih
  | tup cs arr hl hs ih => exact .tup cs arr hl ih
  | clo f cs arr hl hs ih => exact .clo f cs arr hl ih
  | mref b x hb hm =>
    obtain ⟨x',hb',hr',hl',hq'⟩:=E.keep b x hb
    have hm':x'.isMap=true:=hr'.trans hm
    have h1:x'.len=x.len:=by
      cases x <;> cases hm
      cases x' <;> cases hm'
      rfl
    rw [← hq' h1]
    exact .mref b x' hb' hm'
  | zip a => exact .zip a
  | dead v => exact .dead v
theorem BoxRep.mono {β β':Pl} {h h':Heap} {w w':World} (H:HInv β h w) (E:Ext β h w β' h' w') {x:Box} {c:Array Value} (hx:BoxRep β h w x c):BoxRep β' h' w' x c:=by
  cases x with
  | row fz cs => exact ⟨hx.1,fun j y hj => ⟨(hx.2 j y hj).1,(hx.2 j y hj).2.mono fun a v => Rd.mono E⟩⟩
  | var cs => exact ⟨hx.1,fun j y hj => ⟨(hx.2 j y hj).1,RepP.mono H E (hx.2 j y hj).2⟩⟩
  | map => exact hx.elim
theorem ObjRep.mono {β β':Pl} {h h':Heap} {w w':World} (H:HInv β h w) (E:Ext β h w β' h' w') {x:Box} {o:Obj} (hx:ObjRep β h w x o):ObjRep β' h' w' x o:=by
  cases x with
  | row fz cs => obtain ⟨c,e,rfl,hr⟩:=hx; exact ⟨c,e,rfl,hr.mono H E⟩
  | var cs => obtain ⟨c,e,rfl,hr⟩:=hx; exact ⟨c,e,rfl,hr.mono H E⟩
  | map => exact hx
theorem HInv.step {β β' : Pl} {h h' : Heap} {w w' : World} (H : HInv β h w) (E : Ext β h w β' h' w') (b0 : Name)
    (hoth:∀ b x,b ≠ b0 → h b=some x → β' b=β b ∧ w'.heap[β b]?=w.heap[β b]?) (hput:∀ b,b ≠ b0 → h' b=h b)
    (hnew:∀ x,h' b0=some x → ∃ o,w'.heap[β' b0]?=some o ∧ ObjRep β' h' w' x o)
    (hinj:∀ b x y,b ≠ b0 → h b=some x → h' b0=some y → β b ≠ β' b0) (hnf:∀ x,h' b0=some x → ¬ β'.F (β' b0)):HInv β' h' w':=by
  refine ⟨fun b b' x x' hb hb' he => ?_,fun b x hb => ?_,fun blk hF => Nat.lt_of_lt_of_le (H.flt blk (by rw [← E.F]; exact hF)) E.size,fun b x hb => ?_⟩
  · by_cases h1:b=b0
    · by_cases h2:b'=b0
      · exact h1.trans h2.symm
      · subst h1
        rw [hput b' h2] at hb'
        rw [(hoth b' x' h2 hb').1] at he
        exact absurd he.symm (hinj b' x' x h2 hb' hb)
    · by_cases h2:b'=b0
      · subst h2
        rw [hput b h1] at hb
        rw [(hoth b x h1 hb).1] at he
        exact absurd he (hinj b x x' h1 hb hb')
      · rw [hput b h1] at hb
        rw [hput b' h2] at hb'
        rw [(hoth b x h1 hb).1,(hoth b' x' h2 hb').1] at he
        exact H.inj b b' x x' hb hb' he
  · by_cases h1:b=b0
    · subst h1; exact hnf x hb
    · rw [hput b h1] at hb
      rw [(hoth b x h1 hb).1,E.F]
      exact H.nf b x hb
  · by_cases h1:b=b0
    · subst h1; exact hnew x hb
    · rw [hput b h1] at hb
      obtain ⟨o,hc,hr⟩:=H.box b x hb
      refine ⟨o,?_,hr.mono H E⟩
      rw [(hoth b x h1 hb).1,(hoth b x h1 hb).2]
      exact hc
def Heap.ups (h:Heap) (us:List (Name × Box)):Heap:=us.foldl (fun h u => h.put u.1 u.2) h
@[simp] theorem Heap.ups_nil (h:Heap):h.ups []=h:=rfl
theorem Heap.ups_cons (h:Heap) (u:Name × Box) (us:List (Name × Box)):h.ups (u::us)=(h.put u.1 u.2).ups us:=rfl
theorem Heap.ups_append (h:Heap) (us vs:List (Name × Box)):h.ups (us ++ vs)=(h.ups us).ups vs:=List.foldl_append
theorem Heap.put_same (h:Heap) (b:Name) (x:Box):h.put b x b=some x:=by simp [Heap.put]
theorem Heap.put_ne (h:Heap) {b c:Name} (x:Box) (hne:c ≠ b):h.put b x c=h c:=by simp [Heap.put,hne]
theorem Ext.drew (β:Pl) (h:Heap) (w:World):Ext β h w β h w.drew :=
  ⟨rfl,rfl,rfl,Nat.le_refl _,rfl,fun _ _ hs => ⟨hs,rfl⟩,fun b x hb => ⟨x,hb,rfl,Nat.le_refl _,fun _ => rfl⟩,fun _ _ => rfl⟩
theorem HInv.drew {β:Pl} {h:Heap} {w:World} (H:HInv β h w):HInv β h w.drew :=
  ⟨H.inj,H.nf,H.flt,fun b x hb => by
    obtain ⟨o,hc,hr⟩:=H.box b x hb
    exact ⟨o,hc,hr.mono H (Ext.drew β h w)⟩⟩
theorem freeze1 {β:Pl} {h:Heap} {w:World} (H:HInv β h w) {b:Name} {fz:Bool} {cs:List IV} (hb:h b=some (.row fz cs)) :
    Ext β h w β (h.put b (.row true cs)) w ∧ HInv β (h.put b (.row true cs)) w:=by
  have E:Ext β h w β (h.put b (.row true cs)) w:=by
    refine ⟨rfl,rfl,rfl,Nat.le_refl _,rfl,fun blk hl hs => ⟨fun c x hc ho => ?_,rfl⟩,fun c x hc => ?_,fun _ _ => rfl⟩
    · by_cases h1:c=b
      · subst h1; rw [Heap.put_same] at hc; cases hc; simp [Box.open] at ho
      · rw [Heap.put_ne _ _ h1] at hc; exact hs c x hc ho
    · by_cases h1:c=b
      · subst h1
        rw [hb] at hc; cases hc
        exact ⟨_,Heap.put_same _ _ _,rfl,Nat.le_refl _,fun _ => rfl⟩
      · exact ⟨x,by rw [Heap.put_ne _ _ h1]; exact hc,rfl,Nat.le_refl _,fun _ => rfl⟩
  refine ⟨E,H.step E b (fun c x _ _ => ⟨rfl,rfl⟩) (fun c hc => Heap.put_ne _ _ hc) (fun x hx => ?_) (fun c x y hne hc hy he => hne (H.inj c b x _ hc hb he)) (fun x hx => H.nf b _ hb)⟩
  rw [Heap.put_same] at hx; cases hx
  obtain ⟨c,e,hc,hr⟩:=H.cells hb rfl
  exact ⟨_,hc,c,e,rfl,(BoxRep.mono H E (x:=.row fz cs) hr)⟩
def Freezes (h:Heap) (us:List (Name × Box)):Prop:=∀ u ∈ us,∃ fz cs,h u.1=some (.row fz cs) ∧ u.2=.row true cs
theorem freezes {β:Pl} {w:World}:∀ (us:List (Name × Box)) {h:Heap},HInv β h w → Freezes h us →
    Ext β h w β (h.ups us) w ∧ HInv β (h.ups us) w ∧ (∀ b,b ∉ us.map (·.1) → h.ups us b=h b) ∧ (∀ b ∈ us.map (·.1),∃ fz cs,h b=some (.row fz cs) ∧ h.ups us b=some (.row true cs)):=by
  intro us
  induction us with
  | nil => intro h H _; exact ⟨Ext.refl _ _ _,H,fun _ _ => rfl,fun b hb => by simp at hb⟩
  | cons u us ih =>
    intro h H hF
    obtain ⟨fz,cs,hb,hu⟩:=hF u (by simp)
    obtain ⟨E,H'⟩:=freeze1 H hb
    have hF':Freezes (h.put u.1 u.2) us:=by
      intro v hv
      obtain ⟨fz',cs',hb',hv'⟩:=hF v (by simp [hv])
      by_cases h1:v.1=u.1
      · rw [h1] at hb'
        rw [hb] at hb'; cases hb'
        exact ⟨true,cs,by rw [h1,Heap.put_same,hu],hv'⟩
      · exact ⟨fz',cs',by rw [Heap.put_ne _ _ h1]; exact hb',hv'⟩
    rw [hu] at hF'
    obtain ⟨E',H'',hn,hy⟩:=ih H' hF'
    rw [Heap.ups_cons,hu]
    refine ⟨E.trans E',H'',fun b hb' => ?_,fun b hb' => ?_⟩
    · simp only [List.map_cons,List.mem_cons,not_or] at hb'
      rw [hn b hb'.2,Heap.put_ne _ _ hb'.1]
    · by_cases h2:b ∈ us.map (·.1)
      · obtain ⟨fz',cs',h3,h4⟩:=hy b h2
        by_cases h1:b=u.1
        · subst h1
          rw [Heap.put_same] at h3; cases h3
          exact ⟨fz,cs,hb,h4⟩
        · rw [Heap.put_ne _ _ h1] at h3
          exact ⟨fz',cs',h3,h4⟩
      · have h1:b=u.1:=by
          rcases List.mem_cons.1 (show b ∈ u.1::us.map (·.1) from hb') with h1|h1
          · exact h1
          · exact absurd h1 h2
        subst h1
        exact ⟨fz,cs,hb,by rw [hn _ h2,Heap.put_same]⟩
def setβ (β:Pl) (s:Name) (k:Nat):Pl:=⟨fun c => if c=s then k else β c,β.F⟩
theorem Cu (β:Pl) (s:Name) (k:Nat):setβ β s k s=k:=by simp [setβ]
theorem Fm (β:Pl) {s c:Name} (k:Nat) (h:c ≠ s):setβ β s k c=β c:=by simp [setβ,h]
theorem hao (w:World) (o:Obj) (i:Nat) (h:i < w.heap.size):(w.alloc o).heap[i]?=w.heap[i]?:=by
  show (w.heap.push o)[i]?=w.heap[i]?
  rw [Array.getElem?_push_lt h,Array.getElem?_eq_getElem h]
theorem Mu (w:World) (o:Obj) (blk:Nat) (h:blk < w.heap.size):szW (w.alloc o) blk=szW w blk:=by
  unfold szW; rw [hao w o blk h]
theorem Ext.new {β:Pl} {h:Heap} {w:World} {s:Name} (hs:h s=none) (x:Box) (o:Obj) :
    Ext β h w (setβ β s w.heap.size) (h.put s x) (w.alloc o):=by
  refine ⟨rfl,rfl,rfl,by simp,rfl,fun blk hl hst => ⟨fun c y hc ho => ?_,hao w o blk hl⟩,fun c y hc => ?_,fun blk hl => Mu w o blk hl⟩
  · by_cases h1:c=s
    · subst h1; rw [Cu]; omega
    · rw [Fm _ _ h1]; rw [Heap.put_ne _ _ h1] at hc; exact hst c y hc ho
  · have h1:c ≠ s:=fun e => by rw [e,hs] at hc; cases hc
    exact ⟨y,by rw [Heap.put_ne _ _ h1]; exact hc,rfl,Nat.le_refl _,fun _ => Fm _ _ h1⟩
theorem HInv.new {β : Pl} {h : Heap} {w : World} (H : HInv β h w) {s : Name} (hs : h s = none) (x : Box) (c : Array Value) (e : TypeId)
    (hr:BoxRep (setβ β s w.heap.size) (h.put s x) (w.alloc (.cells c e)) x c):HInv (setβ β s w.heap.size) (h.put s x) (w.alloc (.cells c e)):=by
  have E:=Ext.new (β:=β) (w:=w) hs x (.cells c e)
  refine H.step E s (fun b y hne hb => ⟨Fm _ _ hne,hao w _ _ (H.lt hb)⟩) (fun b hne => Heap.put_ne _ _ hne) (fun y hy => ?_) (fun b y y' hne hb _ => ?_) (fun y _ hF => ?_)
  · rw [Heap.put_same] at hy; cases hy
    exact ⟨_,by rw [Cu]; exact heap_alloc_new w _,.of hr⟩
  · rw [Cu]; have:=H.lt hb; omega
  · rw [Cu] at hF; have:=H.flt _ hF; omega
theorem I1 (w:World) (g:Nat) (c c':Array Value) (e:TypeId) (hg:w.heap[g]?=some (.cells c e (0,0))) (hc:c'.size=c.size) (blk:Nat):szW (w.setRow g c') blk=szW w blk:=by
  unfold szW
  by_cases h1:blk=g
  · subst h1; rw [setRow_heap w blk c c' e _ hg,hg]; simpa using hc
  · rw [setRow_other w g blk c' h1]
theorem Ext.write {β : Pl} {h : Heap} {w : World} (H : HInv β h w) {b : Name} {x x' : Box} {c c' : Array Value} {e : TypeId} (hb : h b = some x) (ho : x.open = true) (ho' : x'.open = true)
    (hg:w.heap[β b]?=some (.cells c e (0,0))) (hc:c'.size=c.size) (hrow:x'.isMap=x.isMap) (hlen:x.len ≤ x'.len) :
    Ext β h w β (h.put b x') (w.setRow (β b) c'):=by
  refine ⟨rfl,rfl,rfl,by simp,rfl,fun blk hl hst => ⟨fun d y hd hod => ?_,?_⟩,fun d y hd => ?_,fun blk hl => I1 w _ c c' e hg hc blk⟩
  · by_cases h1:d=b
    · subst h1; exact hst d x hb ho
    · rw [Heap.put_ne _ _ h1] at hd; exact hst d y hd hod
  · exact setRow_other w _ _ _ (fun e => hst b x hb ho e.symm)
  · by_cases h1:d=b
    · subst h1; rw [hb] at hd; cases hd
      exact ⟨x',Heap.put_same _ _ _,hrow,hlen,fun _ => rfl⟩
    · exact ⟨y,by rw [Heap.put_ne _ _ h1]; exact hd,rfl,Nat.le_refl _,fun _ => rfl⟩
theorem HInv.write {β : Pl} {h : Heap} {w : World} (H : HInv β h w) {b : Name} {x x' : Box} {c c' : Array Value} {e : TypeId} (hb : h b = some x) (ho : x.open = true) (ho' : x'.open = true)
    (hg:w.heap[β b]?=some (.cells c e (0,0))) (hc:c'.size=c.size) (hrow:x'.isMap=x.isMap) (hlen:x.len ≤ x'.len)
    (hr:BoxRep β (h.put b x') (w.setRow (β b) c') x' c'):HInv β (h.put b x') (w.setRow (β b) c'):=by
  have E:=Ext.write H hb ho ho' hg hc hrow hlen
  refine H.step E b (fun d y hne hd => ⟨rfl,setRow_other w _ _ _ fun e => hne (H.inj d b y x hd hb e)⟩) (fun d hne => Heap.put_ne _ _ hne) (fun y hy => ?_) (fun d y y' hne hd _ he => hne (H.inj d b y x hd hb he)) (fun y _ => H.nf b x hb)
  rw [Heap.put_same] at hy; cases hy
  exact ⟨_,setRow_heap w _ c c' e _ hg,.of hr⟩
theorem Ext.move {β:Pl} {h:Heap} {w:World} (H:HInv β h w) {b:Name} {x x':Box} (hb:h b=some x) (o:Obj) (hrow:x'.isMap=x.isMap) (hlen:x.len < x'.len) :
    Ext β h w (setβ β b w.heap.size) (h.put b x') (w.alloc o):=by
  refine ⟨rfl,rfl,rfl,by simp,rfl,fun blk hl hst => ⟨fun c y hc ho => ?_,hao w o blk hl⟩,fun c y hc => ?_,fun blk hl => Mu w o blk hl⟩
  · by_cases h1:c=b
    · subst h1; rw [Cu]; omega
    · rw [Fm _ _ h1]; rw [Heap.put_ne _ _ h1] at hc; exact hst c y hc ho
  · by_cases h1:c=b
    · subst h1; rw [hb] at hc; cases hc
      exact ⟨x',Heap.put_same _ _ _,hrow,Nat.le_of_lt hlen,fun he => by omega⟩
    · exact ⟨y,by rw [Heap.put_ne _ _ h1]; exact hc,rfl,Nat.le_refl _,fun _ => Fm _ _ h1⟩
theorem HInv.move {β : Pl} {h : Heap} {w : World} (H : HInv β h w) {b : Name} {x x' : Box} (hb : h b = some x) (c : Array Value) (e : TypeId) (hrow : x'.isMap = x.isMap) (hlen : x.len < x'.len)
    (hr:BoxRep (setβ β b w.heap.size) (h.put b x') (w.alloc (.cells c e)) x' c):HInv (setβ β b w.heap.size) (h.put b x') (w.alloc (.cells c e)):=by
  have E:=Ext.move H hb (.cells c e) hrow hlen
  refine H.step E b (fun d y hne hd => ⟨Fm _ _ hne,hao w _ _ (H.lt hd)⟩) (fun d hne => Heap.put_ne _ _ hne) (fun y hy => ?_) (fun d y y' hne hd _ => ?_) (fun y _ hF => ?_)
  · rw [Heap.put_same] at hy; cases hy
    exact ⟨_,by rw [Cu]; exact heap_alloc_new w _,.of hr⟩
  · rw [Cu]; have:=H.lt hd; omega
  · rw [Cu] at hF; have:=H.flt _ hF; omega
theorem HInv.newMap {β:Pl} {h:Heap} {w:World} (H:HInv β h w) {s:Name} (hs:h s=none) (k:IntKind):HInv (setβ β s w.heap.size) (h.put s (.map k [])) (w.alloc (.map #[] 0)):=by
  have E:=Ext.new (β:=β) (w:=w) hs (.map k []) (.map #[] 0)
  refine H.step E s (fun b y hne hb => ⟨Fm _ _ hne,hao w _ _ (H.lt hb)⟩) (fun b hne => Heap.put_ne _ _ hne) (fun y hy => ?_) (fun b y y' hne hb _ => ?_) (fun y _ hF => ?_)
  · rw [Heap.put_same] at hy; cases hy
    exact ⟨_,by rw [Cu]; exact heap_alloc_new w _,#[],0,rfl,rfl⟩
  · rw [Cu]; have:=H.lt hb; omega
  · rw [Cu] at hF; have:=H.flt _ hF; omega
def setObj (w:World) (r:Nat) (o:Obj):World:={ w with heap:=w.heap.setIfInBounds r o }
theorem Nm (w:World) {r:Nat} (o:Obj) (hr:r < w.heap.size):(setObj w r o).heap[r]?=some o:=by simp [setObj,hr]
theorem I2 (w:World) {r blk:Nat} (o:Obj) (hr:blk ≠ r):(setObj w r o).heap[blk]?=w.heap[blk]?:=by simp [setObj,Array.getElem?_setIfInBounds_ne (Ne.symm hr)]
theorem Ext.setMap {β:Pl} {h:Heap} {w:World} (H:HInv β h w) {b:Name} {k:IntKind} {es es':List (Int × Value)} {ar ar':Array MapEntry} {clock clock':Nat} (hb:h b=some (.map k es)) (hg:w.heap[β b]?=some (.map ar clock)) :
    Ext β h w β (h.put b (.map k es')) (setObj w (β b) (.map ar' clock')):=by
  refine ⟨rfl,rfl,rfl,by simp [setObj],rfl,fun blk hl hst => ⟨fun d y hd hod => ?_,?_⟩,fun d y hd => ?_,fun blk hl => ?_⟩
  · by_cases h1:d=b
    · subst h1; exact hst d _ hb rfl
    · rw [Heap.put_ne _ _ h1] at hd; exact hst d y hd hod
  · exact I2 w _ (fun e => hst b _ hb rfl e.symm)
  · by_cases h1:d=b
    · subst h1; rw [hb] at hd; cases hd
      exact ⟨_,Heap.put_same _ _ _,rfl,Nat.le_refl _,fun _ => rfl⟩
    · exact ⟨y,by rw [Heap.put_ne _ _ h1]; exact hd,rfl,Nat.le_refl _,fun _ => rfl⟩
  · unfold szW
    by_cases h1:blk=β b
    · subst h1; rw [Nm w _ hl,hg]
    · rw [I2 w _ h1]
theorem HInv.setMap {β : Pl} {h : Heap} {w : World} (H : HInv β h w) {b : Name} {k : IntKind} {es es' : List (Int × Value)} {ar ar' : Array MapEntry} {clock clock' : Nat} (hb : h b = some (.map k es)) (hg : w.heap[β b]? = some (.map ar clock))
    (hr:ar'.toList.map Gr=es'.map fun q => (Value.int k q.1,q.2)):HInv β (h.put b (.map k es')) (setObj w (β b) (.map ar' clock')):=by
  have E:=Ext.setMap (es':=es') (ar':=ar') (clock':=clock') H hb hg
  refine H.step E b (fun d y hne hd => ⟨rfl,I2 w _ fun e => hne (H.inj d b y _ hd hb e)⟩) (fun d hne => Heap.put_ne _ _ hne) (fun y hy => ?_) (fun d y y' hne hd _ he => hne (H.inj d b y _ hd hb he)) (fun y _ => H.nf b _ hb)
  rw [Heap.put_same] at hy; cases hy
  exact ⟨_,Nm w _ (H.lt hb),ar',clock',rfl,hr⟩
end Go.Proofs.Ythnfphgjfpcpbaa.TM
namespace Go.Proofs.Ythnfphgjfpcpbaa.TM
open Go
variable {P:Program} {β:Pl} {h:Heap} {w:World}
theorem add_lit (b o n:Nat):Addr.add ⟨b,o,none⟩ n=⟨b,o + n,none⟩:=Addr.add_lit b o n
theorem G5 {t:TypeId} {k:TK} (h:tkB P t=some k):∃ d,P.underlying t=some d ∧
    match k with
    | .sl e => d=.slice e
    | .arr n e => d=.array n e
    | .str => d=.string
    | .int k => d=.int k
    | .bool => d=.bool
    | .other => True:=by
  unfold tkB at h
  split at h <;> first|(cases h; exact ⟨_,by assumption,rfl⟩)|(cases h; exact ⟨_,by assumption,trivial⟩)|cases h
theorem Ox {t e:TypeId} (h:tkB P t=some (.sl e)):P.underlying t=some (.slice e):=by
  obtain ⟨d,h1,h2⟩:=G5 h; rw [h1,h2]
theorem W1 {t e:TypeId} {n:Nat} (h:tkB P t=some (.arr n e)):P.underlying t=some (.array n e):=by
  obtain ⟨d,h1,h2⟩:=G5 h; rw [h1,h2]
theorem Ow {t:TypeId} (h:tkB P t=some .str):P.underlying t=some .string:=by
  obtain ⟨d,h1,h2⟩:=G5 h; rw [h1,h2]
theorem Am8 {t:TypeId} {k:IntKind} (h:tkB P t=some (.int k)):P.underlying t=some (.int k):=by
  obtain ⟨d,h1,h2⟩:=G5 h; rw [h1,h2]
theorem Zm {t:TypeId} (h:tkB P t=some .bool):P.underlying t=some .bool:=by
  obtain ⟨d,h1,h2⟩:=G5 h; rw [h1,h2]
theorem N2 {s t:TypeId} {f o:Nat} (h:Bz P s f=some (t,o)):∃ (fs:Array Field) (q:Field) (i:TypeInfo) (d:TypeDesc),P.underlying s=some (.struct fs) ∧ fs[f]?=some q ∧ q.type=t ∧ q.offset=o ∧ P.info? t=some i ∧ 0 < i.size ∧ P.underlying t=some d:=by
  unfold Bz at h
  split at h
  case h_2 => cases h
  rename_i fs hu
  split at h
  case h_2 => cases h
  rename_i q hq
  split at h
  case isFalse => cases h
  rename_i hc
  cases h
  rw [Bool.and_eq_true] at hc
  obtain ⟨d,hd⟩:=Option.isSome_iff_exists.1 hc.2
  have h1:=hc.1
  obtain ⟨i,hi⟩:∃ i,P.info? q.type=some i:=by
    cases hi:P.info? q.type with
    | none => rw [hi] at h1; cases h1
    | some i => exact ⟨i,rfl⟩
  exact ⟨fs,q,i,d,hu,hq,rfl,rfl,hi,by simpa [hi] using h1,hd⟩
theorem Ft {t:TypeId} (h:B1 P t=true):∃ i,P.info? t=some i:=Option.isSome_iff_exists.1 h
theorem Mq {t:TypeId} (h:Cb P t=true):∃ d,P.underlying t=some d:=Option.isSome_iff_exists.1 h
theorem Wn {t:TypeId} {d:TypeDesc} (hu:P.underlying t=some d) (w:World):(isAgg t).run P w=.ok (Bq P t) w:=by
  unfold isAgg Bq
  rw [Sem.run_bind,run_underlying hu w,hu]
  cases d <;> rfl
theorem Fs {t:TypeId} {d:TypeDesc} (hu:P.underlying t=some d):∃ i,P.info? t=some i:=by
  unfold Program.underlying at hu
  cases hi:P.info? t with
  | some i => exact ⟨i,rfl⟩
  | none => simp [hi] at hu
theorem Dj {t:TypeId} {i:TypeInfo} (hi:P.info? t=some i) (w:World):(sizeOf t).run P w=.ok (B2 P t) w:=by
  simp [sizeOf,typeInfo,hi,B2,Program.cellsOf]
theorem Ga (a:Addr) (n:Nat) (f:Nat → Value) (hf:∀ j,j < n → w.cell? (a.add j)=some (f j)) :
    (loadCells a n).run P w=.ok ((List.range n).map f).toArray w:=by
  have:=run_loadCells_list (P:=P) w a ((List.range n).map f) (fun j v hj => by
    rw [List.getElem?_map] at hj
    by_cases hlt:j < n
    · rw [List.getElem?_range hlt] at hj
      simp at hj
      rw [← hj]; exact hf j hlt
    · rw [List.getElem?_eq_none (by simpa using hlt)] at hj
      simp at hj)
  simpa using this
theorem Nu {t : TypeId} {d : TypeDesc} (hu : P.underlying t = some d) (a : Addr) (f : Nat → Value)
    (hf:∀ j,j < (if Bq P t then B2 P t else 1) → w.cell? (a.add j)=some (f j)) :
    (loadVar t a).run P w=.ok (if Bq P t then .agg ((List.range (B2 P t)).map f).toArray else f 0) w:=by
  obtain ⟨i,hi⟩:=Fs hu
  unfold loadVar
  rw [Sem.run_bind,Wn hu]
  simp only [Result.andThen_ok]
  cases hb:Bq P t with
  | true =>
    simp only [hb,if_true] at hf ⊢
    simp only [Sem.run_bind,Dj hi,Result.andThen_ok,Ga a _ f hf,Sem.run_pure]
  | false =>
    simp only [hb,Bool.false_eq_true,if_false] at hf ⊢
    have h0:=hf 0 (by omega)
    rw [Addr.add_zero'] at h0
    rw [run_load,h0]
theorem M6 (n:Nat) (f:Nat → Value) (j:Nat) (hj:j < n):(((List.range n).map f).toArray).getD j undef=f j:=by
  simp [hj]
theorem H6 {cs:List PV} {n:Nat} {f:Nat → Value} (hn:cs.length=n) (hs:∀ j x,cs[j]?=some x → Rep β h w x (f j)):Rep β h w (.agg cs) (.agg ((List.range n).map f).toArray):=by
  refine .agg _ _ (by simp [hn]) fun j x hj => ?_
  have hlt:j < n:=by rw [← hn]; exact (List.getElem?_eq_some_iff.1 hj).1
  rw [M6 n f j hlt]
  exact hs j x hj
theorem Dd {α:Type} {cs:List α} {off n j:Nat} {x:α} (h:((cs.drop off).take n)[j]?=some x):j < n ∧ cs[off + j]?=some x:=by
  rw [List.getElem?_take] at h
  by_cases hj:j < n
  · rw [if_pos hj,List.getElem?_drop] at h; exact ⟨hj,h⟩
  · rw [if_neg hj] at h; cases h
theorem Ek (H:HInv β h w) {b:Name} {x:Box} (hb:h b=some x) (hm:x.isMap=false:=by rfl):∃ c e,w.heap[β b]?=some (.cells c e (0,0)) ∧ BoxRep β h w x c ∧
    ∀ j,j < c.size → w.cell? ⟨β b,j,none⟩=some (c.getD j undef):=by
  obtain ⟨c,e,hc,hr⟩:=H.cells hb hm
  refine ⟨c,e,hc,hr,fun j hj => ?_⟩
  rw [cell_of_row w (β b) j c e (0,0) hc]
  simp [hj]
theorem Px (H:HInv β h w) {t:TypeId} {d:TypeDesc} (hu:P.underlying t=some d) {x p:PV} {v:Value} (hx:Rep β h w x v) (hl:Ap P h t x=some p) :
    ∃ u,(Instr.loadAt t v).run P w=.ok u w ∧ Rep β h w p u:=by
  cases hx with
  | ref b off top x a hb ht hv =>
    have hmap:x.isMap=false:=by
      cases x with
      | map => simp [Ap,hb] at hl
      | _ => rfl
    obtain ⟨c,e,hc,hr,hcell⟩:=Ek H hb hmap
    simp only [Ap,hb] at hl
    have hlen:x.len=top ∧ x.len ≤ c.size:=by
      cases x with
      | row fz cs => exact ⟨by by_cases h1:cs.length=top; exact h1; simp [h1] at hl,hr.1⟩
      | var cs => exact ⟨by by_cases h1:cs.length=top; exact h1; simp [h1] at hl,hr.1⟩
      | map => cases hmap
    have ha:=hv hlen.1
    subst ha
    have hrun:=Nu (w:=w) (P:=P) hu ⟨β b,off,none⟩ (fun j => c.getD (off + j) undef)
    simp only [add_lit] at hrun
    simp only [Instr.loadAt,Instr.sureAddr,Sem.run_bind,Sem.run_pure,Result.andThen_ok]
    cases x with
    | row fz cs =>
      simp only [Box.len] at hlen
      simp only [hlen.1,if_true] at hl
      cases hb':Bq P t with
      | true =>
        simp only [hb',if_true] at hl hrun
        by_cases hfit:off + B2 P t ≤ top
        · rw [if_pos hfit] at hl
          cases hl
          refine ⟨_,hrun fun j hj => hcell _ (by omega),H6 (by simp; omega) fun j y hj => ?_⟩
          rw [List.getElem?_map] at hj
          cases hg:((cs.drop off).take (B2 P t))[j]? with
          | none => simp [hg] at hj
          | some z =>
            simp [hg] at hj
            subst hj
            exact .i _ _ (hr.2 _ _ (Dd hg).2).2
        · rw [if_neg hfit] at hl; cases hl
      | false =>
        simp only [hb',Bool.false_eq_true,if_false] at hl hrun
        cases hg:cs[off]? with
        | none => simp [hg] at hl
        | some z =>
          simp [hg] at hl
          subst hl
          have hlt:off < cs.length:=(List.getElem?_eq_some_iff.1 hg).1
          refine ⟨_,hrun fun j hj => hcell _ (by omega),?_⟩
          exact .i _ _ (hr.2 _ _ hg).2
    | var cs =>
      simp only [Box.len] at hlen
      simp only [hlen.1,if_true] at hl
      cases hb':Bq P t with
      | true =>
        simp only [hb',if_true] at hl hrun
        by_cases hfit:off + B2 P t ≤ top
        · rw [if_pos hfit] at hl
          cases hl
          refine ⟨_,hrun fun j hj => hcell _ (by omega),H6 (by simp; omega) fun j y hj => ?_⟩
          exact (hr.2 _ _ (Dd hj).2).2
        · rw [if_neg hfit] at hl; cases hl
      | false =>
        simp only [hb',Bool.false_eq_true,if_false] at hl hrun
        have hlt:off < cs.length:=(List.getElem?_eq_some_iff.1 hl).1
        refine ⟨_,hrun fun j hj => hcell _ (by omega),?_⟩
        exact (hr.2 _ _ hl).2
    | map => cases hmap
  | iref cs off a f hr h1 hs =>
    simp only [Ap] at hl
    have hrun:=Nu (w:=w) (P:=P) hu (a.add off) (fun j => f (off + j))
    simp only [Addr.add_add] at hrun
    simp only [Instr.loadAt,Instr.sureAddr,Sem.run_bind,Sem.run_pure,Result.andThen_ok]
    cases hb':Bq P t with
    | true =>
      simp only [hb',if_true] at hl hrun
      by_cases hfit:off + B2 P t ≤ cs.length
      · rw [if_pos hfit] at hl
        cases hl
        refine ⟨_,hrun fun j hj => (hr _ (by omega)).2,H6 (by simp; omega) fun j y hj => ?_⟩
        rw [List.getElem?_map] at hj
        cases hg:((cs.drop off).take (B2 P t))[j]? with
        | none => simp [hg] at hj
        | some z =>
          simp [hg] at hj
          subst hj
          exact .i _ _ (hs _ _ (Dd hg).2)
      · rw [if_neg hfit] at hl; cases hl
    | false =>
      simp only [hb',Bool.false_eq_true,if_false] at hl hrun
      cases hg:cs[off]? with
      | none => simp [hg] at hl
      | some z =>
        simp [hg] at hl
        subst hl
        have hlt:off < cs.length:=(List.getElem?_eq_some_iff.1 hg).1
        refine ⟨_,hrun fun j hj => (hr _ (by omega)).2,?_⟩
        exact .i _ _ (hs _ _ hg)
  | _ => simp [Ap] at hl
theorem Fq {p:PV} {n:Nat} (hn:Ay p=some n) {v:Value} (hp:Rep β h w p v):∃ (k:IntKind) (i:Int),v=.int k i ∧ 0 ≤ i ∧ i.toNat=n:=by
  unfold Ay at hn
  split at hn
  · rename_i k i
    cases hp with
    | i x v hx => cases hx; split at hn
                  · cases hn; exact ⟨k,i,rfl,by assumption,rfl⟩
                  · cases hn
  · cases hn
theorem Gk {p:PV} {k:SK} (hk:p.sk=some k):p=k.pv:=by
  unfold PV.sk at hk
  split at hk <;> first|(cases hk; rfl)|cases hk
theorem Jz {p:PV} {k:SK} (hk:p.sk=some k) {v:Value} (hp:Rep β h w p v):∃ a cap,v=.slice a k.len cap ∧ k.len ≤ cap ∧ (a=none → k.len=0 ∧ cap=0):=by
  have:=Gk hk; subst this
  cases k with
  | nil => cases hp with|i x v hx => cases hx; exact ⟨none,0,rfl,Nat.le_refl _,fun _ => ⟨rfl,rfl⟩⟩
  | zip => cases hp with|zip a => exact ⟨a,0,rfl,Nat.le_refl _,fun _ => ⟨rfl,rfl⟩⟩
  | imm n cs => cases hp with
    | i x v hx => cases hx with
      | nil => exact ⟨none,0,rfl,Nat.le_refl _,fun _ => ⟨rfl,rfl⟩⟩
      | l n cs a cap f hc hr h1 hs => exact ⟨some a,cap,rfl,hc,fun he => by cases he⟩
  | own b off z n top => cases hp with
    | view b off z n top x a cap hb hrow ht hn ha hv => exact ⟨a,cap,rfl,hn,ha⟩
theorem O3 (H:HInv β h w) {p:PV} {k:SK} (hk:p.sk=some k) {z:Nat} {cs:List IV} (hc:k.cells h z=some cs) {v:Value} (hp:Rep β h w p v) :
    cs.length=k.len * z ∧ ((cs=[] ∧ ∃ cap,v=.slice none k.len cap) ∨ ∃ a cap,v=.slice (some a) k.len cap ∧ ∃ f:Nat → Value,(∀ j,j < cs.length → w.cell? (a.add j)=some (f j)) ∧ (∀ j,j < cs.length → (f j).oneCell'=true) ∧
      ∀ j x,cs[j]?=some x → RepI (Rd β h w) x (f j)):=by
  have:=Gk hk; subst this
  cases k with
  | nil => cases hp with|i x v hx => cases hx; simp only [SK.cells] at hc; cases hc; exact ⟨by simp [SK.len],.inl ⟨rfl,0,rfl⟩⟩
  | zip => cases hp with
    | zip a =>
      simp only [SK.cells] at hc; cases hc
      refine ⟨by simp [SK.len],?_⟩
      cases a with
      | none => exact .inl ⟨rfl,0,rfl⟩
      | some a => exact .inr ⟨a,0,rfl,fun _ => undef,fun j hj => by simp at hj,fun j hj => by simp at hj,fun j x hj => by simp at hj⟩
  | imm n cs' =>
    simp only [SK.cells] at hc
    by_cases hl:cs'.length=n * z
    · rw [if_pos hl] at hc; cases hc
      refine ⟨hl,?_⟩
      cases hp with
      | i x v hx => cases hx with
        | nil => exact .inl ⟨rfl,0,rfl⟩
        | l n cs a cap f hc hr h1 hs => exact .inr ⟨a,cap,rfl,f,fun j hj => (hr j hj).2,h1,hs⟩
    · rw [if_neg hl] at hc; cases hc
  | own b off z' n top =>
    simp only [SK.cells] at hc
    cases hp with
    | view b off z' n top x a cap hb hrow ht hn ha hv =>
      rw [hb] at hc
      cases x with
      | var _ => simp at hc
      | map => simp at hc
      | row fz bs =>
        simp only at hc
        by_cases hg:bs.length=top ∧ z'=z ∧ off + n * z ≤ bs.length
        · rw [if_pos hg] at hc; cases hc
          obtain ⟨h1,h2,h3⟩:=hg
          subst h2
          have hlen:((bs.drop off).take (n * z')).length=n * z':=by simp; omega
          refine ⟨hlen,?_⟩
          rcases hv h1 with ⟨hn0,hc0,_⟩|⟨haa,hsz,_⟩
          · subst hn0
            cases a with
            | none => exact .inl ⟨by simp,cap,rfl⟩
            | some a => exact .inr ⟨a,cap,rfl,fun _ => undef,fun j hj => by simp at hj,fun j hj => by simp at hj,fun j x hj => by simp at hj⟩
          · subst haa
            obtain ⟨c,e,hcc,hr,hcell⟩:=Ek H hb
            refine .inr ⟨_,cap,rfl,fun j => c.getD (off + j) undef,fun j hj => ?_,fun j hj => ?_,fun j x hj => ?_⟩
            · rw [add_lit]; exact hcell _ (by have:=hr.1; omega)
            · have hlt:off + j < bs.length:=by omega
              exact (hr.2 (off + j) bs[off + j] (List.getElem?_eq_getElem hlt)).1
            · exact (hr.2 _ _ (Dd hj).2).2
        · rw [if_neg hg] at hc; cases hc
end Go.Proofs.Ythnfphgjfpcpbaa.TM
namespace Go.Proofs.Ythnfphgjfpcpbaa.TM
open Go
variable {P:Program} {β:Pl} {h:Heap} {w:World}
def Qi (β:Pl) (h:Heap) (w:World):Option PV → Option Value → Prop
  | none,none => True
  | some p,some v => Rep β h w p v
  | _,_ => False
theorem O2 {k:IntKind} {i:Int} {y:Nat} (code:BoundsCode) (h0:0 ≤ i) (hy:i.toNat ≤ y):(Instr.sliceBound (.int k i) y code).run P w=.ok i.toNat w:=by
  have:0 ≤ i ∧ i ≤ y:=⟨h0,by omega⟩
  simp [Instr.sliceBound,asIntOf,this]
theorem He {o:Option PV} {d n y:Nat} (ho:H7 o d=some n) {ov:Option Value} (hr:Qi β h w o ov) (hy:n ≤ y) (code:BoundsCode) :
    (o=none ∧ ov=none ∧ n=d) ∨ ∃ v,ov=some v ∧ (∃ p,o=some p) ∧ (Instr.sliceBound v y code).run P w=.ok n w:=by
  cases o with
  | none => cases ov with
    | none => simp only [H7] at ho; exact .inl ⟨rfl,rfl,by cases ho; rfl⟩
    | some v => exact hr.elim
  | some p => cases ov with
    | none => exact hr.elim
    | some v =>
      obtain ⟨k,i,rfl,h0,rfl⟩:=Fq ho hr
      exact .inr ⟨_,rfl,⟨p,rfl⟩,O2 code h0 hy⟩
theorem N7 {lo hi mx : Option PV} {lo' hi' mx' : Option Value} (hl : Qi β h w lo lo') (hh : Qi β h w hi hi') (hm : Qi β h w mx mx')
    {len cap l g m:Nat} (h1:H7 lo 0=some l) (h2:H7 hi len=some g) (h3:H7 mx len=some m) (hlg:l ≤ g) (hgm:g ≤ m) (hmc:m ≤ cap) (hmh:mx.isSome → hi.isSome) :
    (Instr.sliceBounds true len cap lo' hi' mx').run P w=.ok (l,g,if mx.isSome then m else cap) w:=by
  have hmm:=He (P:=P) h3 hm hmc .slice3Acap
  unfold Instr.sliceBounds
  rcases hmm with ⟨rfl,rfl,rfl⟩|⟨v,rfl,⟨p,rfl⟩,hv⟩
  · have hgg:=He (P:=P) h2 hh (Nat.le_trans hgm hmc) .sliceAcap
    have hll:=He (P:=P) h1 hl hlg .sliceB
    rcases hgg with ⟨rfl,rfl,rfl⟩|⟨v,rfl,⟨p,rfl⟩,hv⟩ <;> rcases hll with ⟨rfl,rfl,rfl⟩|⟨v',rfl,⟨p',rfl⟩,hv'⟩ <;> simp [*]
  · have hgg:=He (P:=P) h2 hh hgm .slice3B
    have hll:=He (P:=P) h1 hl hlg .slice3C
    rcases hgg with ⟨rfl,rfl,rfl⟩|⟨v2,rfl,⟨p,rfl⟩,hv2⟩
    · simp at hmh
    · rcases hll with ⟨rfl,rfl,rfl⟩|⟨v',rfl,⟨p',rfl⟩,hv'⟩ <;> simp [*]
theorem Uq {t : TypeId} {x p : PV} {lo hi mx : Option PV} {lo' hi' mx' : Option Value} {v : Value} (hx : Rep β h w x v) (hl : Qi β h w lo lo') (hh : Qi β h w hi hi') (hm : Qi β h w mx mx')
    (hp:Oj P t x lo hi mx=some p):∃ u,(Instr.sliceAt t v lo' hi' mx').run P w=.ok u w ∧ Rep β h w p u:=by
  unfold Oj at hp
  split at hp
  case h_2 => cases hp
  rename_i e hu
  replace hu:=Ox hu
  split at hp
  case h_2 => cases hp
  rename_i k hk
  split at hp
  case h_2 => cases hp
  rename_i l g m h1 h2 h3
  split at hp
  case isFalse => cases hp
  rename_i hc
  obtain ⟨hlg,hgm,hmk,hmh,hinfo⟩:=hc
  obtain ⟨i,hi⟩:=Ft hinfo
  obtain ⟨a,cap,rfl,hkc,hanone⟩:=Jz hk hx
  have hb:=N7 (P:=P) (w:=w) hl hh hm h1 h2 h3 hlg hgm (Nat.le_trans hmk hkc) hmh
  have hrun:(Instr.sliceAt t (.slice a k.len cap) lo' hi' mx').run P w =
      .ok (.slice (if (if mx.isSome then m else cap)=l then a else a.map (·.add (l * B2 P e))) (g - l) ((if mx.isSome then m else cap) - l)) w:=by
    simp [Instr.sliceAt,Instr.slice,run_underlying hu,hb,Dj hi]
  generalize hM:(if mx.isSome then m else cap)=M at hrun
  have hMcap:M ≤ cap:=by subst hM; split <;> omega
  have hgM:g ≤ M:=by subst hM; split <;> omega
  refine ⟨_,hrun,?_⟩
  have:=Gk hk; subst this
  cases k with
  | nil =>
    cases hp
    cases hx with
    | i x v hx => cases hx; simp only [SK.len] at *; obtain rfl : l = 0 := by omega
                  obtain rfl:g=0:=by omega
                  obtain rfl:M=0:=by omega
                  exact .i _ _ (.v _)
  | zip =>
    cases hp
    cases hx with
    | zip a =>
      simp only [SK.len] at *
      obtain rfl:l=0:=by omega
      obtain rfl:g=0:=by omega
      obtain rfl:M=0:=by omega
      exact .zip _
  | imm n cs =>
    simp only at hp
    split at hp
    case isFalse => cases hp
    rename_i hcl
    cases hp
    simp only [SK.len] at *
    cases hx with
    | i x v hx =>
      cases hx with
      | nil =>
        obtain rfl:l=0:=by omega
        obtain rfl:g=0:=by omega
        obtain rfl:M=0:=by omega
        simpa using (RepP.i _ _ .nil:Rep β h w (.i (.l 0 [])) (.slice none 0 0))
      | l n cs a cap f hc hr h1' hs =>
        refine .i _ _ ?_
        have hlen:((cs.drop (l * B2 P e)).take ((g - l) * B2 P e)).length=(g - l) * B2 P e:=by
          simp only [List.length_take,List.length_drop,hcl]
          have:l * B2 P e + (g - l) * B2 P e ≤ n * B2 P e:=by rw [← Nat.add_mul]; exact Nat.mul_le_mul_right _ (by omega)
          omega
        by_cases hml:M=l
        · rw [if_pos hml]
          have hgl:g - l=0:=by omega
          refine .l _ _ a _ f (by omega) (fun j hj => ?_) (fun j hj => ?_) (fun j x hj => ?_)
          · rw [hlen,hgl] at hj; omega
          · rw [hlen,hgl] at hj; omega
          · have:=(List.getElem?_eq_some_iff.1 hj).1; rw [hlen,hgl] at this; omega
        · rw [if_neg hml]
          have hle:∀ j,j < (g - l) * B2 P e → l * B2 P e + j < cs.length:=fun j hj => by
            rw [hcl]
            have:l * B2 P e + (g - l) * B2 P e ≤ n * B2 P e:=by rw [← Nat.add_mul]; exact Nat.mul_le_mul_right _ (by omega)
            omega
          refine .l _ _ _ _ (fun j => f (l * B2 P e + j)) (by omega) (fun j hj => ?_) (fun j hj => ?_) (fun j x hj => ?_)
          · rw [Addr.add_add]; exact hr _ (hle j (by omega))
          · exact h1' _ (hle j (by omega))
          · exact hs _ _ (Dd hj).2
  | own b off z n top =>
    simp only at hp
    split at hp
    case isFalse => cases hp
    rename_i hz
    obtain ⟨hz,hmx⟩:=hz
    cases hp
    simp only [SK.len] at *
    have hMc:M=cap:=by
      rw [← hM,if_neg (by simpa using hmx)]
    cases hx with
    | view b off z n top x a cap hb' hrow ht hn ha hv =>
      subst hz
      by_cases hml:M=l
      · rw [if_pos hml]
        refine .view _ _ _ _ _ x _ _ hb' hrow ht (by omega) (fun he => ⟨by omega,by omega⟩) (fun he => .inl ⟨by omega,by omega,?_⟩)
        rcases hv he with ⟨h1',h2',h3'⟩|⟨h1',h2',h3'⟩
        · omega
        · rw [← hMc,hml] at h3'; exact h3'
      · rw [if_neg hml]
        refine .view _ _ _ _ _ x _ _ hb' hrow ht (by omega) (fun he => ?_) (fun he => ?_)
        · have:a=none:=by cases a <;> simp_all
          have:=ha this
          omega
        · rcases hv he with h0|⟨h0,h0'⟩
          · exact absurd (show M=l by omega) hml
          · obtain ⟨h0',h0''⟩:=h0'
            refine .inr ⟨by rw [h0]; simp [add_lit],?_,?_⟩
            · have hq:l * B2 P e + (M - l) * B2 P e ≤ cap * B2 P e:=by rw [← Nat.add_mul]; exact Nat.mul_le_mul_right _ (by omega)
              omega
            · have hq:l * B2 P e + (M - l) * B2 P e=cap * B2 P e:=by rw [← Nat.add_mul]; congr 1; omega
              omega
theorem Oc {s:TypeId} {x p:PV} {f:Nat} {v:Value} (hx:Rep β h w x v) (hp:Hu P s x f=some p):∃ u,(Instr.fieldAt s v f).run P w=.ok u w ∧ Rep β h w p u:=by
  unfold Hu at hp
  split at hp
  case h_2 => cases hp
  rename_i ty o hf
  obtain ⟨fs,q,i,dd,hu,hq,rfl,rfl,hi,hpos,_⟩:=N2 hf
  have hsz:B2 P q.type ≠ 0:=by
    simp [B2,Program.cellsOf,hi]; omega
  have hrun:∀ a,(Instr.fieldAt s (.pointer (some a)) f).run P w=.ok (.pointer (some (a.add q.offset))) w:=by
    intro a
    simp [Instr.fieldAt,run_underlying hu,hq,Instr.sureAddr,fieldPlace,Dj hi,hsz]
  cases hx with
  | ref b off top x a hb ht hv =>
    cases hp
    refine ⟨_,hrun a,.ref _ _ _ x _ hb ht fun he => ?_⟩
    rw [hv he,add_lit]
  | iref cs off a g hr h1 hs =>
    cases hp
    refine ⟨_,hrun _,?_⟩
    rw [Addr.add_add]
    exact .iref _ _ a g hr h1 hs
  | _ => cases hp
theorem Ob {t:TypeId} {x ix p:PV} {v iv:Value} (hx:Rep β h w x v) (hix:Rep β h w ix iv) (hp:Ht P t x ix=some p):∃ u,(Instr.indexAt t v iv).run P w=.ok u w ∧ Rep β h w p u:=by
  unfold Ht at hp
  split at hp
  case h_3 => cases hp
  · rename_i e i hu hn
    replace hu:=Ox hu
    obtain ⟨k,n,rfl,h0,rfl⟩:=Fq hn hix
    split at hp
    case h_3 => cases hp
    · rename_i m cs hk
      split at hp
      case isFalse => cases hp
      rename_i hc
      obtain ⟨q,hq⟩:=Ft hc.2
      have:=Gk hk; subst this
      cases hp
      cases hx with
      | i x v hx => cases hx with
        | nil => exact absurd hc.1 (by simp)
        | l n' cs a cap f hcc hr h1 hs =>
          have hin:0 ≤ n ∧ n < m:=⟨h0,by omega⟩
          refine ⟨.pointer (some (a.add (n.toNat * B2 P e))),by simp [Instr.indexAt,asIntOf,run_underlying hu,hin,Dj hq],.iref _ _ a f hr h1 hs⟩
    · rename_i b off z m top hk
      split at hp
      case isFalse => cases hp
      rename_i hc
      obtain ⟨hlt,hz,hinfo⟩:=hc
      obtain ⟨q,hq⟩:=Ft hinfo
      have:=Gk hk; subst this
      cases hp
      cases hx with
      | view b off z n' top x a cap hb hrow ht hn' ha hv =>
        have hin:0 ≤ n ∧ n < m:=⟨h0,by omega⟩
        cases a with
        | none => have:=ha rfl; omega
        | some a =>
          refine ⟨.pointer (some (a.add (n.toNat * B2 P e))),by simp [Instr.indexAt,asIntOf,run_underlying hu,hin,Dj hq],.ref _ _ _ x _ hb ht fun he => ?_⟩
          rcases hv he with ⟨h0',_⟩|⟨h0',_⟩
          · omega
          · cases h0'; rw [add_lit,hz]
  · rename_i m e i hu hn
    replace hu:=W1 hu
    obtain ⟨k,n,rfl,h0,rfl⟩:=Fq hn hix
    split at hp
    case isFalse => cases hp
    rename_i hc
    obtain ⟨q,hq⟩:=Ft hc.2
    have hin:0 ≤ n ∧ n < m:=⟨h0,by omega⟩
    have hrun:∀ a,(Instr.indexAt t (.pointer (some a)) (.int k n)).run P w=.ok (.pointer (some (a.add (n.toNat * B2 P e)))) w:=by
      intro a
      simp [Instr.indexAt,asIntOf,run_underlying hu,hin,Dj hq,Instr.sureAddr]
    cases hx with
    | ref b off top x a hb ht hv =>
      cases hp
      exact ⟨_,hrun a,.ref _ _ _ x _ hb ht fun he => by rw [hv he,add_lit]⟩
    | iref cs off a g hr h1 hs =>
      cases hp
      refine ⟨_,hrun _,?_⟩
      rw [Addr.add_add]
      exact .iref _ _ a g hr h1 hs
    | _ => cases hp
theorem Vz {o:Option Operand} (h:isZ o=true):∃ k,o=some (.const (.int k 0)):=by
  unfold isZ at h
  split at h
  · rename_i k n
    have:n=0:=by simpa using h
    subst this
    exact ⟨k,rfl⟩
  · cases h
theorem Ab8 {lo hi mx:Option Operand} (h:Am2 lo hi mx=true):lo=none ∧ (∃ k,hi=some (.const (.int k 0))) ∧ ∃ k,mx=some (.const (.int k 0)):=by
  unfold Am2 at h
  simp only [Bool.and_eq_true,Option.isNone_iff_eq_none] at h
  exact ⟨h.2.1,Vz h.2.2.1,Vz h.2.2.2⟩
theorem Os {o:Option PV} (h:A3 o=true):∃ k,o=some (.i (.v (.int k 0))):=by
  unfold A3 at h
  split at h
  · rename_i k n
    have:n=0:=by simpa using h
    subst this
    exact ⟨k,rfl⟩
  · cases h
theorem Ab7 {t:TypeId} {x p:PV} {v:Value} (hx:Rep β h w x v) {hi mx:Option PV} {hi' mx':Option Value} (hh:Qi β h w hi hi') (hm:Qi β h w mx mx') (hp:A6 P t x hi mx=some p):∃ u,(Instr.sliceAt t v none hi' mx').run P w=.ok u w ∧ Rep β h w p u:=by
  unfold A6 at hp
  split at hp
  case h_2 => cases hp
  rename_i e hu
  replace hu:=Ox hu
  split at hp
  case isFalse => cases hp
  rename_i hinfo
  simp only [Bool.and_eq_true] at hinfo
  obtain ⟨hinfo,hz1,hz2⟩:=hinfo
  obtain ⟨k1,rfl⟩:=Os hz1
  obtain ⟨k2,rfl⟩:=Os hz2
  obtain ⟨v1,rfl⟩:∃ v1,hi'=some v1:=by cases hi' with|none => exact hh.elim|some v => exact ⟨v,rfl⟩
  obtain ⟨v2,rfl⟩:∃ v2,mx'=some v2:=by cases mx' with|none => exact hm.elim|some v => exact ⟨v,rfl⟩
  have hv1:v1=.int k1 0:=by
    have:Rep β h w (.i (.v (.int k1 0))) v1:=hh
    cases this with|i _ _ hx => cases hx; rfl
  have hv2:v2=.int k2 0:=by
    have:Rep β h w (.i (.v (.int k2 0))) v2:=hm
    cases this with|i _ _ hx => cases hx; rfl
  subst hv1
  subst hv2
  obtain ⟨i,hi⟩:=Ft hinfo
  cases hk:x.sk with
  | none => simp [hk] at hp
  | some k0 =>
    simp [hk] at hp
    subst hp
    obtain ⟨a,cap,rfl,hkc,hanone⟩:=Jz hk hx
    refine ⟨.slice a 0 0,?_,.zip a⟩
    simp [Instr.sliceAt,Instr.slice,run_underlying hu,Instr.sliceBounds,Instr.sliceBound,asIntOf,Dj hi]
end Go.Proofs.Ythnfphgjfpcpbaa.TM
namespace Go.Proofs.Ythnfphgjfpcpbaa.TM
open Go
variable {P:Program} {β:Pl} {h:Heap} {w:World}
theorem Pj {t : TypeId} {d : TypeDesc} (hu : P.underlying t = some d) {cs : List PV} {arr : Array Value} {off : Nat} {p : PV} (hl : arr.size = cs.length) (hs : ∀ j x, cs[j]? = some x → Rep β h w x (arr.getD j undef))
    (hp:Vc P t cs off=some p):∃ u,(part t arr off).run P w=.ok u w ∧ Rep β h w p u:=by
  obtain ⟨i,hi⟩:=Fs hu
  unfold Vc at hp
  unfold part
  rw [Sem.run_bind,Wn hu]
  simp only [Result.andThen_ok]
  cases hb:Bq P t with
  | true =>
    simp only [hb,if_true] at hp ⊢
    split at hp
    case isFalse => cases hp
    rename_i hfit
    cases hp
    refine ⟨.agg (arr.extract off (off + B2 P t)),by simp [Dj hi],.agg _ _ (by simp; omega) fun j x hj => ?_⟩
    obtain ⟨hlt,hg⟩:=Dd hj
    have:=hs _ _ hg
    have hj2:off + j < arr.size:=by omega
    simp only [Array.getD_eq_getD_getElem?] at this ⊢
    rw [Array.getElem?_extract]
    rw [if_pos (by omega)]
    exact this
  | false =>
    simp only [hb,Bool.false_eq_true,if_false] at hp ⊢
    have hlt:=(List.getElem?_eq_some_iff.1 hp).1
    have:=hs _ _ hp
    have hlt':off < arr.size:=by omega
    refine ⟨arr[off],by simp [hlt'],?_⟩
    simpa [hlt'] using this
theorem Wc {s:TypeId} {x p:PV} {f:Nat} {v:Value} (hx:Rep β h w x v) (hp:Aj P s x f=some p):∃ u,(Instr.field s v f).run P w=.ok u w ∧ Rep β h w p u:=by
  unfold Aj at hp
  split at hp
  case h_2 => cases hp
  rename_i ty o cs hf
  obtain ⟨fs,q,i,d,hu,hq,rfl,rfl,hi,hpos,hd⟩:=N2 hf
  cases hx with
  | agg cs arr hl hs =>
    obtain ⟨u,hu',hr⟩:=Pj hd hl hs hp
    exact ⟨u,by simp [Instr.field,run_underlying hu,hq,asAgg,hu'],hr⟩
theorem V2 {t:TypeId} {x ix p:PV} {v iv:Value} (hx:Rep β h w x v) (hix:Rep β h w ix iv) (hp:L4 P t x ix=some p):∃ u,(Instr.index t v iv).run P w=.ok u w ∧ Rep β h w p u:=by
  unfold L4 at hp
  split at hp
  case h_3 => cases hp
  · rename_i n e cs i hu hn
    replace hu:=W1 hu
    obtain ⟨k,m,rfl,h0,rfl⟩:=Fq hn hix
    split at hp
    case isFalse => cases hp
    rename_i hc
    obtain ⟨d,hd⟩:=Mq hc.2
    obtain ⟨q,hq⟩:=Fs hd
    cases hx with
    | agg cs arr hl hs =>
      obtain ⟨u,hu',hr⟩:=Pj hd hl hs hp
      have hin:0 ≤ m ∧ m < n:=⟨h0,by omega⟩
      exact ⟨u,by simp [Instr.index,asIntOf,run_underlying hu,hin,Dj hq,hu'],hr⟩
  · rename_i s i hu hn
    replace hu:=Ow hu
    obtain ⟨k,m,rfl,h0,rfl⟩:=Fq hn hix
    split at hp
    case isFalse => cases hp
    rename_i hi
    cases hp
    cases hx with
    | i x v hx =>
      cases hx
      exact ⟨.int .u8 s[m.toNat].toNat,by simp [Instr.index,asIntOf,run_underlying hu,h0,hi],.i _ _ (.v _)⟩
theorem Qw {x p:PV} {v:Value} {ix:Nat} (hx:Rep β h w x v) {vs:List PV} (hvs:x=.tup vs) (hp:vs[ix]?=some p):∃ u,(Instr.extract v ix).run P w=.ok u w ∧ Rep β h w p u:=by
  subst hvs
  cases hx with
  | tup cs arr hl hs =>
    have hlt:=(List.getElem?_eq_some_iff.1 hp).1
    have hlt':ix < arr.size:=by omega
    have:=hs _ _ hp
    refine ⟨arr[ix],by simp [Instr.extract,hlt'],?_⟩
    simpa [hlt'] using this
theorem Tr {op:BinOp} {k:IntKind} {a b:Int} {r:Value} (h1:op ≠ .shl) (h2:op ≠ .shr) (hr:As op k a b=some r) (t:TypeId) (w:World):(binOp op t (.int k a) (.int k b)).run P w=.ok r w:=by
  cases op <;> simp_all [As,binOp,Op.intArith,Op.intDiv,Op.intCmp,Go.intBits_and,Go.intBits_or,Go.intBits_xor,Go.intBits_andNot]
theorem Fi {op:BinOp} {t:TypeId} {x y:Operand} {a b:Value} (ha:∀ cs,a ≠ .agg cs) (hn:a ≠ .nilIface) (w:World):(eqGuard op t x y a b).run P w=.ok () w:=by
  unfold eqGuard
  cases op <;> simp <;> (try (split <;> simp_all))
theorem Qo {op:BinOp} {t:TypeId} {x y:Operand} {a b r:Value} (hr:Ai P op t a b=some r) (w:World):((do eqGuard op t x y a b; binOp op t a b):Sem Value).run P w=.ok r w:=by
  unfold Ai at hr
  split at hr
  · rename_i k i k' j
    rw [Sem.run_bind,Fi (by simp) (by simp)]
    simp only [Result.andThen_ok]
    split at hr
    · split at hr
      · cases hr
      · rename_i hn; cases hr; simp [binOp,Op.shift,hn]
    · split at hr
      · cases hr
      · rename_i hn; cases hr; simp [binOp,Op.shift,hn]
    · split at hr
      · rename_i hk; subst hk
        exact Tr (by assumption) (by assumption) hr t w
      · cases hr
  · rename_i i j
    rw [Sem.run_bind,Fi (by simp) (by simp)]
    simp only [Result.andThen_ok]
    split at hr
    · rename_i hu; cases hr
      show ((do pure (.bool (← Op.equal t (.bool i) (.bool j)))):Sem Value).run P w=_
      rw [Sem.run_bind,run_equal_bool w t i j (Zm hu)]; rfl
    · rename_i hu; cases hr
      show ((do pure (.bool (!(← Op.equal t (.bool i) (.bool j))))):Sem Value).run P w=_
      rw [Sem.run_bind,run_equal_bool w t i j (Zm hu)]; rfl
    · cases hr
  · rename_i i j
    rw [Sem.run_bind,Fi (by simp) (by simp)]
    simp only [Result.andThen_ok]
    split at hr
    · cases hr; rfl
    · cases hr; rfl
    · cases hr
  · cases hr
theorem S5 {op:UnOp} {a r:Value} (hr:Ar op a=some r) (w:World):(Op.unary op a).run P w=.ok r w:=by
  unfold Ar at hr
  split at hr <;> first|(cases hr; rfl)|cases hr
theorem Ap4 {R:Addr → Value → Prop} {x v:Value} (h:RepI R (.v x) v):v=x:=by cases h; rfl
theorem Cj {x:Value} {v:Value} (hx:Rep β h w (.i (.v x)) v):v=x:=by
  cases hx with|i _ _ hx => cases hx; rfl
theorem Kk:∀ {cs:List IV} {l:List UInt8},G3 cs=some l → ∃ ns:List Int,cs=ns.map (fun n => IV.v (.int .u8 n)) ∧ l=ns.map (fun n => UInt8.ofNat n.toNat)
  | [],l,h => by cases h; exact ⟨[],rfl,rfl⟩
  | c::cs,l,h => by
    unfold G3 at h
    split at h
    · rename_i heq; cases heq
    · rename_i n cs' heq
      cases heq
      cases hb:G3 cs with
      | none => simp [hb] at h
      | some l' =>
        simp [hb] at h
        subst h
        obtain ⟨ns,rfl,rfl⟩:=Kk hb
        exact ⟨n::ns,rfl,rfl⟩
    · cases h
theorem Yh (ns:List Int):∀ s:ByteArray,ns.foldl (fun r n => r.push (UInt8.ofNat n.toNat)) s=⟨s.data ++ (ns.map (fun n => UInt8.ofNat n.toNat)).toArray⟩:=by
  induction ns with
  | nil => intro s; simp
  | cons n ns ih =>
    intro s
    rw [List.foldl_cons,ih]
    simp [ByteArray.push]
theorem Qz (H:HInv β h w) {src dst:TypeId} {x p:PV} {v:Value} (hx:Rep β h w x v) (hp:Ab P h src dst x=some p):∃ u,(convert src dst v).run P w=.ok u w ∧ Rep β h w p u:=by
  unfold Ab at hp
  split at hp
  · rename_i tk k k' n hs hd
    obtain ⟨d,hs,_⟩:=G5 hs
    replace hd:=Am8 hd
    cases hp
    rw [Cj hx]
    refine ⟨_,?_,.i _ _ (.v _)⟩
    simp [convert,run_underlying hs,run_underlying hd,Conv.intToInt]
  · rename_i s hs hd
    replace hs:=Ow hs
    replace hd:=Ow hd
    cases hp
    rw [Cj hx]
    refine ⟨_,?_,.i _ _ (.v _)⟩
    simp [convert,run_underlying hs,run_underlying hd]
  · rename_i e hs hd
    replace hs:=Ox hs
    replace hd:=Ow hd
    unfold L5 at hp
    split at hp
    case h_2 => cases hp
    rename_i k he hk
    replace he:=Am8 he
    split at hp
    case h_2 => cases hp
    rename_i cs hc
    cases hb:G3 cs with
    | none => simp [hb] at hp
    | some l =>
      simp [hb] at hp
      subst hp
      obtain ⟨ns,rfl,rfl⟩:=Kk hb
      obtain ⟨hlen,hcase⟩:=O3 H hk hc hx
      simp only [List.length_map,Nat.mul_one] at hlen
      rcases hcase with ⟨hnil,cap,rfl⟩|⟨a,cap,rfl,f,hf,h1,hr⟩
      · have:ns=[]:=by simpa using hnil
        subst this
        exact ⟨.string .empty,by rw [run_convert_bytes_string w src dst e _ _ _ hs he hd]; rfl,.i _ _ (.v _)⟩
      · refine ⟨_,?_,.i _ _ (.v _)⟩
        rw [run_convert_bytes_string w src dst e _ _ _ hs he hd,run_bytesToString w a k.len cap ns ?_,Yh]
        · simp [show ByteArray.empty.data=#[] from rfl]
        · have:=run_loadCells_list (P:=P) w a (ns.map (Value.int .u8)) (fun j v hj => by
            rw [List.getElem?_map] at hj
            cases hg:ns[j]? with
            | none => simp [hg] at hj
            | some n =>
              simp [hg] at hj
              have hlt:=(List.getElem?_eq_some_iff.1 hg).1
              have h2:=hr j (.v (.int .u8 n)) (by simp [hg])
              rw [hf j (by simpa using hlt),Ap4 h2,← hj])
          simpa [hlen] using this
  · cases hp
theorem Ag8 {t ty:TypeId} {x p:PV} {v:Value} (hx:Rep β h w x v) (hp:A5 P t x=some p):∃ u,(Builtin.len_ #[t] ty #[v]).run P w=.ok u w ∧ Rep β h w p u:=by
  unfold A5 at hp
  split at hp
  · rename_i e hu
    replace hu:=Ox hu
    cases hk:x.sk with
    | none => simp [hk] at hp
    | some k =>
      simp [hk] at hp
      subst hp
      obtain ⟨a,cap,rfl,_,_⟩:=Jz hk hx
      exact ⟨_,by simp only [Builtin.len_]; simp [run_underlying hu]; rfl,.i _ _ (.v _)⟩
  · rename_i n e hu
    replace hu:=W1 hu
    cases hp
    exact ⟨_,by cases v <;> simp [Builtin.len_,run_underlying hu,goInt] <;> rfl,.i _ _ (.v _)⟩
  · rename_i hu
    replace hu:=Ow hu
    split at hp
    · cases hp
      rw [Cj hx]
      exact ⟨_,by simp only [Builtin.len_]; simp [run_underlying hu]; rfl,.i _ _ (.v _)⟩
    · cases hp
  · cases hp
end Go.Proofs.Ythnfphgjfpcpbaa.TM
namespace Go.Proofs.Ythnfphgjfpcpbaa.TM
open Go
variable {P:Program} {β:Pl} {h:Heap} {w:World}
theorem Fp {p:PV} (ho:A9 p=true) {v:Value} (hp:Rep β h w p v):v.oneCell'=true:=by
  cases hp with
  | i x v hx => cases hx with
    | v x => exact ho
    | nil => rfl
    | l => rfl
  | view => rfl
  | ref => rfl
  | clo => rfl
  | mref => rfl
  | zip => rfl
  | iref => simp [A9] at ho
  | agg => simp [A9] at ho
  | tup => simp [A9] at ho
  | dead => simp [A9] at ho
theorem Ty {v:Value} (h:v.oneCell'=true):v.cells=#[v]:=by
  cases v <;> first|rfl|simp [Value.oneCell'] at h
theorem Ky {p:PV} (ho:(Am p).all A9=true) {v:Value} (hp:Rep β h w p v) :
    v.cells.size=(Am p).length ∧ (∀ j x,(Am p)[j]?=some x → Rep β h w x (v.cells.getD j undef)) ∧ ∀ u ∈ v.cells.toList,u.oneCell'=true:=by
  have key:v.cells.size=(Am p).length ∧ (∀ j x,(Am p)[j]?=some x → Rep β h w x (v.cells.getD j undef)):=by
    cases hp with
    | agg cs arr hl hs => exact ⟨hl,hs⟩
    | i x v hx =>
      have h1:v.oneCell'=true:=Fp (by simpa [Am] using ho) (.i x v hx:Rep β h w _ _)
      rw [Ty h1]
      refine ⟨rfl,fun j y hj => ?_⟩
      cases j with
      | zero => simp [Am] at hj; subst hj; exact .i _ _ hx
      | succ j => simp [Am] at hj
    | view b off z n top x a cap hb hrow ht hn ha hv =>
      refine ⟨rfl,fun j y hj => ?_⟩
      cases j with
      | zero => simp [Am] at hj; subst hj; exact .view b off z n top x a cap hb hrow ht hn ha hv
      | succ j => simp [Am] at hj
    | ref b off top x a hb ht hv =>
      refine ⟨rfl,fun j y hj => ?_⟩
      cases j with
      | zero => simp [Am] at hj; subst hj; exact .ref b off top x a hb ht hv
      | succ j => simp [Am] at hj
    | clo f cs arr hl hs =>
      refine ⟨rfl,fun j y hj => ?_⟩
      cases j with
      | zero => simp [Am] at hj; subst hj; exact .clo f cs arr hl hs
      | succ j => simp [Am] at hj
    | mref b x hb hm =>
      refine ⟨rfl,fun j y hj => ?_⟩
      cases j with
      | zero => simp [Am] at hj; subst hj; exact .mref b x hb hm
      | succ j => simp [Am] at hj
    | zip a =>
      refine ⟨rfl,fun j y hj => ?_⟩
      cases j with
      | zero => simp [Am] at hj; subst hj; exact .zip a
      | succ j => simp [Am] at hj
    | iref => simp [Am,A9] at ho
    | tup => simp [Am,A9] at ho
    | dead => simp [Am,A9] at ho
  refine ⟨key.1,key.2,fun u hu => ?_⟩
  obtain ⟨j,hj⟩:=List.getElem?_of_mem hu
  have hlt:j < v.cells.size:=by simpa using (List.getElem?_eq_some_iff.1 hj).1
  have hlt':j < (Am p).length:=by rw [← key.1]; exact hlt
  have hr:=key.2 j _ (List.getElem?_eq_getElem hlt')
  have:v.cells.getD j undef=u:=by
    have:v.cells[j]?=some u:=by simpa using hj
    simp [this]
  rw [this] at hr
  exact Fp (List.all_eq_true.1 ho _ (List.getElem_mem hlt')) hr
theorem Fo {α:Type} {cs vs:List α} {off:Nat} (hf:off + vs.length ≤ cs.length) (j:Nat) :
    (Cf cs off vs)[j]?=if off ≤ j ∧ j < off + vs.length then vs[j - off]? else cs[j]?:=by
  unfold Cf
  rw [List.append_assoc,List.getElem?_append]
  have h1:(cs.take off).length=off:=by simp; omega
  rw [h1]
  by_cases hj:j < off
  · rw [if_pos hj,if_neg (by omega),List.getElem?_take,if_pos hj]
  · rw [if_neg hj,List.getElem?_append]
    by_cases hj2:j - off < vs.length
    · rw [if_pos hj2,if_pos (by omega)]
    · rw [if_neg hj2,if_neg (by omega),List.getElem?_drop]
      congr 1
      omega
theorem C6 {α:Type} {cs vs:List α} {off:Nat} (hf:off + vs.length ≤ cs.length):(Cf cs off vs).length=cs.length:=by
  simp [Cf]; omega
theorem E4 {c:Array Value} {vs:List Value} {off:Nat} (hf:off + vs.length ≤ c.size) (j:Nat) :
    (Cf c.toList off vs).toArray.getD j undef=if off ≤ j ∧ j < off + vs.length then vs.getD (j - off) undef else c.getD j undef:=by
  have:=Fo (cs:=c.toList) (vs:=vs) (off:=off) (by simpa using hf) j
  rw [Array.getD_eq_getD_getElem?,List.getElem?_toArray,this]
  split
  · rw [List.getD_eq_getElem?_getD]
  · simp
theorem Su {p:PV} {x:IV} {us:List (Name × Box)} (ht:Ba h p=some (x,us)):Freezes h us:=by
  unfold Ba at ht
  split at ht
  · cases ht; intro u hu; cases hu
  · cases ht; intro u hu; cases hu
  · rename_i b off z n top
    split at ht
    · rename_i fz cs hb
      split at ht
      · cases ht
        intro u hu
        simp at hu; subst hu
        exact ⟨fz,cs,hb,rfl⟩
      · cases ht
    · cases ht
  · cases ht
theorem F8:∀ {ps:List PV} {xs:List IV} {us:List (Name × Box)},Id h ps=some (xs,us) → Freezes h us
  | [],xs,us,ht => by cases ht; intro u hu; cases hu
  | p::ps,xs,us,ht => by
    unfold Id at ht
    split at ht
    · rename_i x u xs' us' h1 h2
      cases ht
      intro v hv
      rcases List.mem_append.1 hv with hv|hv
      · exact Su h1 v hv
      · exact F8 h2 v hv
    · cases ht
theorem Am7 (H : HInv β h w) {p : PV} {x : IV} {us : List (Name × Box)} (ht : Ba h p = some (x, us)) {v : Value} (hp : Rep β h w p v) {h' : Heap} (H' : HInv β h' w) (E : Ext β h w β h' w)
    (hu:∀ u ∈ us,h' u.1=some u.2):RepI (Rd β h' w) x v:=by
  unfold Ba at ht
  split at ht
  · cases ht
    cases hp with|i x v hx => exact hx.mono fun a v => Rd.mono E
  · cases ht
    cases hp with
    | zip a =>
      cases a with
      | none => exact .nil
      | some a => exact .l _ _ a 0 (fun _ => undef) (Nat.le_refl _) (fun j hj => by simp at hj) (fun j hj => by simp at hj) (fun j y hj => by simp at hj)
  · rename_i b off z n top
    split at ht
    · rename_i fz cs hb
      split at ht
      · rename_i hc
        cases ht
        have hu':=hu _ (List.mem_singleton.2 rfl)
        simp only at hu'
        have hp':=RepP.mono H E hp
        cases hp' with
        | view b off z n top x' a cap hb' hrow ht' hn ha hv =>
          rw [hu'] at hb'; cases hb'
          rcases hv hc.1 with ⟨h0,hc0,_⟩|⟨h0,hs0,_⟩
          · subst h0
            cases a with
            | none => simpa [hc0] using (RepI.nil:RepI (Rd β h' w) (.l 0 []) (.slice none 0 0))
            | some a => exact .l _ _ a cap (fun _ => undef) hn (fun j hj => by simp at hj) (fun j hj => by simp at hj) (fun j y hj => by simp at hj)
          · subst h0
            obtain ⟨c,e,hcc,hr,hcell⟩:=Ek H' hu'
            have hlen:((cs.drop off).take (n * z)).length=n * z:=by simp; omega
            refine .l _ _ _ cap (fun j => c.getD (off + j) undef) hn (fun j hj => ⟨?_,?_⟩) (fun j hj => ?_) (fun j y hj => ?_)
            · rw [add_lit]
              refine ⟨H'.nf _ _ hu',?_⟩
              intro b2 y hb2 ho he
              have:=H'.inj b2 b y _ hb2 hu' he
              subst this
              rw [hu'] at hb2; cases hb2
              simp [Box.open] at ho
            · rw [add_lit]; exact hcell _ (by have:=hr.1; omega)
            · have hlt:off + j < cs.length:=by omega
              exact (hr.2 (off + j) cs[off + j] (List.getElem?_eq_getElem hlt)).1
            · exact (hr.2 _ _ (Dd hj).2).2
      · cases ht
    · cases ht
  · cases ht
theorem Kp (H:HInv β h w) {h':Heap} (H':HInv β h' w) (E:Ext β h w β h' w):∀ {ps:List PV} {xs:List IV} {us:List (Name × Box)},Id h ps=some (xs,us) → (∀ u ∈ us,h' u.1=some u.2) →
    xs.length=ps.length ∧ ∀ (j:Nat) (p:PV) (x:IV) (v:Value),ps[j]?=some p → xs[j]?=some x → Rep β h w p v → RepI (Rd β h' w) x v
  | [],xs,us,ht,_ => by
    cases ht
    refine ⟨rfl,?_⟩
    intro j p x v hj
    simp at hj
  | p::ps,xs,us,ht,hu => by
    unfold Id at ht
    split at ht
    · rename_i x u xs' us' h1 h2
      cases ht
      obtain ⟨hl,hr⟩:=Kp H H' E h2 fun u hu' => hu u (List.mem_append.2 (.inr hu'))
      refine ⟨by simp [hl],fun j q y v hj hy hq => ?_⟩
      cases j with
      | zero =>
        simp at hj hy; subst hj; subst hy
        exact Am7 H h1 hq H' E fun u hu' => hu u (List.mem_append.2 (.inl hu'))
      | succ j => simp at hj hy; exact hr j q y v hj hy hq
    · cases ht
theorem Ll (H:HInv β h w) {us:List (Name × Box)} (hF:Freezes h us):∀ u ∈ us,h.ups us u.1=some u.2:=by
  intro u hu
  obtain ⟨fz,cs,hb,he⟩:=hF u hu
  obtain ⟨_,_,_,hy⟩:=freezes us H hF
  obtain ⟨fz',cs',h3,h4⟩:=hy u.1 (List.mem_map_of_mem hu)
  rw [hb] at h3; cases h3
  rw [h4,he]
def Does (P:Program) (β:Pl) (h:Heap) (w:World) {α:Type} (s:Sem α) (us:List (Name × Box)) (R:Pl → Heap → World → α → Prop):Prop :=
  ∃ β' w' v,s.run P w=.ok v w' ∧ HInv β' (h.ups us) w' ∧ Ext β h w β' (h.ups us) w' ∧ R β' (h.ups us) w' v
theorem Uo (H:HInv β h w) {t:TypeId} {i:TypeInfo} (hi:P.info? t=some i) {x p:PV} {a v:Value} (hx:Rep β h w x a) (hv:Rep β h w p v) {us:List (Name × Box)} (hp:Ah P h t x p=some us) :
    Does P β h w (Instr.storeAt t a v) us fun _ _ _ _ => True:=by
  unfold Ah at hp
  cases hx with
  | ref b off top x a hb ht hva =>
    simp only [hb] at hp
    have hmap:x.isMap=false:=by
      cases x with
      | map => simp at hp
      | _ => rfl
    obtain ⟨c,e,hc,hr,hcell⟩:=Ek H hb hmap
    cases x with
    | map => cases hmap
    | var cs =>
      simp only at hp
      split at hp
      case isFalse => cases hp
      rename_i hcond
      obtain ⟨h1,h2,h3,h4⟩:=hcond
      cases hp
      obtain ⟨hsz,hcr,hone⟩:=Ky h4 hv
      have ha:=hva h1; subst ha
      have hfit:off + v.cells.toList.length ≤ c.size:=by have:=hr.1; simp; omega
      have hst:=run_storeCells_at P (β b) off e v.cells.toList 0 c w hc (by simpa using hfit) hone
      simp only [Nat.add_zero] at hst
      have hsp:(Cf c.toList off v.cells.toList).toArray.size=c.size:=by simp [C6 (cs:=c.toList) (vs:=v.cells.toList) (off:=off) (by simpa using hfit)]
      have hx':(Box.var (Cf cs off (Am p))).len=(Box.var cs).len:=by simp [Box.len,C6 (cs:=cs) (vs:=Am p) (off:=off) (by omega)]
      have E:=Ext.write (x':=.var (Cf cs off (Am p))) H hb rfl rfl hc hsp rfl (Nat.le_of_eq hx'.symm)
      refine ⟨β,_,(),?_,?_,E,trivial⟩
      · simp only [Instr.storeAt,Instr.sureAddr,Sem.run_bind,Sem.run_pure,Result.andThen_ok,storeVar,Dj hi]
        rw [if_neg (by omega)]
        simpa [Cf] using hst
      · refine HInv.write H hb rfl rfl hc hsp rfl (Nat.le_of_eq hx'.symm) ⟨?_,fun j y hj => ?_⟩
        · rw [hsp,C6 (by omega)]; exact hr.1
        · rw [E4 hfit]
          rw [Fo (by omega)] at hj
          have hvl:v.cells.toList.length=(Am p).length:=by simpa using hsz
          rw [hvl]
          split at hj
          · rename_i hin
            rw [if_pos hin]
            have h5:=hcr _ _ hj
            have h6:v.cells.toList.getD (j - off) undef=v.cells.getD (j - off) undef:=by simp
            rw [h6]
            exact ⟨Fp (List.all_eq_true.1 h4 _ (List.mem_of_getElem? hj)) h5,RepP.mono H E h5⟩
          · rename_i hin
            rw [if_neg hin]
            exact ⟨(hr.2 j y hj).1,RepP.mono H E (hr.2 j y hj).2⟩
    | row fz cs =>
      cases fz with
      | true => cases hp
      | false =>
        simp only at hp
        split at hp
        case h_2 => cases hp
        rename_i vs us' hiv
        split at hp
        case isFalse => cases hp
        rename_i hcond
        obtain ⟨h1,h2,h3,h4,h5⟩:=hcond
        cases hp
        have hF:=F8 hiv
        obtain ⟨E0,H0,hnot,_⟩:=freezes us' H hF
        have hbn:b ∉ us'.map (·.1):=fun hm => by
          obtain ⟨u,hu,he⟩:=List.mem_map.1 hm
          have:=List.all_eq_true.1 h5 u hu
          simp [he] at this
        have hb0:h.ups us' b=some (.row false cs):=by rw [hnot b hbn]; exact hb
        obtain ⟨hl,hri⟩:=Kp H H0 E0 hiv (Ll H hF)
        obtain ⟨hsz,hcr,hone⟩:=Ky h4 hv
        have ha:=hva h1; subst ha
        obtain ⟨c0,e0,hc0,hr0⟩:=H0.cells hb0 rfl
        rw [hc] at hc0; cases hc0
        have hfit:off + v.cells.toList.length ≤ c.size:=by have:=hr.1; simp; omega
        have hst:=run_storeCells_at P (β b) off e v.cells.toList 0 c w hc (by simpa using hfit) hone
        simp only [Nat.add_zero] at hst
        have hsp:(Cf c.toList off v.cells.toList).toArray.size=c.size:=by simp [C6 (cs:=c.toList) (vs:=v.cells.toList) (off:=off) (by simpa using hfit)]
        have hx':(Box.row false (Cf cs off vs)).len=(Box.row false cs).len:=by simp [Box.len,C6 (cs:=cs) (vs:=vs) (off:=off) (by omega)]
        have E:=Ext.write (x':=.row false (Cf cs off vs)) H0 hb0 rfl rfl hc hsp rfl (Nat.le_of_eq hx'.symm)
        unfold Does
        rw [Heap.ups_append,Heap.ups_cons,Heap.ups_nil]
        refine ⟨β,_,(),?_,?_,E0.trans E,trivial⟩
        · simp only [Instr.storeAt,Instr.sureAddr,Sem.run_bind,Sem.run_pure,Result.andThen_ok,storeVar,Dj hi]
          rw [if_neg (by omega)]
          simpa [Cf] using hst
        · refine HInv.write H0 hb0 rfl rfl hc hsp rfl (Nat.le_of_eq hx'.symm) ⟨?_,fun j y hj => ?_⟩
          · rw [hsp,C6 (by omega)]; exact hr.1
          · rw [E4 hfit]
            rw [Fo (by omega)] at hj
            have hvl:v.cells.toList.length=vs.length:=by simp; omega
            rw [hvl]
            split at hj
            · rename_i hin
              rw [if_pos hin]
              have hlt:=(List.getElem?_eq_some_iff.1 hj).1
              have hlt':j - off < (Am p).length:=by omega
              have h6:v.cells.toList.getD (j - off) undef=v.cells.getD (j - off) undef:=by simp
              rw [h6]
              have h7:=hcr _ _ (List.getElem?_eq_getElem hlt')
              exact ⟨Fp (List.all_eq_true.1 h4 _ (List.getElem_mem hlt')) h7,(hri _ _ _ _ (List.getElem?_eq_getElem hlt') hj h7).mono fun a v => Rd.mono E⟩
            · rename_i hin
              rw [if_neg hin]
              exact ⟨(hr0.2 j y hj).1,(hr0.2 j y hj).2.mono fun a v => Rd.mono E⟩
  | _ => simp at hp
end Go.Proofs.Ythnfphgjfpcpbaa.TM
namespace Go.Proofs.Ythnfphgjfpcpbaa.TM
open Go
variable {P:Program} {β:Pl} {h:Heap} {w:World}
theorem Dp {s:Name} {x:Box} {v:PV} {us:List (Name × Box)} {o:Out} (hn:Ec h s x v us=some o):h s=none ∧ o=⟨v,us ++ [(s,x)]⟩:=by
  unfold Ec at hn
  split at hn
  · cases hn; exact ⟨by assumption,rfl⟩
  · cases hn
theorem Z1 (H:HInv β h w) {s:Name} (hs:h s=none) {cs:List PV} {c:Array Value} (e:TypeId) (hl:c.size=cs.length) (hc:∀ j x,cs[j]?=some x → Rep β h w x (c.getD j undef)) (h1:∀ u ∈ c.toList,u.oneCell'=true) :
    HInv (setβ β s w.heap.size) (h.put s (.var cs)) (w.alloc (.cells c e)) ∧ Ext β h w (setβ β s w.heap.size) (h.put s (.var cs)) (w.alloc (.cells c e)) ∧
    Rep (setβ β s w.heap.size) (h.put s (.var cs)) (w.alloc (.cells c e)) (.ref s 0 cs.length) (.pointer (some ⟨w.heap.size,0,none⟩)):=by
  have E:=Ext.new (β:=β) (w:=w) hs (.var cs) (.cells c e)
  refine ⟨HInv.new H hs _ c e ⟨by omega,fun j y hj => ⟨?_,RepP.mono H E (hc j y hj)⟩⟩,E,?_⟩
  · have hlt:j < c.size:=by rw [hl]; exact (List.getElem?_eq_some_iff.1 hj).1
    refine h1 _ ?_
    simp [hlt]
  · refine .ref _ _ _ (.var cs) _ (Heap.put_same _ _ _) (Nat.le_refl _) fun _ => ?_
    rw [Cu]
theorem Kv (H:HInv β h w) {s:Name} (hs:h s=none) {cs:List IV} {c:Array Value} (e:TypeId) (hl:cs.length ≤ c.size) (hc:∀ j x,cs[j]?=some x → (c.getD j undef).oneCell'=true ∧ RepI (Rd β h w) x (c.getD j undef)) :
    HInv (setβ β s w.heap.size) (h.put s (.row false cs)) (w.alloc (.cells c e)) ∧ Ext β h w (setβ β s w.heap.size) (h.put s (.row false cs)) (w.alloc (.cells c e)) ∧
    Rep (setβ β s w.heap.size) (h.put s (.row false cs)) (w.alloc (.cells c e)) (.ref s 0 cs.length) (.pointer (some ⟨w.heap.size,0,none⟩)) ∧
    (∀ z n cap,n ≤ cap → cap * z ≤ c.size → cs.length ≤ cap * z → Rep (setβ β s w.heap.size) (h.put s (.row false cs)) (w.alloc (.cells c e)) (.view s 0 z n cs.length) (.slice (some ⟨w.heap.size,0,none⟩) n cap)):=by
  have E:=Ext.new (β:=β) (w:=w) hs (.row false cs) (.cells c e)
  refine ⟨HInv.new H hs _ c e ⟨hl,fun j y hj => ⟨(hc j y hj).1,(hc j y hj).2.mono fun a v => Rd.mono E⟩⟩,E,?_,fun z n cap hn hz hq => ?_⟩
  · refine .ref _ _ _ (.row false cs) _ (Heap.put_same _ _ _) (Nat.le_refl _) fun _ => ?_
    rw [Cu]
  · refine .view _ _ _ _ _ (.row false cs) _ _ (Heap.put_same _ _ _) rfl (Nat.le_refl _) hn (fun he => by cases he) fun _ => .inr ⟨?_,?_,by simpa using hq⟩
    · rw [Cu]
    · rw [Cu]
      unfold szW
      rw [heap_alloc_new]
      simpa using hz
theorem Ak0 (H:HInv β h w) {t:TypeId} {s:Name} {p:PV} {v:Value} (hp:Rep β h w p v) {o:Out} (ho:Pn P h s t p=some o):Does P β h w (Instr.box t v) o.ups fun β h w u => Rep β h w o.val u:=by
  unfold Pn at ho
  split at ho
  case isFalse => cases ho
  rename_i hone
  obtain ⟨hsz,hcr,h1⟩:=Ky hone hp
  split at ho
  · split at ho
    case h_2 => cases ho
    rename_i vs us hiv
    obtain ⟨hs,rfl⟩:=Dp ho
    have hF:=F8 hiv
    obtain ⟨E0,H0,hnot,_⟩:=freezes us H hF
    obtain ⟨hl,hri⟩:=Kp H H0 E0 hiv (Ll H hF)
    have hs0:h.ups us s=none:=by
      rw [hnot s fun hm => ?_]; exact hs
      obtain ⟨u,hu,he⟩:=List.mem_map.1 hm
      obtain ⟨fz,cs,hb,_⟩:=hF u hu
      rw [he,hs] at hb; cases hb
    obtain ⟨H1,E1,R1,_⟩:=Kv (cs:=vs) (c:=v.cells) H0 hs0 t (by omega) (fun j x hj => by
      have hlt:j < (Am p).length:=by rw [← hl]; exact (List.getElem?_eq_some_iff.1 hj).1
      have h7:=hcr _ _ (List.getElem?_eq_getElem hlt)
      exact ⟨Fp (List.all_eq_true.1 hone _ (List.getElem_mem hlt)) h7,hri _ _ _ _ (List.getElem?_eq_getElem hlt) hj h7⟩)
    unfold Does
    simp only [Heap.ups_append,Heap.ups_cons,Heap.ups_nil]
    exact ⟨_,_,_,rfl,H1,E0.trans E1,R1⟩
  · obtain ⟨hs,rfl⟩:=Dp ho
    obtain ⟨H1,E1,R1⟩:=Z1 (cs:=Am p) (c:=v.cells) H hs t hsz hcr h1
    exact ⟨_,_,_,rfl,H1,E1,R1⟩
theorem Ez {t:TypeId} {zs:List Value} (hz:B6 P t=some zs):∃ (i:TypeInfo) (z:Value),P.info? t=some i ∧ i.zero=some z ∧ z.cells.size=i.size ∧ zs=z.cells.toList ∧ zs.length=B2 P t:=by
  unfold B6 at hz
  split at hz
  case h_2 => cases hz
  rename_i i hi
  split at hz
  case h_2 => cases hz
  rename_i z hzz
  split at hz
  case isFalse => cases hz
  rename_i hsz
  cases hz
  exact ⟨i,z,hi,hzz,hsz,rfl,by simp [B2,Program.cellsOf,hi,hsz]⟩
theorem Wl (H:HInv β h w) {t:TypeId} {s:Name} {o:Out} (ho:I4 P h s t=some o):Does P β h w (Instr.alloc t true (.tuple #[])) o.ups fun β h w u => Rep β h w o.val u:=by
  unfold I4 at ho
  split at ho
  case h_2 => cases ho
  rename_i zs hz
  obtain ⟨i,z,hi,hzz,hsz,rfl,hlen⟩:=Ez hz
  split at ho
  case isFalse => cases ho
  rename_i hall
  have h1:∀ u ∈ z.cells.toList,u.oneCell'=true:=fun u hu => List.all_eq_true.1 hall u hu
  have hrun:(Instr.alloc t true (.tuple #[])).run P w=.ok (.pointer (some ⟨w.heap.size,0,none⟩)) (w.alloc (.cells z.cells t)):=by
    simp [Instr.alloc,zeroValue,typeInfo,hi,hzz,newVar,newRow]
  split at ho
  · obtain ⟨hs,rfl⟩:=Dp ho
    obtain ⟨H1,E1,R1,_⟩:=Kv (cs:=z.cells.toList.map .v) (c:=z.cells) H hs t (by simp) (fun j x hj => by
      rw [List.getElem?_map] at hj
      cases hg:z.cells.toList[j]? with
      | none => simp [hg] at hj
      | some u =>
        simp [hg] at hj; subst hj
        have : z.cells.getD j undef = u := by have : z.cells[j]? = some u := by simpa using hg
                                              simp [this]
        rw [this]
        exact ⟨h1 u (List.mem_of_getElem? hg),.v u⟩)
    simp only [List.length_map] at R1
    exact ⟨_,_,_,hrun,H1,E1,R1⟩
  · obtain ⟨hs,rfl⟩:=Dp ho
    obtain ⟨H1,E1,R1⟩:=Z1 (cs:=z.cells.toList.map fun x => .i (.v x)) (c:=z.cells) H hs t (by simp) (fun j x hj => by
      rw [List.getElem?_map] at hj
      cases hg:z.cells.toList[j]? with
      | none => simp [hg] at hj
      | some u =>
        simp [hg] at hj; subst hj
        have : z.cells.getD j undef = u := by have : z.cells[j]? = some u := by simpa using hg
                                              simp [this]
        rw [this]
        exact .i _ _ (.v u)) h1
    simp only [List.length_map] at R1
    exact ⟨_,_,_,hrun,H1,E1,R1⟩
end Go.Proofs.Ythnfphgjfpcpbaa.TM
namespace Go.Proofs.Ythnfphgjfpcpbaa.TM
open Go
variable {P:Program} {β:Pl} {h:Heap} {w:World}
theorem Mg (off:Nat):∀ (l:List Value) (k:Nat) (c:Array Value),off + k + l.length ≤ c.size →
    ((l.zipIdx k).foldl (fun cs (x:Value × Nat) => cs.setIfInBounds (off + x.2) x.1) c).size=c.size ∧
    ∀ j,((l.zipIdx k).foldl (fun cs (x:Value × Nat) => cs.setIfInBounds (off + x.2) x.1) c)[j]?=if off + k ≤ j ∧ j < off + k + l.length then l[j - (off + k)]? else c[j]?
  | [],k,c,_ => ⟨rfl,fun j => by rw [if_neg (by simp only [List.length_nil]; omega)]; rfl⟩
  | v::l,k,c,hf => by
    simp only [List.zipIdx_cons,List.foldl_cons]
    have ih:=Mg off l (k + 1) (c.setIfInBounds (off + k) v) (by simp at hf ⊢; omega)
    refine ⟨by rw [ih.1]; simp,fun j => ?_⟩
    rw [ih.2 j]
    simp only [List.length_cons] at hf ⊢
    by_cases h1:j=off + k
    · subst h1
      rw [if_neg (by omega),if_pos (by omega)]
      have hlt:off + k < c.size:=by omega
      simp [hlt]
    · by_cases h2:off + k ≤ j ∧ j < off + k + (l.length + 1)
      · rw [if_pos (by omega),if_pos h2]
        rw [show j - (off + k)=(j - (off + (k + 1))) + 1 by omega,List.getElem?_cons_succ]
      · rw [if_neg (by omega),if_neg h2,Array.getElem?_setIfInBounds_ne (Ne.symm h1)]
theorem At3 {vs:Array Value} {c:Array Value} {off:Nat} (hf:off + vs.size ≤ c.size) :
    vs.zipIdx.foldl (fun cs (x:Value × Nat) => cs.setIfInBounds (off + x.2) x.1) c=(Cf c.toList off vs.toList).toArray:=by
  have key:=Mg off vs.toList 0 c (by simpa using hf)
  have hz:vs.zipIdx.foldl (fun cs (x:Value × Nat) => cs.setIfInBounds (off + x.2) x.1) c=(vs.toList.zipIdx 0).foldl (fun cs (x:Value × Nat) => cs.setIfInBounds (off + x.2) x.1) c:=by
    rw [← Array.foldl_toList]; simp
  rw [hz]
  apply Array.ext_getElem?
  intro j
  rw [key.2 j]
  simp only [Nat.add_zero,List.getElem?_toArray]
  rw [Fo (by simpa using hf)]
  simp
structure Parts (β:Pl) (h:Heap) (w:World) (L:List (Nat × PV × Value)):Prop where
  rep:∀ q ∈ L,Rep β h w q.2.1 q.2.2
theorem Ji (pl:Nat → Option (Nat × Nat)):∀ (L:List (Nat × PV × Value)) (cs cs':List PV) (c:Array Value),Parts β h w L → c.size=cs.length → (∀ j x,cs[j]?=some x → Rep β h w x (c.getD j undef)) → (∀ u ∈ c.toList,u.oneCell'=true) → (cs.all A9=true) →
    Jr pl (L.map fun q => (q.1,q.2.1)) cs=some cs' →
    ∃ c',Instr.fill pl c (L.map fun q => (q.1,q.2.2))=some c' ∧ c'.size=cs'.length ∧ cs'.length=cs.length ∧ (∀ j x,cs'[j]?=some x → Rep β h w x (c'.getD j undef)) ∧ (∀ u ∈ c'.toList,u.oneCell'=true) ∧ cs'.all A9=true
  | [],cs,cs',c,_,hl,hr,h1,ho,hf => by cases hf; exact ⟨c,rfl,hl,rfl,hr,h1,ho⟩
  | (i,p,v)::L,cs,cs',c,hL,hl,hr,h1,ho,hf => by
    simp only [List.map_cons] at hf ⊢
    unfold Jr at hf
    split at hf
    case h_2 => cases hf
    rename_i off size hpl
    split at hf
    case isFalse => cases hf
    rename_i hc
    obtain ⟨hc1,hc2,hc3⟩:=hc
    have hpr:Rep β h w p v:=hL.rep (i,p,v) (by simp)
    obtain ⟨hsz,hcr,hone⟩:=Ky hc3 hpr
    have hfit:off + v.cells.size ≤ c.size:=by omega
    have hsp:=C6 (cs:=c.toList) (vs:=v.cells.toList) (off:=off) (by simpa using hfit)
    have hsp2:=C6 (cs:=cs) (vs:=Am p) (off:=off) (by omega)
    obtain ⟨c',hfill,hsz',hlen',hr',h1',ho'⟩:=Ji pl L (Cf cs off (Am p)) cs' (Cf c.toList off v.cells.toList).toArray ⟨fun q hq => hL.rep q (by simp [hq])⟩
      (by simp [hsp,hsp2]; exact hl) (fun j x hj => by
        rw [E4 (by simpa using hfit)]
        rw [Fo (by omega)] at hj
        have hvl:v.cells.toList.length=(Am p).length:=by simpa using hsz
        rw [hvl]
        split at hj
        · rename_i hin
          rw [if_pos hin]
          have:=hcr _ _ hj
          simpa using this
        · rename_i hin
          rw [if_neg hin]
          exact hr j x hj) (fun u hu => by
        simp only [Cf,List.append_assoc] at hu
        rcases List.mem_append.1 hu with hu|hu
        · exact h1 u (List.mem_of_mem_take hu)
        · rcases List.mem_append.1 hu with hu|hu
          · exact hone u hu
          · exact h1 u (List.mem_of_mem_drop hu)) (by
        rw [List.all_eq_true]
        intro u hu
        simp only [Cf,List.append_assoc] at hu
        rcases List.mem_append.1 hu with hu|hu
        · exact List.all_eq_true.1 ho u (List.mem_of_mem_take hu)
        · rcases List.mem_append.1 hu with hu|hu
          · exact List.all_eq_true.1 hc3 u hu
          · exact List.all_eq_true.1 ho u (List.mem_of_mem_drop hu)) hf
    refine ⟨c',?_,hsz',hlen'.trans hsp2,hr',h1',ho'⟩
    unfold Instr.fill
    rw [hpl]
    have hcond:(v.cells.size ≠ size || off + v.cells.size > c.size)=false:=by simp; omega
    simp only [hcond,Bool.false_eq_true,if_false]
    rw [At3 hfit]
    exact hfill
theorem Vn {α γ:Type} (f:α → Sem γ) (g:α → γ):∀ (l:List α) (w:World),(∀ x ∈ l,∀ w,(f x).run P w=.ok (g x) w) → (l.mapM f).run P w=.ok (l.map g) w
  | [],w,_ => by simp
  | x::l,w,hf => by
    simp only [List.mapM_cons,Sem.run_bind,hf x (by simp) w,Result.andThen_ok,Vn f g l w fun y hy => hf y (by simp [hy]),Sem.run_pure,List.map_cons]
theorem Oq (zs:List Value):∀ (j:Nat) (x:PV),(zs.map fun x => PV.i (.v x))[j]?=some x → Rep β h w x (zs.toArray.getD j undef):=by
  intro j x hj
  rw [List.getElem?_map] at hj
  cases hg:zs[j]? with
  | none => simp [hg] at hj
  | some u =>
    simp [hg] at hj; subst hj
    have:zs.toArray.getD j undef=u:=by simp [hg]
    rw [this]
    exact .i _ _ (.v u)
theorem Or {zs:List Value} (hz:zs.all Value.oneCell'=true):(zs.map fun x => PV.i (.v x)).all A9=true:=by
  rw [List.all_map]
  exact hz
theorem Wh {t:TypeId} {L:List (Nat × PV × Value)} (hL:Parts β h w L) {p:PV} (hp:Ok P t (L.map fun q => (q.1,q.2.1))=some p) :
    ∃ u,(Instr.build t (L.map fun q => (q.1,q.2.2)).toArray).run P w=.ok u w ∧ Rep β h w p u:=by
  unfold Ok at hp
  split at hp
  case h_2 => cases hp
  rename_i zs pl hz hpl
  split at hp
  case isFalse => cases hp
  rename_i hall
  obtain ⟨i,z,hi,hzz,hsz,rfl,hlen⟩:=Ez hz
  cases hf:Jr pl.get (L.map fun q => (q.1,q.2.1)) (z.cells.toList.map fun x => .i (.v x)) with
  | none => simp [hf] at hp
  | some cs' =>
    simp [hf] at hp
    subst hp
    obtain ⟨c',hfill,hsz',hlen',hr',h1',ho'⟩:=Ji pl.get L _ cs' z.cells hL (by simp) (fun j x hj => by simpa using Oq (β:=β) (h:=h) (w:=w) z.cells.toList j x hj) (fun u hu => List.all_eq_true.1 hall u hu) (Or hall) hf
    refine ⟨.agg c',?_,.agg _ _ hsz' hr'⟩
    unfold Ck at hpl
    split at hpl
    · rename_i fs hu
      split at hpl
      case isFalse => cases hpl
      rename_i hinfo
      cases hpl
      have hm:(fs.mapM fun (f:Field) => (do pure (f.offset,← sizeOf f.type):Sem (Nat × Nat))).run P w=.ok (fs.toList.map fun (f:Field) => (f.offset,B2 P f.type)).toArray w:=by
        rw [Array.mapM_eq_mapM_toList,Sem.run_map,Vn _ (fun (f:Field) => (f.offset,B2 P f.type)) fs.toList w fun f hf w => ?_]
        · rfl
        · obtain ⟨q,hq⟩:=Option.isSome_iff_exists.1 (List.all_eq_true.1 hinfo f hf)
          simp [Dj hq]
      have hpe:(fun (i:Nat) => (fs.toList.map fun (f:Field) => (f.offset,B2 P f.type)).toArray[i]?)=(Places.st (fs.toList.map fun (f:Field) => (f.offset,B2 P f.type))).get:=by
        funext i; simp [Places.get]
      simp only [Instr.build,zeroValue,typeInfo,Sem.run_bind,run_program,Result.andThen_ok,hi,hzz,Sem.run_pure,run_underlying hu,hm,hpe]
      simp only [List.size_toArray,hfill,Sem.run_pure]
    · rename_i n e hu
      split at hpl
      case isFalse => cases hpl
      rename_i hinfo
      cases hpl
      obtain ⟨q,hq⟩:=Option.isSome_iff_exists.1 hinfo
      simp only [Instr.build,zeroValue,typeInfo,Sem.run_bind,run_program,Result.andThen_ok,hi,hzz,Sem.run_pure,run_underlying hu,Dj hq]
      have hpe:(fun (i:Nat) => some (i * B2 P e,B2 P e))=(Places.ar (B2 P e)).get:=by funext i; rfl
      simp only [hpe,hfill,Sem.run_pure]
    · cases hpl
theorem Gb (zs:List Value) (hz:0 < zs.length):∀ (n j:Nat),(Cc zs n)[j]?=if j < n * zs.length then zs[j % zs.length]? else none
  | 0,j => by simp [Cc]
  | n + 1,j => by
    have ih:=Gb zs hz n
    unfold Cc at ih ⊢
    rw [List.replicate_succ,List.flatten_cons,List.getElem?_append]
    by_cases h1:j < zs.length
    · rw [if_pos h1,if_pos (by rw [Nat.succ_mul]; omega),Nat.mod_eq_of_lt h1]
    · rw [if_neg h1,ih (j - zs.length)]
      have h2:(j - zs.length) % zs.length=j % zs.length:=(Nat.mod_eq_sub_mod (by omega)).symm
      rw [h2,Nat.succ_mul]
      by_cases h3:j - zs.length < n * zs.length
      · rw [if_pos h3,if_pos (by omega)]
      · rw [if_neg h3,if_neg (by omega)]
theorem C8 (zs:List Value) (n:Nat):(Cc zs n).length=n * zs.length:=by
  unfold Cc; induction n with
  | zero => simp
  | succ n ih => rw [List.replicate_succ,List.flatten_cons,List.length_append,ih,Nat.succ_mul]; omega
theorem H4 (z:Array Value) (hz:0 < z.size) (n:Nat):(Array.range (n * z.size)).map (z[· % z.size]!)=(Cc z.toList n).toArray:=by
  apply Array.ext'
  apply List.ext_getElem?
  intro j
  rw [Gb _ (by simpa using hz)]
  simp only [Array.length_toList]
  by_cases hj:j < n * z.size
  · rw [if_pos hj]
    have hm:j % z.size < z.size:=Nat.mod_lt _ hz
    simp [hj,hm]
  · rw [if_neg hj]
    simp; omega
theorem Hm {zs:List Value} (hz:zs.all Value.oneCell'=true) (n:Nat):(Cc zs n).all Value.oneCell'=true:=by
  rw [List.all_eq_true]
  intro u hu
  unfold Cc at hu
  obtain ⟨l,hl,hul⟩:=List.mem_flatten.1 hu
  rw [(List.mem_replicate.1 hl).2] at hul
  exact List.all_eq_true.1 hz u hul
theorem Ed {t e:TypeId} (he:Bw P t=some e):P.underlying t=some (.slice e):=by
  unfold Bw at he
  split at he
  · rename_i hu; cases he; exact hu
  · cases he
theorem Nf (H:HInv β h w) {t:TypeId} {s:Name} {len:Nat} {L:List (Nat × PV × Value)} (hL:Parts β h w L) {o:Out} (ho:Eg P h s t len (L.map fun q => (q.1,q.2.1))=some o) :
    Does P β h w (Instr.buildSlice t len (L.map fun q => (q.1,q.2.2)).toArray) o.ups fun β h w u => Rep β h w o.val u:=by
  unfold Eg at ho
  split at ho
  case h_2 => cases ho
  rename_i e he
  have hu:=Ed he
  split at ho
  case h_2 => cases ho
  rename_i zs hz
  obtain ⟨i,z,hi,hzz,hsz,rfl,hlen⟩:=Ez hz
  split at ho
  case isFalse => cases ho
  rename_i hc
  obtain ⟨hall,hbig,hpos⟩:=hc
  split at ho
  case h_2 => cases ho
  rename_i cs hf
  split at ho
  case h_2 => cases ho
  rename_i vs us hiv
  split at ho
  case isFalse => cases ho
  rename_i hvl
  obtain ⟨hs,rfl⟩:=Dp ho
  simp only [Array.length_toList] at *
  have hpl:(fun j => some (j * z.cells.size,z.cells.size))=fun j => some (j * i.size,i.size):=by rw [hsz]
  obtain ⟨c',hfill,hsz',hlen',hr',h1',ho'⟩:=Ji _ L _ cs (Cc z.cells.toList len).toArray hL (by simp) (fun j x hj => Oq (β:=β) (h:=h) (w:=w) (Cc z.cells.toList len) j x hj)
    (fun u hu => List.all_eq_true.1 (Hm hall len) u (by simpa using hu)) (Or (Hm hall len)) hf
  have hrun:(Instr.buildSlice t len (L.map fun q => (q.1,q.2.2)).toArray).run P w=.ok (.slice (some ⟨w.heap.size,0,none⟩) len len) (w.alloc (.cells c' e)):=by
    rw [hpl] at hfill
    by_cases h0:len=0
    · subst h0
      have hz0:(Cc z.cells.toList 0).toArray=#[]:=rfl
      rw [hz0] at hfill
      simp [Instr.buildSlice,run_underlying hu,sizeOf,typeInfo,hi,newRow,hfill,Array.range_zero']
    · refine run_buildSlice w t e len _ c' i z hu hi hzz (by rw [← hsz]; omega) (by
        have:=Nat.mul_pos (Nat.pos_of_ne_zero h0) (show 0 < i.size by omega)
        omega) ?_
      rw [← hsz,H4 z.cells hpos len]
      rw [hsz]
      exact hfill
  have hF:=F8 hiv
  obtain ⟨E0,H0,hnot,_⟩:=freezes us H hF
  obtain ⟨hl,hri⟩:=Kp H H0 E0 hiv (Ll H hF)
  have hs0:h.ups us s=none:=by
    rw [hnot s fun hm => ?_]; exact hs
    obtain ⟨u,hu,he⟩:=List.mem_map.1 hm
    obtain ⟨fz,cs,hb,_⟩:=hF u hu
    rw [he,hs] at hb; cases hb
  obtain ⟨H1,E1,_,R1⟩:=Kv (cs:=vs) (c:=c') H0 hs0 e (by omega) (fun j x hj => by
    have hlt:j < cs.length:=by rw [← hl]; exact (List.getElem?_eq_some_iff.1 hj).1
    have h7:=hr' _ _ (List.getElem?_eq_getElem hlt)
    exact ⟨Fp (List.all_eq_true.1 ho' _ (List.getElem_mem hlt)) h7,hri _ _ _ _ (List.getElem?_eq_getElem hlt) hj h7⟩)
  unfold Does
  simp only [Heap.ups_append,Heap.ups_cons,Heap.ups_nil]
  exact ⟨_,_,_,hrun,H1,E0.trans E1,R1 z.cells.size len len (Nat.le_refl _) (by omega) (by omega)⟩
theorem X0 (H:HInv β h w) {t:TypeId} {s:Name} {l c:PV} {lv cv:Value} (hl:Rep β h w l lv) (hc:Rep β h w c cv) {o:Out} (ho:Lf P h s t l c=some o) :
    Does P β h w (Instr.makeSlice t lv cv) o.ups fun β h w u => Rep β h w o.val u:=by
  unfold Lf at ho
  split at ho
  case h_2 => cases ho
  rename_i e n m he hn hm
  have hu:=Ed he
  split at ho
  case h_2 => cases ho
  rename_i zs hz
  obtain ⟨i,z,hi,hzz,hsz,rfl,hlen⟩:=Ez hz
  split at ho
  case isFalse => cases ho
  rename_i hcc
  obtain ⟨hall,hle,hby,hmx,hpos⟩:=hcc
  obtain ⟨hs,rfl⟩:=Dp ho
  obtain ⟨kl,nl,rfl,h0l,rfl⟩:=Fq hn hl
  obtain ⟨kc,nc,rfl,h0c,rfl⟩:=Fq hm hc
  have hbi:P.bytesOf e=i.bytes:=by simp [Program.bytesOf,hi]
  have hbytes:(i.bytes:Int) * nc ≤ 281474976710656:=by
    rw [hbi] at hby
    have this:((nc.toNat * i.bytes:Nat):Int) ≤ 140737488355328:=Int.ofNat_le.2 hby
    rw [Int.natCast_mul,Int.toNat_of_nonneg h0c,Int.mul_comm] at this
    omega
  have hrun:=run_make (P:=P) w t e i z hu hi hzz kl kc nl nc h0l (by omega) hbytes (by omega)
  have hmc:madeCells z.cells (nc.toNat * i.size)=(Cc z.cells.toList nc.toNat).toArray:=by
    rw [← hsz]; exact H4 z.cells (by simpa using hpos) nc.toNat
  rw [hmc] at hrun
  simp only [Array.length_toList] at *
  obtain ⟨H1,E1,_,R1⟩:=Kv (cs:=(Cc z.cells.toList nl.toNat).map .v) (c:=(Cc z.cells.toList nc.toNat).toArray) H hs e
    (by simp [C8]; exact Nat.mul_le_mul_right _ hle) (fun j x hj => by
      rw [List.getElem?_map,Gb _ (by simpa using hpos)] at hj
      simp only [Array.length_toList] at hj
      by_cases hlt:j < nl.toNat * z.cells.size
      · rw [if_pos hlt] at hj
        have hlt2:j < nc.toNat * z.cells.size:=Nat.lt_of_lt_of_le hlt (Nat.mul_le_mul_right _ hle)
        have hg:(Cc z.cells.toList nc.toNat).toArray.getD j undef=z.cells.toList[j % z.cells.size]'(by simp; exact Nat.mod_lt _ hpos):=by
          rw [Array.getD_eq_getD_getElem?,List.getElem?_toArray,Gb _ (by simpa using hpos)]
          simp [hlt2,Nat.mod_lt _ hpos]
        rw [hg]
        rw [List.getElem?_eq_getElem (by simp; exact Nat.mod_lt _ hpos)] at hj
        simp only [Option.map_some,Option.some.injEq] at hj
        subst hj
        exact ⟨List.all_eq_true.1 hall _ (List.getElem_mem _),.v _⟩
      · rw [if_neg hlt] at hj; simp at hj)
  have R2:=R1 z.cells.size nl.toNat nc.toNat hle (by simp [C8])
  simp only [List.length_map,C8,Array.length_toList] at R2
  exact ⟨_,_,_,hrun,H1,E1,R2 (Nat.mul_le_mul_right _ hle)⟩
end Go.Proofs.Ythnfphgjfpcpbaa.TM
