/- A machine of plain data (TM): the values, the boxes, and what one operation does to them. Conditions: none; definitions alone. -/
import Derived.Orders
import Derived.Laws.AppendOwn
import Derived.Laws.MakeOwn
import Derived.Below
namespace Go.Proofs.Ytnnkoghmglpnmaa.TM
open Go
set_option linter.unusedVariables false
set_option linter.defProp false

abbrev Name := List (Nat × Nat)

/-- Data that nobody writes any more: a plain value, or a list of n elements with its cells. -/
inductive IV where
  | v (x : Value)
  | l (n : Nat) (cs : List IV)
  deriving Inhabited

/-- What a slot holds. 'view': n elements of z cells each of the box b, from the cell off on, while the box has top cells. 'ref': the address of a box's cell. 'iref': the address of a cell of data. -/
inductive PV where
  | i (x : IV)
  | view (b : Name) (off z n top : Nat)
  | ref (b : Name) (off top : Nat)
  | iref (cs : List IV) (off : Nat)
  | agg (cs : List PV)
  | tup (cs : List PV)
  | clo (f : FuncId) (caps : List PV)
  | dead
  deriving Inhabited

/-- Memory of the call's own. A row (fz: nobody writes it any more), or a variable. -/
inductive Box where
  | row (fz : Bool) (cs : List IV)
  | var (cs : List PV)
  deriving Inhabited

def Box.len : Box → Nat
  | .row _ cs => cs.length
  | .var cs => cs.length
def Box.open : Box → Bool
  | .row fz _ => !fz
  | .var _ => true
def Box.isRow : Box → Bool
  | .row .. => true
  | .var _ => false

abbrev Heap := Name → Option Box
def Heap.none : Heap := fun _ => Option.none
def Heap.put (h : Heap) (b : Name) (x : Box) : Heap := fun c => if c = b then some x else h c

structure St where
  t : List PV
  h : Heap

def ofVal : Value → PV
  | .agg cs => .agg (cs.toList.map fun c => .i (.v c))
  | v => .i (.v v)
def undefP : PV := .tup []
def St.opnd (t : List PV) : Operand → PV
  | .tmp k => t.getD k undefP
  | .const v => ofVal v
  | .global _ => .dead
  | .func f => .i (.v (.func (.func f) #[] #[]))
def putT (t : List PV) (dst : Option Tmp) (v : PV) : List PV :=
  match dst with
  | some d => t.set d v
  | none => t

/-- One operation's doing: the value, and the boxes that it writes. -/
structure Out where
  val : PV
  ups : List (Name × Box)

/-! ### types -/
def szOf (P : Program) (t : TypeId) : Nat := P.cellsOf t
def isAggB (P : Program) (t : TypeId) : Bool :=
  match P.underlying t with
  | some (.struct _) | some (.array _ _) => true
  | _ => false
def isArrB (P : Program) (t : TypeId) : Bool :=
  match P.underlying t with
  | some (.array _ _) => true
  | _ => false
def elemB (P : Program) (t : TypeId) : Option TypeId :=
  match P.underlying t with
  | some (.slice e) => some e
  | _ => none
/-- A type's kind, as far as it matters here. -/
inductive TK where
  | sl (e : TypeId)
  | arr (n : Nat) (e : TypeId)
  | str
  | int (k : IntKind)
  | bool
  | other
def tkB (P : Program) (t : TypeId) : Option TK :=
  match P.underlying t with
  | some (.slice e) => some (.sl e)
  | some (.array n e) => some (.arr n e)
  | some .string => some .str
  | some (.int k) => some (.int k)
  | some .bool => some .bool
  | some _ => some .other
  | none => none
/-- A field's type and place. -/
def fieldB (P : Program) (s : TypeId) (f : Nat) : Option (TypeId × Nat) :=
  match P.underlying s with
  | some (.struct fs) => match fs[f]? with
    | some q => if ((P.info? q.type).any fun i => 0 < i.size) && (P.underlying q.type).isSome then some (q.type, q.offset) else none
    | none => none
  | _ => none
def infoB (P : Program) (t : TypeId) : Bool := (P.info? t).isSome
def undB (P : Program) (t : TypeId) : Bool := (P.underlying t).isSome
def zeroB (P : Program) (t : TypeId) : Option (List Value) :=
  match P.info? t with
  | some i => match i.zero with
    | some z => if z.cells.size = i.size then some z.cells.toList else none
    | none => none
  | none => none

/-! ### plain values -/
def intBin (op : BinOp) (k : IntKind) (a b : Int) : Option Value :=
  match op with
  | .add => some (.int k (k.wrap (a + b)))
  | .sub => some (.int k (k.wrap (a - b)))
  | .mul => some (.int k (k.wrap (a * b)))
  | .quo => if b = 0 then none else some (.int k (k.wrap (a.tdiv b)))
  | .rem => if b = 0 then none else some (.int k (a.tmod b))
  | .and => some (.int k (Go.bits .and k a b))
  | .or => some (.int k (Go.bits .or k a b))
  | .xor => some (.int k (Go.bits .xor k a b))
  | .andNot => some (.int k (Go.bits .andNot k a b))
  | .eql => some (.bool (a == b))
  | .neq => some (.bool (a != b))
  | .lss => some (.bool (a < b))
  | .leq => some (.bool (a ≤ b))
  | .gtr => some (.bool (a > b))
  | .geq => some (.bool (a ≥ b))
  | _ => none
def scalBin (P : Program) (op : BinOp) (t : TypeId) (x y : Value) : Option Value :=
  match x, y with
  | .int k a, .int k' b =>
    match op with
    | .shl => if b < 0 then none else some (.int k (k.wrap (a * 2 ^ (min b.toNat k.bits))))
    | .shr => if b < 0 then none else some (.int k (a.fdiv (2 ^ (min b.toNat k.bits))))
    | op => if k = k' then intBin op k a b else none
  | .bool a, .bool b =>
    match tkB P t, op with
    | some .bool, .eql => some (.bool (a == b))
    | some .bool, .neq => some (.bool (!(a == b)))
    | _, _ => none
  | .string a, .string b =>
    match op with
    | .eql => some (.bool (a.toList == b.toList))
    | .neq => some (.bool (!(a.toList == b.toList)))
    | _ => none
  | _, _ => none
def scalUn (op : UnOp) (x : Value) : Option Value :=
  match op, x with
  | .not, .bool b => some (.bool !b)
  | .neg, .int k n => some (.int k (k.wrap (0 - n)))
  | .xor, .int k n => some (.int k (Go.bits .xor k (if k.signed then -1 else k.max) n))
  | _, _ => none

/-! ### slices and cells -/
/-- What a slice value is: nothing, data, or a part of a box. -/
inductive SK where
  | nil
  | imm (n : Nat) (cs : List IV)
  | own (b : Name) (off z n top : Nat)
def PV.sk : PV → Option SK
  | .i (.v (.slice none 0 0)) => some .nil
  | .i (.l n cs) => some (.imm n cs)
  | .view b off z n top => some (.own b off z n top)
  | _ => none
def SK.len : SK → Nat
  | .nil => 0
  | .imm n _ => n
  | .own _ _ _ n _ => n
def SK.pv : SK → PV
  | .nil => .i (.v (.slice none 0 0))
  | .imm n cs => .i (.l n cs)
  | .own b off z n top => .view b off z n top
/-- The cells that a slice of elements of z cells has. -/
def SK.cells (h : Heap) (z : Nat) : SK → Option (List IV)
  | .nil => some []
  | .imm n cs => if cs.length = n * z then some cs else none
  | .own b off z' n top => match h b with
    | some (.row _ cs) => if cs.length = top ∧ z' = z ∧ off + n * z ≤ cs.length then some ((cs.drop off).take (n * z)) else none
    | _ => none
def toIV (h : Heap) : PV → Option (IV × List (Name × Box))
  | .i x => some (x, [])
  | .view b off z n top => match h b with
    | some (.row _ cs) => if cs.length = top ∧ off + n * z ≤ cs.length then some (.l n ((cs.drop off).take (n * z)), [(b, .row true cs)]) else none
    | _ => none
  | _ => none
def toIVs (h : Heap) : List PV → Option (List IV × List (Name × Box))
  | [] => some ([], [])
  | p :: ps => match toIV h p, toIVs h ps with
    | some (x, u), some (xs, us) => some (x :: xs, u ++ us)
    | _, _ => none
def oneP : PV → Bool
  | .i (.v x) => x.oneCell'
  | .i (.l _ _) => true
  | .view .. => true
  | .ref .. => true
  | .clo .. => true
  | _ => false
def cellsP : PV → List PV
  | .agg cs => cs
  | p => [p]
def spliceL {α : Type} (cs : List α) (off : Nat) (vs : List α) : List α := cs.take off ++ vs ++ cs.drop (off + vs.length)
def natOf : PV → Option Nat
  | .i (.v (.int _ n)) => if 0 ≤ n then some n.toNat else none
  | _ => none

def opLoad (P : Program) (h : Heap) (t : TypeId) (x : PV) : Option PV :=
  match x with
  | .ref b off top => match h b with
    | some (.var cs) => if cs.length = top then (if isAggB P t then (if off + szOf P t ≤ top then some (.agg ((cs.drop off).take (szOf P t))) else none) else cs[off]?) else none
    | some (.row _ cs) => if cs.length = top then (if isAggB P t then (if off + szOf P t ≤ top then some (.agg (((cs.drop off).take (szOf P t)).map .i)) else none) else (cs[off]?).map .i) else none
    | none => none
  | .iref cs off => if isAggB P t then (if off + szOf P t ≤ cs.length then some (.agg (((cs.drop off).take (szOf P t)).map .i)) else none) else (cs[off]?).map .i
  | _ => none
def opStore (P : Program) (h : Heap) (t : TypeId) (x v : PV) : Option (List (Name × Box)) :=
  match x with
  | .ref b off top => match h b with
    | some (.var cs) =>
      if cs.length = top ∧ (cellsP v).length = szOf P t ∧ off + (cellsP v).length ≤ top ∧ (cellsP v).all oneP then some [(b, .var (spliceL cs off (cellsP v)))] else none
    | some (.row false cs) => match toIVs h (cellsP v) with
      | some (vs, us) => if cs.length = top ∧ vs.length = szOf P t ∧ off + vs.length ≤ top ∧ (cellsP v).all oneP ∧ (us.all fun u => u.1 ≠ b) then some (us ++ [(b, .row false (spliceL cs off vs))]) else none
      | none => none
    | _ => none
  | _ => none
def newBox (h : Heap) (s : Name) (x : Box) (v : PV) (us : List (Name × Box)) : Option Out :=
  match h s with
  | none => some ⟨v, us ++ [(s, x)]⟩
  | some _ => none
def opBox (P : Program) (h : Heap) (s : Name) (t : TypeId) (v : PV) : Option Out :=
  if (cellsP v).all oneP then
    if isArrB P t then match toIVs h (cellsP v) with
      | some (vs, us) => newBox h s (.row false vs) (.ref s 0 vs.length) us
      | none => none
    else newBox h s (.var (cellsP v)) (.ref s 0 (cellsP v).length) []
  else none
def opAlloc (P : Program) (h : Heap) (s : Name) (t : TypeId) : Option Out :=
  match zeroB P t with
  | some zs => if zs.all Value.oneCell' then
      (if isArrB P t then newBox h s (.row false (zs.map .v)) (.ref s 0 zs.length) [] else newBox h s (.var (zs.map fun x => .i (.v x))) (.ref s 0 zs.length) [])
    else none
  | none => none
def fillP (place : Nat → Option (Nat × Nat)) : List (Nat × PV) → List PV → Option (List PV)
  | [], cs => some cs
  | (i, v) :: rest, cs => match place i with
    | some (off, size) => if (cellsP v).length = size ∧ off + size ≤ cs.length ∧ (cellsP v).all oneP then fillP place rest (spliceL cs off (cellsP v)) else none
    | none => none
inductive Places where
  | st (l : List (Nat × Nat))
  | ar (size : Nat)
def Places.get : Places → Nat → Option (Nat × Nat)
  | .st l, i => l[i]?
  | .ar z, i => some (i * z, z)
def placesOf (P : Program) (t : TypeId) : Option Places :=
  match P.underlying t with
  | some (.struct fs) => if fs.toList.all fun f => (P.info? f.type).isSome then some (.st (fs.toList.map fun f => (f.offset, szOf P f.type))) else none
  | some (.array _ e) => if (P.info? e).isSome then some (.ar (szOf P e)) else none
  | _ => none
def opBuild (P : Program) (t : TypeId) (parts : List (Nat × PV)) : Option PV :=
  match zeroB P t, placesOf P t with
  | some zs, some pl => if zs.all Value.oneCell' then (fillP pl.get parts (zs.map fun x => .i (.v x))).map .agg else none
  | _, _ => none
def zeroRow (zs : List Value) (n : Nat) : List Value := (List.replicate n zs).flatten
def opBuildSlice (P : Program) (h : Heap) (s : Name) (t : TypeId) (len : Nat) (parts : List (Nat × PV)) : Option Out :=
  match elemB P t with
  | some e => match zeroB P e with
    | some zs => if zs.all Value.oneCell' ∧ len * zs.length ≤ 16777216 ∧ 0 < zs.length then
        match fillP (fun i => some (i * zs.length, zs.length)) parts ((zeroRow zs len).map fun x => .i (.v x)) with
        | some cs => match toIVs h cs with
          | some (vs, us) => if vs.length = len * zs.length then newBox h s (.row false vs) (.view s 0 zs.length len vs.length) us else none
          | none => none
        | none => none
      else none
    | none => none
  | none => none
def opMake (P : Program) (h : Heap) (s : Name) (t : TypeId) (len cap : PV) : Option Out :=
  match elemB P t, natOf len, natOf cap with
  | some e, some l, some c => match zeroB P e with
    | some zs => if zs.all Value.oneCell' ∧ l ≤ c ∧ c * P.bytesOf e ≤ 140737488355328 ∧ c ≤ 140737488355328 ∧ 0 < zs.length then newBox h s (.row false ((zeroRow zs l).map .v)) (.view s 0 zs.length l (l * zs.length)) [] else none
    | none => none
  | _, _, _ => none
def optNat : Option PV → Nat → Option Nat
  | none, d => some d
  | some v, _ => natOf v
def opSlice (P : Program) (t : TypeId) (x : PV) (lo hi mx : Option PV) : Option PV :=
  match tkB P t with
  | some (.sl e) => match x.sk with
    | some k => match optNat lo 0, optNat hi k.len, optNat mx k.len with
      | some l, some g, some m => if l ≤ g ∧ g ≤ m ∧ m ≤ k.len ∧ (mx.isSome → hi.isSome) ∧ infoB P e then
          match k with
          | .nil => some k.pv
          | .imm n cs => if cs.length = n * szOf P e then some (.i (.l (g - l) ((cs.drop (l * szOf P e)).take ((g - l) * szOf P e)))) else none
          | .own b off z n top => if z = szOf P e then some (.view b (off + l * z) z (g - l) top) else none
        else none
      | _, _, _ => none
    | none => none
  | _ => none
def opFieldAddr (P : Program) (s : TypeId) (x : PV) (f : Nat) : Option PV :=
  match fieldB P s f with
  | some (_, o) => match x with
    | .ref b off top => some (.ref b (off + o) top)
    | .iref cs off => some (.iref cs (off + o))
    | _ => none
  | none => none
def opIndexAddr (P : Program) (t : TypeId) (x ix : PV) : Option PV :=
  match tkB P t, natOf ix with
  | some (.sl e), some i => match x.sk with
    | some (.imm n cs) => if i < n ∧ infoB P e then some (.iref cs (i * szOf P e)) else none
    | some (.own b off z n top) => if i < n ∧ z = szOf P e ∧ infoB P e then some (.ref b (off + i * z) top) else none
    | _ => none
  | some (.arr n e), some i => if i < n ∧ infoB P e then
      match x with
      | .ref b off top => some (.ref b (off + i * szOf P e) top)
      | .iref cs off => some (.iref cs (off + i * szOf P e))
      | _ => none
    else none
  | _, _ => none
def partP (P : Program) (t : TypeId) (cs : List PV) (off : Nat) : Option PV :=
  if isAggB P t then (if off + szOf P t ≤ cs.length then some (.agg ((cs.drop off).take (szOf P t))) else none) else cs[off]?
def opField (P : Program) (s : TypeId) (x : PV) (f : Nat) : Option PV :=
  match fieldB P s f, x with
  | some (t, o), .agg cs => partP P t cs o
  | _, _ => none
def opIndex (P : Program) (t : TypeId) (x ix : PV) : Option PV :=
  match tkB P t, x, natOf ix with
  | some (.arr n e), .agg cs, some i => if i < n ∧ undB P e then partP P e cs (i * szOf P e) else none
  | some .str, .i (.v (.string s)), some i => if hi : i < s.size then some (.i (.v (.int .u8 s[i].toNat))) else none
  | _, _, _ => none
def bytesOfIV : List IV → Option (List UInt8)
  | [] => some []
  | .v (.int .u8 n) :: cs => (bytesOfIV cs).map fun l => UInt8.ofNat n.toNat :: l
  | _ => none
def opBytes (P : Program) (h : Heap) (e : TypeId) (x : PV) : Option PV :=
  match tkB P e, x.sk with
  | some (.int .u8), some k => match k.cells h 1 with
    | some cs => (bytesOfIV cs).map fun l => .i (.v (.string ⟨l.toArray⟩))
    | none => none
  | _, _ => none
def opConvert (P : Program) (h : Heap) (src dst : TypeId) (x : PV) : Option PV :=
  match tkB P src, tkB P dst, x with
  | some _, some (.int k), .i (.v (.int _ n)) => some (.i (.v (.int k (k.wrap n))))
  | some .str, some .str, .i (.v (.string s)) => some x
  | some (.sl e), some .str, x => opBytes P h e x
  | _, _, _ => none
def opAppend (P : Program) (h : Heap) (s : Name) (t : TypeId) (x y : PV) : Option Out :=
  match elemB P t with
  | some e => match zeroB P e with
    | some zs => match x.sk, y.sk with
      | some k, some k2 => match k2.cells h zs.length with
        | some xs => if 0 < zs.length ∧ (k.len + k2.len) * P.bytesOf e ≤ 140737488355328 ∧ k.len + k2.len ≤ maxLen then
            if k2.len = 0 then (match k with | .nil => some ⟨x, []⟩ | .own .. => some ⟨x, []⟩ | .imm .. => none) else
            match k with
            | .nil => newBox h s (.row false xs) (.view s 0 zs.length k2.len xs.length) []
            | .own b off z n top => match h b with
              | some (.row false cs) => if cs.length = top ∧ off = 0 ∧ z = zs.length ∧ cs.length = n * z then
                  some ⟨.view b 0 z (n + k2.len) (cs ++ xs).length, [(b, .row false (cs ++ xs))]⟩ else none
              | _ => none
            | .imm .. => none
          else none
        | none => none
      | _, _ => none
    | none => none
  | none => none
def opCopy (P : Program) (h : Heap) (t : TypeId) (x y : PV) : Option Out :=
  match elemB P t with
  | some e => match x.sk, y.sk with
    | some (.own b off z n top), some k2 => match k2.cells h z, h b with
      | some xs, some (.row false cs) => if z = szOf P e ∧ 0 < z ∧ infoB P e ∧ cs.length = top ∧ off + n * z ≤ cs.length then
          some ⟨.i (.v (.int .i64 (min k2.len n : Nat))), [(b, .row false (spliceL cs off (xs.take (min k2.len n * z))))]⟩ else none
      | _, _ => none
    | _, _ => none
  | none => none
def opLen (P : Program) (t : TypeId) (x : PV) : Option PV :=
  match tkB P t with
  | some (.sl _) => (x.sk).map fun k => .i (.v (.int .i64 k.len))
  | some (.arr n _) => some (.i (.v (.int .i64 n)))
  | some .str => match x with
    | .i (.v (.string s)) => some (.i (.v (.int .i64 s.size)))
    | _ => none
  | _ => none
def opBuiltin (P : Program) (h : Heap) (s : Name) (b : Builtin) (ts : List TypeId) (xs : List PV) : Option Out :=
  match b, ts, xs with
  | .append, [t, t'], [x, y] => if (elemB P t').isSome then opAppend P h s t x y else none
  | .copy, [t, _], [x, y] => opCopy P h t x y
  | .len, [t], [x] => (opLen P t x).map fun v => ⟨v, []⟩
  | .min, _, [.i (.v (.int k a)), .i (.v (.int k' b))] => some ⟨.i (.v (.int k (if b < a then b else a))), []⟩
  | .max, _, [.i (.v (.int k a)), .i (.v (.int k' b))] => some ⟨.i (.v (.int k (if b > a then b else a))), []⟩
  | _, _, _ => none
def just (v : Option PV) : Option Out := v.map fun v => ⟨v, []⟩
/-- One operation that calls nothing. s: the name of what it makes. -/
def stepOp (P : Program) (h : Heap) (s : Name) (ρ : Operand → PV) (op : Op) : Option Out :=
  match op with
  | .move x => just (some (ρ x))
  | .assign x => just (some (ρ x))
  | .pick c a b => match ρ c with
    | .i (.v (.bool t)) => just (some (if t then ρ a else ρ b))
    | _ => none
  | .alloc t => opAlloc P h s t
  | .box t x => opBox P h s t (ρ x)
  | .build t ps => just (opBuild P t (ps.toList.map fun p => (p.1, ρ p.2)))
  | .buildSlice t n ps => opBuildSlice P h s t n (ps.toList.map fun p => (p.1, ρ p.2))
  | .load t a => if undB P t then just (opLoad P h t (ρ a)) else none
  | .store t a x => if infoB P t then (opStore P h t (ρ a) (ρ x)).map fun us => ⟨undefP, us⟩ else none
  | .nilCheck x => match ρ x with
    | .ref b o p => just (some (.ref b o p))
    | .iref cs o => just (some (.iref cs o))
    | .clo f cs => just (some (.clo f cs))
    | .i (.v (.func (.func f) a c)) => just (some (.i (.v (.func (.func f) a c))))
    | _ => none
  | .binOp op t x y _ => match ρ x, ρ y with
    | .i (.v a), .i (.v b) => just ((scalBin P op t a b).map fun v => .i (.v v))
    | _, _ => none
  | .unOp op _ x => match ρ x with
    | .i (.v a) => just ((scalUn op a).map fun v => .i (.v v))
    | _ => none
  | .convert a b x => just (opConvert P h a b (ρ x))
  | .makeFunc (.func f) first caps => if first.size = 0 then (if caps.size = 0 then just (some (.i (.v (.func (.func f) #[] #[])))) else just (some (.clo f (caps.toList.map ρ)))) else none
  | .makeSlice t l c => opMake P h s t (ρ l) (ρ c)
  | .slice t x lo hi mx => just (opSlice P t (ρ x) (lo.map ρ) (hi.map ρ) (mx.map ρ))
  | .fieldAddr t x f => just (opFieldAddr P t (ρ x) f)
  | .field t x f => just (opField P t (ρ x) f)
  | .indexAddr t x ix => just (opIndexAddr P t (ρ x) (ρ ix))
  | .index t x ix => just (opIndex P t (ρ x) (ρ ix))
  | .extract x ix => match ρ x with
    | .tup vs => just vs[ix]?
    | _ => none
  | .call { callee := .builtin b, args := as, argTypes := ts } => opBuiltin P h s b ts.toList (as.toList.map ρ)
  | _ => none
end Go.Proofs.Ytnnkoghmglpnmaa.TM
