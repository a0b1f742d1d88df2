/- What is proved of functions, and plain facts, part 6. Conditions: none. -/
import Derived.Test.YtmalpmnmknpphaaSShapeParts5
import Derived.Shelf.RegionOpenPlain
import Derived.WalkKit
import Derived.Deep.LoopGhost
import Derived.Lib.Walk
import Derived.Lib.SliceRun
set_option linter.defProp false
set_option linter.unusedSectionVars false
set_option linter.unusedSimpArgs false
set_option linter.unusedVariables false
namespace Go.Proofs.Ytmalpmnmknpphaa.TM
open Go Go.RowKit
theorem CallsP.get {P:Program} {g:FuncId} {args:List PV} {v:PV} (h:CallsP P g args v) (base:Name):∃ u hu,CallR P base g args Heap.none u hu ∧ lowerT hu u=some v:=h base
end Go.Proofs.Ytmalpmnmknpphaa.TM
namespace Go.Proofs.Ytmalpmnmknpphaa.TM
open Go Go.RowKit
def part (cs:List IV) (q k:Nat):IV:=.l q ((cs.drop (k * q)).take q)
end Go.Proofs.Ytmalpmnmknpphaa.TM
namespace Go.Proofs.Ytmalpmnmknpphaa.TM
open Go Go.RowKit
attribute [local irreducible] K W WOps Effs Xg Xo Xr Xdg Xdo Xdr Xif CallsP CallR
theorem X_append_room {P : Program} {C : CallRel} {h h0 : Heap} {base : Name} {Qf : Ex → List PV → Heap → Prop} {k : List It} {t : List PV} {R : It} {d : Option Tmp} {s b : Name} {ty : TypeId} (e : TypeId) (zs : List Value) {n m top : Nat} {cs : List IV} (xs : List IV)
    (he:elemB P ty=some e) (hz:zeroB P e=some zs) (hzl:zs.length=1) (hb:h b=some (.row false cs)) (hl:cs.length=top) (hm:0 < m) (hx:xs.length=m) (hroom:n + m ≤ top)
    (hby:(n + m) * P.bytesOf e ≤ 140737488355328) (hmx:n + m ≤ maxLen)
    (hk:K P C h0 base Qf (R::k) .normal (putT t d (.view b 0 1 (n + m) top)) (h.put b (.row false (spliceL cs n xs)))) :
    Xr P C h0 base Qf (opAppend P h s ty (.view b 0 1 n top) (.i (.l m xs))) d R k t h:=by
  refine Xr_eq (out:=⟨.view b 0 1 (n + m) top,[(b,.row false (spliceL cs n xs))]⟩) ?_ hk
  have h1:¬ m=0:=by omega
  have h2:¬ (cs.length=n):=by omega
  subst hl
  simp only [opAppend,he,hz,hzl,PV.sk,SK.cells,SK.len,hx,hb,Nat.mul_one,if_true,h1,if_false,hby,hmx,Nat.zero_lt_one,and_self,true_and,h2,and_false,Nat.zero_add,hroom]
theorem X_append_e0 {P : Program} {C : CallRel} {h h0 : Heap} {base : Name} {Qf : Ex → List PV → Heap → Prop} {k : List It} {t : List PV} {R : It} {d : Option Tmp} {s : Name} {ty : TypeId} (e : TypeId) (zs : List Value)
    (he:elemB P ty=some e) (hz:zeroB P e=some zs) (hzl:zs.length=1) (hk:K P C h0 base Qf (R::k) .normal (putT t d (.i (.v (.slice none 0 0)))) h) :
    Xr P C h0 base Qf (opAppend P h s ty (.i (.v (.slice none 0 0))) (.i (.l 0 []))) d R k t h:=by
  refine Xr_eq (out:=⟨.i (.v (.slice none 0 0)),[]⟩) ?_ hk
  simp [opAppend,he,hz,hzl,PV.sk,SK.cells,SK.len,mx_len]
theorem X_append_e1 {P : Program} {C : CallRel} {h h0 : Heap} {base : Name} {Qf : Ex → List PV → Heap → Prop} {k : List It} {t : List PV} {R : It} {d : Option Tmp} {s b : Name} {off z n top : Nat} {ty : TypeId} (e : TypeId) (zs : List Value)
    (he:elemB P ty=some e) (hz:zeroB P e=some zs) (hzl:zs.length=1) (hby:n * P.bytesOf e ≤ 140737488355328) (hmx:n ≤ maxLen) (hk:K P C h0 base Qf (R::k) .normal (putT t d (.view b off z n top)) h) :
    Xr P C h0 base Qf (opAppend P h s ty (.view b off z n top) (.i (.l 0 []))) d R k t h:=by
  refine Xr_eq (out:=⟨.view b off z n top,[]⟩) ?_ hk
  simp [opAppend,he,hz,hzl,PV.sk,SK.cells,SK.len,hby,hmx]
theorem growU_walk {h:Heap} {base:Name} (n:Nat) (h0:0 < n) (hn:n ≤ 4398046511104) (hh:h ((5,5)::base)=none) :
    CallR Try.prog base 120 [.i (.v (.slice none 0 0)),i64 n] h (.view ((5,5)::base) 0 1 0 n) (h.put ((5,5)::base) (.row false ((zeroRow [.int .u64 0] n).map .v))):=by
  have h1:¬ (n:Int) < 0:=by omega
  have h2:(0:Int) < n:=by omega
  refine X_startR (n:=27) (m:=2) (rs:=[.tmp 4]) Try.func120 rfl rfl rfl rfl (by decide) ?_
  have e1:(n:Int) - (0 - ((0:Nat):Int))=n:=by omega
  have b1:n * 8 ≤ 140737488355328:=by omega
  have b2:(n:Int) ≤ 140737488355328:=by omega
  repeat (first|refine X_opc rfl ?_|refine X_dopc rfl ?_|refine ⟨(by show drawK _ _=true; kernel_rfl:drawX _ _ _),?_⟩|exact (by show drawK _ _=true; kernel_rfl:drawX _ _ _)|simp -dsimp (maxSteps:=20000000) (disch:=omega) only [simx,zzC,zzB,tys,ite_self,opnL,callB,callX,readsB,stepOp,nilCmp,ofVal,opBuiltin,opLen,PV.sk,scalBin,scalUn,intBin,opLoad,natOf,opConvert,opField,cellsP,oneP,Value.oneCell',opStore,toIV,scalT,scalA,scalC,boxesA,boxesC,zipB_none,zipB_mx,isZ,opZip,zeroP,opAppendZ,opMakeMap,opLookup,mboxB,opUpdate,↓reduceIte,Nat.reduceSub,Nat.reduceEqDiff,Nat.reduceAdd,Nat.reduceMul,Nat.reduceLT,Nat.reduceLeDiff,Int.reduceToNat,Int.reduceLE,Int.reduceLT,Int.reduceNeg,reduceCtorEq,zzR,gos,Int.reduceAdd,Int.reduceSub,Int.reduceMul,Int.reduceEq,h1,h2,hh,e1,b1,b2,Int.toNat_natCast,SK.len,Nat.zero_le,Option.isNone_none,Option.map_some])
theorem growU_zero {h:Heap} {base:Name}:CallR Try.prog base 120 [.i (.v (.slice none 0 0)),i64 0] h (.i (.v (.slice none 0 0))) h:=by
  refine X_startR (n:=27) (m:=2) (rs:=[.tmp 4]) Try.func120 rfl rfl rfl rfl (by decide) ?_
  repeat (first|refine X_opc rfl ?_|refine X_dopc rfl ?_|refine ⟨(by show drawK _ _=true; kernel_rfl:drawX _ _ _),?_⟩|exact (by show drawK _ _=true; kernel_rfl:drawX _ _ _)|simp -dsimp (maxSteps:=20000000) (disch:=omega) only [simx,zzC,zzB,tys,ite_self,opnL,callB,callX,readsB,stepOp,nilCmp,ofVal,opBuiltin,opLen,PV.sk,scalBin,scalUn,intBin,opLoad,natOf,opConvert,opField,cellsP,oneP,Value.oneCell',opStore,toIV,scalT,scalA,scalC,boxesA,boxesC,zipB_none,zipB_mx,isZ,opZip,zeroP,opAppendZ,opMakeMap,opLookup,mboxB,opUpdate,↓reduceIte,Nat.reduceSub,Nat.reduceEqDiff,Nat.reduceAdd,Nat.reduceMul,Nat.reduceLT,Nat.reduceLeDiff,Int.reduceToNat,Int.reduceLE,Int.reduceLT,Int.reduceNeg,reduceCtorEq,zzR,gos,Int.reduceAdd,Int.reduceSub,Int.reduceMul,Int.reduceEq])
theorem zeros_len (n:Nat) (k:IntKind):((zeroRow [Value.int k 0] n).map IV.v).length=n:=by rw [List.length_map,zeroRow_len]; simp
abbrev ivN (l:List IV):IV:=.l l.length l
abbrev llL (L:List (List IV)):PV:=.i (.l L.length (L.map ivN))
theorem flatL_next {L:List (List IV)} {j:Nat} (h:j < L.length):(L.take (j + 1)).flatten=(L.take j).flatten ++ L[j]:=by
  rw [List.take_succ_eq_append_getElem h,List.flatten_append]; simp
theorem flatL_le (L:List (List IV)) (j:Nat):(L.take j).flatten.length ≤ L.flatten.length:=by
  have:L.flatten=(L.take j).flatten ++ (L.drop j).flatten:=by rw [← List.flatten_append,List.take_append_drop]
  rw [this,List.length_append]; omega
def roomC (N:Nat) (z:List IV) (l:List IV):List IV:=l ++ z.drop l.length
theorem roomC_len {N:Nat} {z l:List IV} (hz:z.length=N) (hl:l.length ≤ N):(roomC N z l).length=N:=by
  unfold roomC; rw [List.length_append,List.length_drop]; omega
theorem roomC_app {N:Nat} {z l x:List IV} (hz:z.length=N) (hl:l.length + x.length ≤ N):spliceL (roomC N z l) l.length x=roomC N z (l ++ x):=by
  unfold roomC spliceL
  rw [List.take_left' rfl,List.drop_append,List.length_append]
  simp [List.drop_drop]
theorem concatU_walk (L:List (List IV)) (hL:L.length ≤ 4398046511104) (hF:L.flatten.length ≤ 4398046511104):CallsP Try.prog 86 [llL L] (.i (ivN L.flatten)):=by
  refine X_startP (n:=36) (m:=1) (rs:=[.tmp 2]) Try.func86 rfl rfl rfl rfl (by decide) fun base => ?_
  repeat (first|refine X_opc rfl ?_|refine X_dopc rfl ?_|refine ⟨(by show drawK _ _=true; kernel_rfl:drawX _ _ _),?_⟩|exact (by show drawK _ _=true; kernel_rfl:drawX _ _ _)|simp -dsimp (maxSteps:=20000000) (disch:=omega) only [simx,zzC,zzB,tys,ite_self,opnL,callB,callX,readsB,stepOp,nilCmp,ofVal,opBuiltin,opLen,PV.sk,scalBin,scalUn,intBin,opLoad,natOf,opConvert,opField,cellsP,oneP,Value.oneCell',opStore,toIV,scalT,scalA,scalC,boxesA,boxesC,zipB_none,zipB_mx,isZ,opZip,zeroP,opAppendZ,opMakeMap,opLookup,mboxB,opUpdate,↓reduceIte,Nat.reduceSub,Nat.reduceEqDiff,Nat.reduceAdd,Nat.reduceMul,Nat.reduceLT,Nat.reduceLeDiff,Int.reduceToNat,Int.reduceLE,Int.reduceLT,Int.reduceNeg,reduceCtorEq,gos,Int.reduceAdd,Int.reduceSub,Int.reduceMul,Int.reduceEq])
  have fl:=flatL_le L
  refine X_loopH [0,3,9,10,11] [] (0) (L.length) (fun j => True) (fun j => [(3,i64 ((L.take j).flatten.length:Nat)),(11,i64 j)]) (fun j => Heap.none) ?_ ?_ ?_ ?_ ?_ (by decide) ?_
  · exact (fgt_nil)
  · ((simp -dsimp (disch:=omega) only [simx,zzB,tys,ite_self,opnL,callB,callX,readsB,stepOp,nilCmp,ofVal,opBuiltin,opLen,PV.sk,scalBin,scalUn,intBin,opLoad,natOf,opConvert,opField,cellsP,oneP,Value.oneCell',opStore,toIV,scalT,scalA,scalC,boxesA,boxesC,zipB_none,zipB_mx,isZ,opZip,zeroP,opAppendZ,opMakeMap,opLookup,mboxB,opUpdate,↓reduceIte,Nat.reduceSub,Nat.reduceEqDiff,Nat.reduceAdd,Nat.reduceMul,Nat.reduceLT,Nat.reduceLeDiff,Int.reduceToNat,Int.reduceLE,Int.reduceLT,Int.reduceNeg,reduceCtorEq,gos,Int.reduceAdd,Int.reduceSub,Int.reduceMul,Int.reduceEq]) <;> first|rfl|simp [rowP])
  · exact drop_nil _
  · omega
  · trivial
  · intro j hj _
    have f1:=fl j
    by_cases cj:j < L.length
    · have g1:L[j]?=some L[j]:=List.getElem?_eq_getElem cj
      have fx:=flatL_next cj
      have f2:=fl (j + 1)
      generalize L[j]=r at g1 fx
      generalize (L.take j).flatten=F at fx f1
      rw [fx,List.length_append] at f2
      have h1:¬ ((F.length:Int) + (r.length:Int)) < 0:=by omega
      repeat (first|refine X_opc rfl ?_|refine X_dopc rfl ?_|refine ⟨(by show drawK _ _=true; kernel_rfl:drawX _ _ _),?_⟩|exact (by show drawK _ _=true; kernel_rfl:drawX _ _ _)|simp -dsimp (maxSteps:=20000000) (disch:=omega) only [simx,zzC,zzB,tys,ite_self,opnL,callB,callX,readsB,stepOp,nilCmp,ofVal,opBuiltin,opLen,PV.sk,scalBin,scalUn,intBin,opLoad,natOf,opConvert,opField,cellsP,oneP,Value.oneCell',opStore,toIV,scalT,scalA,scalC,boxesA,boxesC,zipB_none,zipB_mx,isZ,opZip,zeroP,opAppendZ,opMakeMap,opLookup,mboxB,opUpdate,↓reduceIte,Nat.reduceSub,Nat.reduceEqDiff,Nat.reduceAdd,Nat.reduceMul,Nat.reduceLT,Nat.reduceLeDiff,Int.reduceToNat,Int.reduceLE,Int.reduceLT,Int.reduceNeg,reduceCtorEq,gos,Int.reduceAdd,Int.reduceSub,Int.reduceMul,Int.reduceEq,cj,g1,h1])
      refine ⟨cj,(fgt_nil),⟨?_,rfl⟩,drop_nil _⟩
      rw [fx,List.length_append]; simp
    · have hj:j=L.length:=by omega
      subst hj
      rw [List.take_length]
      repeat (first|refine X_opc rfl ?_|refine X_dopc rfl ?_|refine ⟨(by show drawK _ _=true; kernel_rfl:drawX _ _ _),?_⟩|exact (by show drawK _ _=true; kernel_rfl:drawX _ _ _)|simp -dsimp (maxSteps:=20000000) (disch:=omega) only [simx,zzC,zzB,tys,ite_self,opnL,callB,callX,readsB,stepOp,nilCmp,ofVal,opBuiltin,opLen,PV.sk,scalBin,scalUn,intBin,opLoad,natOf,opConvert,opField,cellsP,oneP,Value.oneCell',opStore,toIV,scalT,scalA,scalC,boxesA,boxesC,zipB_none,zipB_mx,isZ,opZip,zeroP,opAppendZ,opMakeMap,opLookup,mboxB,opUpdate,↓reduceIte,Nat.reduceSub,Nat.reduceEqDiff,Nat.reduceAdd,Nat.reduceMul,Nat.reduceLT,Nat.reduceLeDiff,Int.reduceToNat,Int.reduceLE,Int.reduceLT,Int.reduceNeg,reduceCtorEq,gos,Int.reduceAdd,Int.reduceSub,Int.reduceMul,Int.reduceEq])
      generalize hFl:L.flatten=F at hF
      have sub0:∀ j (hj:j < L.length),L[j].length ≤ F.length:=fun j hj => by
        have h1:=flatL_next hj
        have h2:=fl (j + 1)
        rw [h1,List.length_append,hFl] at h2
        omega
      by_cases hF0:F.length=0
      · have hFn:F=[]:=List.eq_nil_of_length_eq_zero hF0
        subst hFn
        refine X_call_sh rfl (by simp only [tys]) rfl growU_zero ?_
        repeat (first|refine X_opc rfl ?_|refine X_dopc rfl ?_|refine ⟨(by show drawK _ _=true; kernel_rfl:drawX _ _ _),?_⟩|exact (by show drawK _ _=true; kernel_rfl:drawX _ _ _)|simp -dsimp (maxSteps:=20000000) (disch:=omega) only [simx,zzC,zzB,tys,ite_self,opnL,callB,callX,readsB,stepOp,nilCmp,ofVal,opBuiltin,opLen,PV.sk,scalBin,scalUn,intBin,opLoad,natOf,opConvert,opField,cellsP,oneP,Value.oneCell',opStore,toIV,scalT,scalA,scalC,boxesA,boxesC,zipB_none,zipB_mx,isZ,opZip,zeroP,opAppendZ,opMakeMap,opLookup,mboxB,opUpdate,↓reduceIte,Nat.reduceSub,Nat.reduceEqDiff,Nat.reduceAdd,Nat.reduceMul,Nat.reduceLT,Nat.reduceLeDiff,Int.reduceToNat,Int.reduceLE,Int.reduceLT,Int.reduceNeg,reduceCtorEq,gos,Int.reduceAdd,Int.reduceSub,Int.reduceMul,Int.reduceEq])
        refine X_loopH [6,25,26,27] [] (0) (L.length) (fun j => True) (fun j => [(6,.i (.v (.slice none 0 0))),(27,i64 j)]) (fun j => Heap.none) ?_ ?_ ?_ ?_ ?_ (by decide) ?_
        · exact (fgt_nil)
        · ((simp -dsimp (disch:=omega) only [simx,zzB,tys,ite_self,opnL,callB,callX,readsB,stepOp,nilCmp,ofVal,opBuiltin,opLen,PV.sk,scalBin,scalUn,intBin,opLoad,natOf,opConvert,opField,cellsP,oneP,Value.oneCell',opStore,toIV,scalT,scalA,scalC,boxesA,boxesC,zipB_none,zipB_mx,isZ,opZip,zeroP,opAppendZ,opMakeMap,opLookup,mboxB,opUpdate,↓reduceIte,Nat.reduceSub,Nat.reduceEqDiff,Nat.reduceAdd,Nat.reduceMul,Nat.reduceLT,Nat.reduceLeDiff,Int.reduceToNat,Int.reduceLE,Int.reduceLT,Int.reduceNeg,reduceCtorEq,gos,Int.reduceAdd,Int.reduceSub,Int.reduceMul,Int.reduceEq]) <;> first|rfl|simp [rowP])
        · exact drop_nil _
        · omega
        · trivial
        · intro j hj _
          by_cases cj:j < L.length
          · have g1:L[j]?=some L[j]:=List.getElem?_eq_getElem cj
            have g2:=sub0 j cj
            generalize L[j]=r at g1 g2
            have hr:r=[]:=List.eq_nil_of_length_eq_zero (by simpa using g2)
            subst hr
            repeat (first|refine X_opc rfl ?_|refine X_dopc rfl ?_|refine ⟨(by show drawK _ _=true; kernel_rfl:drawX _ _ _),?_⟩|exact (by show drawK _ _=true; kernel_rfl:drawX _ _ _)|simp -dsimp (maxSteps:=20000000) (disch:=omega) only [simx,zzC,zzB,tys,ite_self,opnL,callB,callX,readsB,stepOp,nilCmp,ofVal,opBuiltin,opLen,PV.sk,scalBin,scalUn,intBin,opLoad,natOf,opConvert,opField,cellsP,oneP,Value.oneCell',opStore,toIV,scalT,scalA,scalC,boxesA,boxesC,zipB_none,zipB_mx,isZ,opZip,zeroP,opAppendZ,opMakeMap,opLookup,mboxB,opUpdate,↓reduceIte,Nat.reduceSub,Nat.reduceEqDiff,Nat.reduceAdd,Nat.reduceMul,Nat.reduceLT,Nat.reduceLeDiff,Int.reduceToNat,Int.reduceLE,Int.reduceLT,Int.reduceNeg,reduceCtorEq,gos,Int.reduceAdd,Int.reduceSub,Int.reduceMul,Int.reduceEq,cj,g1])
            refine X_append_e0 22 [.int .u64 0] (by simp only [tys]) (by simp only [tys]) rfl ?_
            repeat (first|refine X_opc rfl ?_|refine X_dopc rfl ?_|refine ⟨(by show drawK _ _=true; kernel_rfl:drawX _ _ _),?_⟩|exact (by show drawK _ _=true; kernel_rfl:drawX _ _ _)|simp -dsimp (maxSteps:=20000000) (disch:=omega) only [simx,zzC,zzB,tys,ite_self,opnL,callB,callX,readsB,stepOp,nilCmp,ofVal,opBuiltin,opLen,PV.sk,scalBin,scalUn,intBin,opLoad,natOf,opConvert,opField,cellsP,oneP,Value.oneCell',opStore,toIV,scalT,scalA,scalC,boxesA,boxesC,zipB_none,zipB_mx,isZ,opZip,zeroP,opAppendZ,opMakeMap,opLookup,mboxB,opUpdate,↓reduceIte,Nat.reduceSub,Nat.reduceEqDiff,Nat.reduceAdd,Nat.reduceMul,Nat.reduceLT,Nat.reduceLeDiff,Int.reduceToNat,Int.reduceLE,Int.reduceLT,Int.reduceNeg,reduceCtorEq,gos,Int.reduceAdd,Int.reduceSub,Int.reduceMul,Int.reduceEq])
            exact ⟨cj,(fgt_nil),rfl,drop_nil _⟩
          · have hj:j=L.length:=by omega
            subst hj
            repeat (first|refine X_opc rfl ?_|refine X_dopc rfl ?_|refine ⟨(by show drawK _ _=true; kernel_rfl:drawX _ _ _),?_⟩|exact (by show drawK _ _=true; kernel_rfl:drawX _ _ _)|simp -dsimp (maxSteps:=20000000) (disch:=omega) only [simx,zzC,zzB,tys,ite_self,opnL,callB,callX,readsB,stepOp,nilCmp,ofVal,opBuiltin,opLen,PV.sk,scalBin,scalUn,intBin,opLoad,natOf,opConvert,opField,cellsP,oneP,Value.oneCell',opStore,toIV,scalT,scalA,scalC,boxesA,boxesC,zipB_none,zipB_mx,isZ,opZip,zeroP,opAppendZ,opMakeMap,opLookup,mboxB,opUpdate,↓reduceIte,Nat.reduceSub,Nat.reduceEqDiff,Nat.reduceAdd,Nat.reduceMul,Nat.reduceLT,Nat.reduceLeDiff,Int.reduceToNat,Int.reduceLE,Int.reduceLT,Int.reduceNeg,reduceCtorEq,zzR,gos,Int.reduceAdd,Int.reduceSub,Int.reduceMul,Int.reduceEq])
            rfl
      · have e0:0 < F.length:=by omega
        refine X_call_sh rfl (by simp only [tys]) rfl (growU_walk F.length e0 hF rfl) ?_
        have zl:=zeros_len F.length .u64
        generalize (zeroRow [Value.int .u64 0] F.length).map IV.v=z at zl
        repeat (first|refine X_opc rfl ?_|refine X_dopc rfl ?_|refine ⟨(by show drawK _ _=true; kernel_rfl:drawX _ _ _),?_⟩|exact (by show drawK _ _=true; kernel_rfl:drawX _ _ _)|simp -dsimp (maxSteps:=20000000) (disch:=omega) only [simx,zzC,zzB,tys,ite_self,opnL,callB,callX,readsB,stepOp,nilCmp,ofVal,opBuiltin,opLen,PV.sk,scalBin,scalUn,intBin,opLoad,natOf,opConvert,opField,cellsP,oneP,Value.oneCell',opStore,toIV,scalT,scalA,scalC,boxesA,boxesC,zipB_none,zipB_mx,isZ,opZip,zeroP,opAppendZ,opMakeMap,opLookup,mboxB,opUpdate,↓reduceIte,Nat.reduceSub,Nat.reduceEqDiff,Nat.reduceAdd,Nat.reduceMul,Nat.reduceLT,Nat.reduceLeDiff,Int.reduceToNat,Int.reduceLE,Int.reduceLT,Int.reduceNeg,reduceCtorEq,gos,Int.reduceAdd,Int.reduceSub,Int.reduceMul,Int.reduceEq])
        refine X_loopH [6,25,26,27] [] (0) (L.length) (fun j => True) (fun j => [(6,.view ((5,5)::(9,1)::base) 0 1 (L.take j).flatten.length F.length),(27,i64 j)]) (fun j => Heap.none.put ((5,5)::(9,1)::base) (.row false (roomC F.length z (L.take j).flatten))) ?_ ?_ ?_ ?_ ?_ (by decide) ?_
        · exact (fgt_nil)
        · ((simp -dsimp (disch:=omega) only [simx,zzB,tys,ite_self,opnL,callB,callX,readsB,stepOp,nilCmp,ofVal,opBuiltin,opLen,PV.sk,scalBin,scalUn,intBin,opLoad,natOf,opConvert,opField,cellsP,oneP,Value.oneCell',opStore,toIV,scalT,scalA,scalC,boxesA,boxesC,zipB_none,zipB_mx,isZ,opZip,zeroP,opAppendZ,opMakeMap,opLookup,mboxB,opUpdate,↓reduceIte,Nat.reduceSub,Nat.reduceEqDiff,Nat.reduceAdd,Nat.reduceMul,Nat.reduceLT,Nat.reduceLeDiff,Int.reduceToNat,Int.reduceLE,Int.reduceLT,Int.reduceNeg,reduceCtorEq,gos,Int.reduceAdd,Int.reduceSub,Int.reduceMul,Int.reduceEq]) <;> first|rfl|simp [rowP])
        · rw [drop_nil]; rfl
        · omega
        · trivial
        · intro j hj _
          by_cases cj:j < L.length
          · have g1:L[j]?=some L[j]:=List.getElem?_eq_getElem cj
            have fx:=flatL_next cj
            have f2:=fl (j + 1)
            generalize L[j]=r at g1 fx
            rw [fx] at f2
            rw [hFl] at f2
            generalize (L.take j).flatten=G at fx f2 ⊢
            rw [List.length_append] at f2
            have rl:=roomC_len (N:=F.length) (l:=G) zl (by omega)
            by_cases hr:r.length=0
            · have hr:r=[]:=List.eq_nil_of_length_eq_zero hr
              subst hr
              rw [List.append_nil] at fx
              repeat (first|refine X_opc rfl ?_|refine X_dopc rfl ?_|refine ⟨(by show drawK _ _=true; kernel_rfl:drawX _ _ _),?_⟩|exact (by show drawK _ _=true; kernel_rfl:drawX _ _ _)|simp -dsimp (maxSteps:=20000000) (disch:=omega) only [simx,zzC,zzB,tys,ite_self,opnL,callB,callX,readsB,stepOp,nilCmp,ofVal,opBuiltin,opLen,PV.sk,scalBin,scalUn,intBin,opLoad,natOf,opConvert,opField,cellsP,oneP,Value.oneCell',opStore,toIV,scalT,scalA,scalC,boxesA,boxesC,zipB_none,zipB_mx,isZ,opZip,zeroP,opAppendZ,opMakeMap,opLookup,mboxB,opUpdate,↓reduceIte,Nat.reduceSub,Nat.reduceEqDiff,Nat.reduceAdd,Nat.reduceMul,Nat.reduceLT,Nat.reduceLeDiff,Int.reduceToNat,Int.reduceLE,Int.reduceLT,Int.reduceNeg,reduceCtorEq,gos,Int.reduceAdd,Int.reduceSub,Int.reduceMul,Int.reduceEq,cj,g1])
              refine X_append_e1 22 [.int .u64 0] (by simp only [tys]) (by simp only [tys]) rfl (by simp only [tys]; omega) (by rw [mx_len]; omega) ?_
              repeat (first|refine X_opc rfl ?_|refine X_dopc rfl ?_|refine ⟨(by show drawK _ _=true; kernel_rfl:drawX _ _ _),?_⟩|exact (by show drawK _ _=true; kernel_rfl:drawX _ _ _)|simp -dsimp (maxSteps:=20000000) (disch:=omega) only [simx,zzC,zzB,tys,ite_self,opnL,callB,callX,readsB,stepOp,nilCmp,ofVal,opBuiltin,opLen,PV.sk,scalBin,scalUn,intBin,opLoad,natOf,opConvert,opField,cellsP,oneP,Value.oneCell',opStore,toIV,scalT,scalA,scalC,boxesA,boxesC,zipB_none,zipB_mx,isZ,opZip,zeroP,opAppendZ,opMakeMap,opLookup,mboxB,opUpdate,↓reduceIte,Nat.reduceSub,Nat.reduceEqDiff,Nat.reduceAdd,Nat.reduceMul,Nat.reduceLT,Nat.reduceLeDiff,Int.reduceToNat,Int.reduceLE,Int.reduceLT,Int.reduceNeg,reduceCtorEq,gos,Int.reduceAdd,Int.reduceSub,Int.reduceMul,Int.reduceEq])
              refine ⟨cj,(fgt_nil),⟨by rw [fx],rfl⟩,by rw [fx]; exact drop_nil _⟩
            · repeat (first|refine X_opc rfl ?_|refine X_dopc rfl ?_|refine ⟨(by show drawK _ _=true; kernel_rfl:drawX _ _ _),?_⟩|exact (by show drawK _ _=true; kernel_rfl:drawX _ _ _)|simp -dsimp (maxSteps:=20000000) (disch:=omega) only [simx,zzC,zzB,tys,ite_self,opnL,callB,callX,readsB,stepOp,nilCmp,ofVal,opBuiltin,opLen,PV.sk,scalBin,scalUn,intBin,opLoad,natOf,opConvert,opField,cellsP,oneP,Value.oneCell',opStore,toIV,scalT,scalA,scalC,boxesA,boxesC,zipB_none,zipB_mx,isZ,opZip,zeroP,opAppendZ,opMakeMap,opLookup,mboxB,opUpdate,↓reduceIte,Nat.reduceSub,Nat.reduceEqDiff,Nat.reduceAdd,Nat.reduceMul,Nat.reduceLT,Nat.reduceLeDiff,Int.reduceToNat,Int.reduceLE,Int.reduceLT,Int.reduceNeg,reduceCtorEq,gos,Int.reduceAdd,Int.reduceSub,Int.reduceMul,Int.reduceEq,cj,g1])
              refine X_append_room 22 [.int .u64 0] r (by simp only [tys]) (by simp only [tys]) rfl (by simp [Heap.put_at]) rl (by omega) rfl (by omega) (by simp only [tys]; omega) (by rw [mx_len]; omega) ?_
              rw [roomC_app zl (by omega)]
              repeat (first|refine X_opc rfl ?_|refine X_dopc rfl ?_|refine ⟨(by show drawK _ _=true; kernel_rfl:drawX _ _ _),?_⟩|exact (by show drawK _ _=true; kernel_rfl:drawX _ _ _)|simp -dsimp (maxSteps:=20000000) (disch:=omega) only [simx,zzC,zzB,tys,ite_self,opnL,callB,callX,readsB,stepOp,nilCmp,ofVal,opBuiltin,opLen,PV.sk,scalBin,scalUn,intBin,opLoad,natOf,opConvert,opField,cellsP,oneP,Value.oneCell',opStore,toIV,scalT,scalA,scalC,boxesA,boxesC,zipB_none,zipB_mx,isZ,opZip,zeroP,opAppendZ,opMakeMap,opLookup,mboxB,opUpdate,↓reduceIte,Nat.reduceSub,Nat.reduceEqDiff,Nat.reduceAdd,Nat.reduceMul,Nat.reduceLT,Nat.reduceLeDiff,Int.reduceToNat,Int.reduceLE,Int.reduceLT,Int.reduceNeg,reduceCtorEq,gos,Int.reduceAdd,Int.reduceSub,Int.reduceMul,Int.reduceEq])
              refine ⟨cj,(fgt_nil),⟨by rw [fx,List.length_append],rfl⟩,?_⟩
              rw [fx]
              funext c
              simp (maxSteps:=20000000) only [Heap.drop_at,rowH_app,Heap.put_at,Heap.none_at,List.mem_cons,List.not_mem_nil,or_false]
              by_cases e0:c=(5,5)::(9,1)::base
              · subst e0; simp []
              simp [e0]
          · have hj:j=L.length:=by omega
            subst hj
            rw [List.take_length,hFl]
            have rz:roomC F.length z F=F:=by unfold roomC; rw [List.drop_eq_nil_of_le (by omega),List.append_nil]
            rw [rz]
            have e2:F.take F.length=F:=List.take_length
            repeat (first|refine X_opc rfl ?_|refine X_dopc rfl ?_|refine ⟨(by show drawK _ _=true; kernel_rfl:drawX _ _ _),?_⟩|exact (by show drawK _ _=true; kernel_rfl:drawX _ _ _)|simp -dsimp (maxSteps:=20000000) (disch:=omega) only [simx,zzC,zzB,tys,ite_self,opnL,callB,callX,readsB,stepOp,nilCmp,ofVal,opBuiltin,opLen,PV.sk,scalBin,scalUn,intBin,opLoad,natOf,opConvert,opField,cellsP,oneP,Value.oneCell',opStore,toIV,scalT,scalA,scalC,boxesA,boxesC,zipB_none,zipB_mx,isZ,opZip,zeroP,opAppendZ,opMakeMap,opLookup,mboxB,opUpdate,↓reduceIte,Nat.reduceSub,Nat.reduceEqDiff,Nat.reduceAdd,Nat.reduceMul,Nat.reduceLT,Nat.reduceLeDiff,Int.reduceToNat,Int.reduceLE,Int.reduceLT,Int.reduceNeg,reduceCtorEq,zzR,gos,Int.reduceAdd,Int.reduceSub,Int.reduceMul,Int.reduceEq,e2])
end Go.Proofs.Ytmalpmnmknpphaa.TM
namespace Go.Proofs.Ytmalpmnmknpphaa.TM
open Go Go.RowKit
attribute [local irreducible] K W WOps Effs Xg Xo Xr Xdg Xdo Xdr Xif CallsP CallR
structure CupW (p:Int) (R C:Nat) (c:CupT):Prop where
  ql:c.2.1.length=c.1.length
  ul:c.2.2.2.length=c.1.length
  cl:c.2.2.1.length=R
  rb:∀ a ∈ c.1,0 ≤ a ∧ a < R
  qb:∀ a ∈ c.2.1,0 ≤ a ∧ a < C
  ur:∀ u ∈ c.2.2.2,u.length=C ∧ ∀ a ∈ u,In p a
  cr:∀ x ∈ c.2.2.1,x.length=c.1.length ∧ ∀ a ∈ x,In p a
  nz:∀ k,k < c.1.length → (c.2.2.2.getD k []).getD (c.2.1.getD k 0).toNat 0 ≠ 0
  rle:c.1.length ≤ R
theorem getD_mm {α:Type} {l:List α} {d:α} {i:Nat} (h:i < l.length):l.getD i d ∈ l:=by
  rw [List.getD_eq_getElem?_getD,List.getElem?_eq_getElem h]; exact List.getElem_mem h
theorem getD_at' {α:Type} {l:List α} {d:α} {i:Nat} (h:i < l.length):l[i]?=some (l.getD i d):=by
  rw [List.getD_eq_getElem?_getD,List.getElem?_eq_getElem h]; rfl
theorem take_next' {α:Type} {l:List α} {d:α} {i:Nat} (h:i < l.length):l.take (i + 1)=l.take i ++ [l.getD i d]:=by
  rw [List.take_add_one,getD_at' h]; rfl
theorem tkCup_W {P R C:Nat} {l:List Int} (hP:Prm P) (M:Mt P R C l) (hin:∀ a ∈ l,In P a):CupW P R C (tkCup P C R l):=by
  have I:=tkN_I hP M hin R (Nat.le_refl R)
  unfold tkCup
  generalize hT:tkN P C l R=T at I
  have one:In (P:Int) 0:=⟨by decide,by have:=M.hp.1; omega⟩
  refine ⟨by simp only; rw [I.ql,I.rl],by simp only; rw [I.rl],by simp [I.cl],I.rb,I.qb,I.ul,fun x hx => ?_,?_,by simp only; rw [I.rl]; exact I.ri⟩
  · obtain ⟨c,hc,rfl⟩:=List.mem_map.1 hx
    obtain ⟨h1,h2⟩:=I.cb c hc
    refine ⟨by unfold padF; simp [I.rl]; omega,fun a ha => ?_⟩
    unfold padF at ha
    rcases List.mem_append.1 ha with ha|ha
    · exact h2 a ha
    · rw [List.eq_of_mem_replicate ha]; exact one
  · intro k hk
    have hk2:k < T.us.length:=by rw [← I.rl]; exact hk
    have:∀ i,i ≤ R → ∀ k,k < (tkN P C l i).us.length → ((tkN P C l i).us.getD k []).getD ((tkN P C l i).cols.getD k 0).toNat 0 ≠ 0:=by
      intro i
      induction i with
      | zero => intro _ k hk; exact absurd hk (Nat.not_lt_zero k)
      | succ i ih =>
        intro hi k hk
        have J:=tkN_I hP M hin i (by omega)
        have ih:=ih (by omega)
        have e:tkN P C l (i + 1)=tkRow P (tkN P C l i) i (rowM C l i):=rfl
        rw [e] at hk ⊢
        generalize tkN P C l i=T at J ih hk
        rcases nzA_spec (rstT P T (rowM C l i)) 0 with ⟨z1,_⟩|⟨n,z1,z2,z3,_⟩
        · obtain ⟨_,t2,t3,_⟩:=tk_no (p:=P) (T:=T) (row:=rowM C l i) (x:=i) (by rw [z1]; decide)
          rw [t3] at hk
          rw [t2,t3]; exact ih k hk
        · obtain ⟨_,t2,t3,_⟩:=tk_yes (p:=P) (T:=T) (row:=rowM C l i) (x:=i) (by rw [z1]; omega)
          rw [t3,List.length_append,List.length_singleton] at hk
          rw [t2,t3,z1]
          have ql:=J.ql
          by_cases c:k < T.us.length
          · have e1:(T.us ++ [rstT P T (rowM C l i)]).getD k []=T.us.getD k []:=by rw [List.getD_eq_getElem?_getD,List.getElem?_append_left c,List.getD_eq_getElem?_getD]
            have e2:(T.cols ++ [((0 + n:Nat):Int)]).getD k 0=T.cols.getD k 0:=by rw [List.getD_eq_getElem?_getD,List.getElem?_append_left (by omega),List.getD_eq_getElem?_getD]
            rw [e1,e2]; exact ih k c
          · have ek:k=T.us.length:=by omega
            have e1:(T.us ++ [rstT P T (rowM C l i)]).getD k []=rstT P T (rowM C l i):=by rw [List.getD_eq_getElem?_getD,List.getElem?_append_right (by omega),ek]; simp
            have e2:(T.cols ++ [((0 + n:Nat):Int)]).getD k 0=((0 + n:Nat):Int):=by rw [List.getD_eq_getElem?_getD,List.getElem?_append_right (by omega),ek,ql]; simp
            rw [e1,e2,show (((0 + n:Nat):Int)).toNat=n by omega]; exact z3
    have:=this R (Nat.le_refl R) k (by rw [hT]; exact hk2)
    rw [hT] at this
    exact this
end Go.Proofs.Ytmalpmnmknpphaa.TM
namespace Go.Proofs.Ytmalpmnmknpphaa.TM
open Go Go.RowKit
attribute [local irreducible] K W WOps Effs Xg Xo Xr Xdg Xdo Xdr Xif CallsP CallR
theorem bool_of (p:Prop):∃ b:Bool,(b=true ↔ p):=by
  by_cases h:p
  · exact ⟨true,by simp [h]⟩
  · exact ⟨false,by simp [h]⟩
theorem bool_no {b:Bool} {p:Prop} (hb:b=true ↔ p) (h:¬ p):b=false:=by
  cases b
  · rfl
  · exact absurd (hb.1 rfl) h
def lastV (rws:List Int):Nat → Int
  | 0 => -1
  | j + 1 => rws.getD j 0
def goodR (rws:List Int) (R:Int) (j:Nat):Prop:=lastV rws j < rws.getD j 0 ∧ rws.getD j 0 < R
def goodK (cls:List Int) (C:Int) (j:Nat):Prop:=0 ≤ cls.getD j 0 ∧ cls.getD j 0 < C ∧ cls.getD j 0 ∉ cls.take j
def namedP (rws cls:List Int) (R C:Int):Prop:=(∀ j,j < rws.length → goodR rws R j) ∧ (∀ j,j < cls.length → goodK cls C j) ∧ rws.length=cls.length ∧ (rws.length:Int) ≤ R ∧ (rws.length:Int) ≤ C
set_option maxHeartbeats 4000000 in
theorem named_walk {rws cls:List Int} {cc uu:List (List Int)} {R C:Int} (hr:rws.length ≤ 4096) (hc:cls.length ≤ 4096):∃ b:Bool,CallsP Try.prog 84 [cupQ (rws,cls,cc,uu),i64 R,i64 C] (bl b) ∧ (b=true ↔ namedP rws cls R C):=by
  obtain ⟨b,hb⟩:=bool_of (namedP rws cls R C)
  refine ⟨b,?_,hb⟩
  refine X_startP (n:=69) (m:=3) (rs:=[.tmp 6]) Try.func84 rfl rfl rfl rfl (by decide) fun base => ?_
  repeat (first|refine X_opc rfl ?_|refine X_dopc rfl ?_|refine ⟨(by show drawK _ _=true; kernel_rfl:drawX _ _ _),?_⟩|exact (by show drawK _ _=true; kernel_rfl:drawX _ _ _)|simp -dsimp (maxSteps:=20000000) (disch:=omega) only [simx,zzC,zzB,tys,ite_self,opnL,callB,callX,readsB,stepOp,nilCmp,ofVal,opBuiltin,opLen,PV.sk,scalBin,scalUn,intBin,opLoad,natOf,opConvert,opField,cellsP,oneP,Value.oneCell',opStore,toIV,scalT,scalA,scalC,boxesA,boxesC,zipB_none,zipB_mx,isZ,opZip,zeroP,opAppendZ,opMakeMap,opLookup,mboxB,opUpdate,↓reduceIte,Nat.reduceSub,Nat.reduceEqDiff,Nat.reduceAdd,Nat.reduceMul,Nat.reduceLT,Nat.reduceLeDiff,Int.reduceToNat,Int.reduceLE,Int.reduceLT,Int.reduceNeg,reduceCtorEq,gos,Int.reduceAdd,Int.reduceSub,Int.reduceMul,Int.reduceEq,SK.len])
  refine X_loopH [1,2,3,7,14,15,16] [] (0) (rws.length) (fun j => (∀ i,i < j → goodR rws R i)) (fun j => [(7,i64 (lastV rws j)),(16,i64 j)]) (fun j => Heap.none.put ((0,0)::base) (.var [li rws,li cls,llP cc,llP uu])) ?_ ?_ ?_ ?_ ?_ (by decide) ?_
  · exact (fgt_nil)
  · ((simp -dsimp (disch:=omega) only [simx,zzB,tys,ite_self,opnL,callB,callX,readsB,stepOp,nilCmp,ofVal,opBuiltin,opLen,PV.sk,scalBin,scalUn,intBin,opLoad,natOf,opConvert,opField,cellsP,oneP,Value.oneCell',opStore,toIV,scalT,scalA,scalC,boxesA,boxesC,zipB_none,zipB_mx,isZ,opZip,zeroP,opAppendZ,opMakeMap,opLookup,mboxB,opUpdate,↓reduceIte,Nat.reduceSub,Nat.reduceEqDiff,Nat.reduceAdd,Nat.reduceMul,Nat.reduceLT,Nat.reduceLeDiff,Int.reduceToNat,Int.reduceLE,Int.reduceLT,Int.reduceNeg,reduceCtorEq,gos,Int.reduceAdd,Int.reduceSub,Int.reduceMul,Int.reduceEq]) <;> first|rfl|simp [lastV])
  · exact drop_nil _
  · omega
  · intro i hi; omega
  · intro j hj hf
    by_cases cj:j < rws.length
    · have g1:(rws.map ii)[j]?=some (ii (rws.getD j 0)):=by rw [List.getElem?_map,getD_some rfl cj]; rfl
      have nx:lastV rws (j + 1)=rws.getD j 0:=rfl
      by_cases h1:rws.getD j 0 ≤ lastV rws j
      · rw [bool_no hb fun h => by have:=(h.1 j cj).1; omega]
        generalize rws.getD j 0=a at g1 h1
        generalize lastV rws j=l0 at h1 ⊢
        repeat (first|refine X_opc rfl ?_|refine X_dopc rfl ?_|refine ⟨(by show drawK _ _=true; kernel_rfl:drawX _ _ _),?_⟩|exact (by show drawK _ _=true; kernel_rfl:drawX _ _ _)|simp -dsimp (maxSteps:=20000000) (disch:=omega) only [simx,zzC,zzB,tys,ite_self,opnL,callB,callX,readsB,stepOp,nilCmp,ofVal,opBuiltin,opLen,PV.sk,scalBin,scalUn,intBin,opLoad,natOf,opConvert,opField,cellsP,oneP,Value.oneCell',opStore,toIV,scalT,scalA,scalC,boxesA,boxesC,zipB_none,zipB_mx,isZ,opZip,zeroP,opAppendZ,opMakeMap,opLookup,mboxB,opUpdate,↓reduceIte,Nat.reduceSub,Nat.reduceEqDiff,Nat.reduceAdd,Nat.reduceMul,Nat.reduceLT,Nat.reduceLeDiff,Int.reduceToNat,Int.reduceLE,Int.reduceLT,Int.reduceNeg,reduceCtorEq,zzR,gos,Int.reduceAdd,Int.reduceSub,Int.reduceMul,Int.reduceEq,cj,g1,h1,SK.len,List.length_map])
      · by_cases h2:R ≤ rws.getD j 0
        · rw [bool_no hb fun h => by have:=(h.1 j cj).2; omega]
          generalize rws.getD j 0=a at g1 h1 h2
          generalize lastV rws j=l0 at h1 ⊢
          repeat (first|refine X_opc rfl ?_|refine X_dopc rfl ?_|refine ⟨(by show drawK _ _=true; kernel_rfl:drawX _ _ _),?_⟩|exact (by show drawK _ _=true; kernel_rfl:drawX _ _ _)|simp -dsimp (maxSteps:=20000000) (disch:=omega) only [simx,zzC,zzB,tys,ite_self,opnL,callB,callX,readsB,stepOp,nilCmp,ofVal,opBuiltin,opLen,PV.sk,scalBin,scalUn,intBin,opLoad,natOf,opConvert,opField,cellsP,oneP,Value.oneCell',opStore,toIV,scalT,scalA,scalC,boxesA,boxesC,zipB_none,zipB_mx,isZ,opZip,zeroP,opAppendZ,opMakeMap,opLookup,mboxB,opUpdate,↓reduceIte,Nat.reduceSub,Nat.reduceEqDiff,Nat.reduceAdd,Nat.reduceMul,Nat.reduceLT,Nat.reduceLeDiff,Int.reduceToNat,Int.reduceLE,Int.reduceLT,Int.reduceNeg,reduceCtorEq,zzR,gos,Int.reduceAdd,Int.reduceSub,Int.reduceMul,Int.reduceEq,cj,g1,h1,h2,SK.len,List.length_map])
        · have gd:goodR rws R j:=⟨by omega,by omega⟩
          have al:∀ i,i < j + 1 → goodR rws R i:=fun i hi => by
            by_cases e:i=j
            · rw [e]; exact gd
            · exact hf i (by omega)
          clear gd hb
          obtain ⟨l1,hl1⟩:∃ x,lastV rws (j + 1)=x:=⟨_,rfl⟩
          rw [hl1] at nx
          generalize rws.getD j 0=a at g1 h1 h2 nx
          generalize lastV rws j=l0 at h1 ⊢
          repeat (first|refine X_opc rfl ?_|refine X_dopc rfl ?_|refine ⟨(by show drawK _ _=true; kernel_rfl:drawX _ _ _),?_⟩|exact (by show drawK _ _=true; kernel_rfl:drawX _ _ _)|simp -dsimp (maxSteps:=20000000) (disch:=omega) only [simx,zzC,zzB,tys,ite_self,opnL,callB,callX,readsB,stepOp,nilCmp,ofVal,opBuiltin,opLen,PV.sk,scalBin,scalUn,intBin,opLoad,natOf,opConvert,opField,cellsP,oneP,Value.oneCell',opStore,toIV,scalT,scalA,scalC,boxesA,boxesC,zipB_none,zipB_mx,isZ,opZip,zeroP,opAppendZ,opMakeMap,opLookup,mboxB,opUpdate,↓reduceIte,Nat.reduceSub,Nat.reduceEqDiff,Nat.reduceAdd,Nat.reduceMul,Nat.reduceLT,Nat.reduceLeDiff,Int.reduceToNat,Int.reduceLE,Int.reduceLT,Int.reduceNeg,reduceCtorEq,gos,Int.reduceAdd,Int.reduceSub,Int.reduceMul,Int.reduceEq,cj,g1,h1,h2,SK.len,List.length_map])
          refine ⟨cj,(fgt_nil),al,?_,drop_nil _⟩
          rw [hl1,nx]
          exact ⟨rfl,rfl⟩
    · obtain rfl:rws.length=j:=by omega
      generalize lastV rws rws.length=l0
      repeat (first|refine X_opc rfl ?_|refine X_dopc rfl ?_|refine ⟨(by show drawK _ _=true; kernel_rfl:drawX _ _ _),?_⟩|exact (by show drawK _ _=true; kernel_rfl:drawX _ _ _)|simp -dsimp (maxSteps:=20000000) (disch:=omega) only [simx,zzC,zzB,tys,ite_self,opnL,callB,callX,readsB,stepOp,nilCmp,ofVal,opBuiltin,opLen,PV.sk,scalBin,scalUn,intBin,opLoad,natOf,opConvert,opField,cellsP,oneP,Value.oneCell',opStore,toIV,scalT,scalA,scalC,boxesA,boxesC,zipB_none,zipB_mx,isZ,opZip,zeroP,opAppendZ,opMakeMap,opLookup,mboxB,opUpdate,↓reduceIte,Nat.reduceSub,Nat.reduceEqDiff,Nat.reduceAdd,Nat.reduceMul,Nat.reduceLT,Nat.reduceLeDiff,Int.reduceToNat,Int.reduceLE,Int.reduceLT,Int.reduceNeg,reduceCtorEq,gos,Int.reduceAdd,Int.reduceSub,Int.reduceMul,Int.reduceEq,SK.len])
      refine X_loopH [1,2,3,10,32,33,34] [] (0) (cls.length) (fun j => (∀ i,i < j → goodK cls C i)) (fun j => [(34,i64 j)]) (fun j => (Heap.none.put ((0,0)::base) (.var [li rws,li cls,llP cc,llP uu])).put ((9,0)::base) (.map .i64 (trM (cls.take j)))) ?_ ?_ ?_ ?_ ?_ (by decide) ?_
      · exact (fgt_nil)
      · ((simp -dsimp (disch:=omega) only [simx,zzB,tys,ite_self,opnL,callB,callX,readsB,stepOp,nilCmp,ofVal,opBuiltin,opLen,PV.sk,scalBin,scalUn,intBin,opLoad,natOf,opConvert,opField,cellsP,oneP,Value.oneCell',opStore,toIV,scalT,scalA,scalC,boxesA,boxesC,zipB_none,zipB_mx,isZ,opZip,zeroP,opAppendZ,opMakeMap,opLookup,mboxB,opUpdate,↓reduceIte,Nat.reduceSub,Nat.reduceEqDiff,Nat.reduceAdd,Nat.reduceMul,Nat.reduceLT,Nat.reduceLeDiff,Int.reduceToNat,Int.reduceLE,Int.reduceLT,Int.reduceNeg,reduceCtorEq,gos,Int.reduceAdd,Int.reduceSub,Int.reduceMul,Int.reduceEq]) <;> first|rfl|simp)
      · funext c
        simp (maxSteps:=20000000) only [Heap.drop_at,rowH_app,Heap.put_at,Heap.none_at,List.mem_cons,List.not_mem_nil,or_false]
        by_cases e0:c=(0,0)::base
        · subst e0; simp [trM]
        by_cases e1:c=(9,0)::base
        · subst e1; simp [trM]
        simp [e0,e1,trM]
      · omega
      · intro i hi; omega
      · intro j hj hk
        by_cases cj:j < cls.length
        · have g1:(cls.map ii)[j]?=some (ii (cls.getD j 0)):=by rw [List.getElem?_map,getD_some rfl cj]; rfl
          have tn:=take_next' (d:=(0:Int)) cj
          by_cases h1:cls.getD j 0 < 0
          · rw [bool_no hb fun h => by have:=(h.2.1 j cj).1; omega]
            generalize cls.getD j 0=a at g1 h1
            repeat (first|refine X_opc rfl ?_|refine X_dopc rfl ?_|refine ⟨(by show drawK _ _=true; kernel_rfl:drawX _ _ _),?_⟩|exact (by show drawK _ _=true; kernel_rfl:drawX _ _ _)|simp -dsimp (maxSteps:=20000000) (disch:=omega) only [simx,zzC,zzB,tys,ite_self,opnL,callB,callX,readsB,stepOp,nilCmp,ofVal,opBuiltin,opLen,PV.sk,scalBin,scalUn,intBin,opLoad,natOf,opConvert,opField,cellsP,oneP,Value.oneCell',opStore,toIV,scalT,scalA,scalC,boxesA,boxesC,zipB_none,zipB_mx,isZ,opZip,zeroP,opAppendZ,opMakeMap,opLookup,mboxB,opUpdate,↓reduceIte,Nat.reduceSub,Nat.reduceEqDiff,Nat.reduceAdd,Nat.reduceMul,Nat.reduceLT,Nat.reduceLeDiff,Int.reduceToNat,Int.reduceLE,Int.reduceLT,Int.reduceNeg,reduceCtorEq,zzR,gos,Int.reduceAdd,Int.reduceSub,Int.reduceMul,Int.reduceEq,cj,g1,h1,SK.len,List.length_map])
          · by_cases h2:C ≤ cls.getD j 0
            · rw [bool_no hb fun h => by have:=(h.2.1 j cj).2.1; omega]
              generalize cls.getD j 0=a at g1 h1 h2
              repeat (first|refine X_opc rfl ?_|refine X_dopc rfl ?_|refine ⟨(by show drawK _ _=true; kernel_rfl:drawX _ _ _),?_⟩|exact (by show drawK _ _=true; kernel_rfl:drawX _ _ _)|simp -dsimp (maxSteps:=20000000) (disch:=omega) only [simx,zzC,zzB,tys,ite_self,opnL,callB,callX,readsB,stepOp,nilCmp,ofVal,opBuiltin,opLen,PV.sk,scalBin,scalUn,intBin,opLoad,natOf,opConvert,opField,cellsP,oneP,Value.oneCell',opStore,toIV,scalT,scalA,scalC,boxesA,boxesC,zipB_none,zipB_mx,isZ,opZip,zeroP,opAppendZ,opMakeMap,opLookup,mboxB,opUpdate,↓reduceIte,Nat.reduceSub,Nat.reduceEqDiff,Nat.reduceAdd,Nat.reduceMul,Nat.reduceLT,Nat.reduceLeDiff,Int.reduceToNat,Int.reduceLE,Int.reduceLT,Int.reduceNeg,reduceCtorEq,zzR,gos,Int.reduceAdd,Int.reduceSub,Int.reduceMul,Int.reduceEq,cj,g1,h1,h2,SK.len,List.length_map])
            · have gm:=getM_tr (cls.getD j 0) (cls.take j)
              by_cases h3:cls.getD j 0 ∈ cls.take j
              · rw [bool_no hb fun h => (h.2.1 j cj).2.2 h3]
                rw [if_pos h3] at gm
                clear tn h3
                generalize cls.getD j 0=a at g1 h1 h2 gm
                generalize trM (cls.take j)=tm at gm ⊢
                repeat (first|refine X_opc rfl ?_|refine X_dopc rfl ?_|refine ⟨(by show drawK _ _=true; kernel_rfl:drawX _ _ _),?_⟩|exact (by show drawK _ _=true; kernel_rfl:drawX _ _ _)|simp -dsimp (maxSteps:=20000000) (disch:=omega) only [simx,zzC,zzB,tys,ite_self,opnL,callB,callX,readsB,stepOp,nilCmp,ofVal,opBuiltin,opLen,PV.sk,scalBin,scalUn,intBin,opLoad,natOf,opConvert,opField,cellsP,oneP,Value.oneCell',opStore,toIV,scalT,scalA,scalC,boxesA,boxesC,zipB_none,zipB_mx,isZ,opZip,zeroP,opAppendZ,opMakeMap,opLookup,mboxB,opUpdate,↓reduceIte,Nat.reduceSub,Nat.reduceEqDiff,Nat.reduceAdd,Nat.reduceMul,Nat.reduceLT,Nat.reduceLeDiff,Int.reduceToNat,Int.reduceLE,Int.reduceLT,Int.reduceNeg,reduceCtorEq,zzR,gos,Int.reduceAdd,Int.reduceSub,Int.reduceMul,Int.reduceEq,cj,g1,h1,h2,gm,Option.getD_some,SK.len,List.length_map])
              · have pm:=putM_tr (cls.getD j 0) (cls.take j) h3
                rw [if_neg h3] at gm
                have gd:goodK cls C j:=⟨by omega,by omega,h3⟩
                have al:∀ i,i < j + 1 → goodK cls C i:=fun i hi => by
                  by_cases e:i=j
                  · rw [e]; exact gd
                  · exact hk i (by omega)
                clear gd hb h3 hf hk
                rw [← tn] at pm
                clear tn
                generalize hT:trM (cls.take (j + 1))=tm' at pm
                generalize trM (cls.take j)=tm at pm gm ⊢
                generalize cls.getD j 0=a at g1 h1 h2 gm pm
                repeat (first|refine X_opc rfl ?_|refine X_dopc rfl ?_|refine ⟨(by show drawK _ _=true; kernel_rfl:drawX _ _ _),?_⟩|exact (by show drawK _ _=true; kernel_rfl:drawX _ _ _)|simp -dsimp (maxSteps:=20000000) (disch:=omega) only [simx,zzC,zzB,tys,ite_self,opnL,callB,callX,readsB,stepOp,nilCmp,ofVal,opBuiltin,opLen,PV.sk,scalBin,scalUn,intBin,opLoad,natOf,opConvert,opField,cellsP,oneP,Value.oneCell',opStore,toIV,scalT,scalA,scalC,boxesA,boxesC,zipB_none,zipB_mx,isZ,opZip,zeroP,opAppendZ,opMakeMap,opLookup,mboxB,opUpdate,↓reduceIte,Nat.reduceSub,Nat.reduceEqDiff,Nat.reduceAdd,Nat.reduceMul,Nat.reduceLT,Nat.reduceLeDiff,Int.reduceToNat,Int.reduceLE,Int.reduceLT,Int.reduceNeg,reduceCtorEq,gos,Int.reduceAdd,Int.reduceSub,Int.reduceMul,Int.reduceEq,cj,g1,h1,h2,gm,pm,Option.getD_none,SK.len,List.length_map])
                refine ⟨cj,(fgt_nil),al,rfl,?_⟩
                rw [hT]
                funext c
                simp (maxSteps:=20000000) only [Heap.drop_at,rowH_app,Heap.put_at,Heap.none_at,List.mem_cons,List.not_mem_nil,or_false]
                by_cases e0:c=(0,0)::base
                · subst e0; simp [pm]
                by_cases e1:c=(9,0)::base
                · subst e1; simp [pm]
                simp [e0,e1,pm]
        · obtain rfl:cls.length=j:=by omega
          generalize trM (cls.take cls.length)=tm
          by_cases e1:(rws.length:Int)=cls.length
          · by_cases hcr:C < R
            · by_cases e2:(rws.length:Int) ≤ C
              · rw [hb.2 ⟨hf,hk,by omega,by omega,by omega⟩]
                have e3:(cls.length:Int) ≤ C:=by omega
                repeat (first|refine X_opc rfl ?_|refine X_dopc rfl ?_|refine ⟨(by show drawK _ _=true; kernel_rfl:drawX _ _ _),?_⟩|exact (by show drawK _ _=true; kernel_rfl:drawX _ _ _)|simp -dsimp (maxSteps:=20000000) (disch:=omega) only [simx,zzC,zzB,tys,ite_self,opnL,callB,callX,readsB,stepOp,nilCmp,ofVal,opBuiltin,opLen,PV.sk,scalBin,scalUn,intBin,opLoad,natOf,opConvert,opField,cellsP,oneP,Value.oneCell',opStore,toIV,scalT,scalA,scalC,boxesA,boxesC,zipB_none,zipB_mx,isZ,opZip,zeroP,opAppendZ,opMakeMap,opLookup,mboxB,opUpdate,↓reduceIte,Nat.reduceSub,Nat.reduceEqDiff,Nat.reduceAdd,Nat.reduceMul,Nat.reduceLT,Nat.reduceLeDiff,Int.reduceToNat,Int.reduceLE,Int.reduceLT,Int.reduceNeg,reduceCtorEq,zzR,gos,Int.reduceAdd,Int.reduceSub,Int.reduceMul,Int.reduceEq,e1,e2,e3,hcr,SK.len])
              · rw [bool_no hb fun h => e2 (by have:=h.2.2.2; omega)]
                have e3:¬ (cls.length:Int) ≤ C:=by omega
                repeat (first|refine X_opc rfl ?_|refine X_dopc rfl ?_|refine ⟨(by show drawK _ _=true; kernel_rfl:drawX _ _ _),?_⟩|exact (by show drawK _ _=true; kernel_rfl:drawX _ _ _)|simp -dsimp (maxSteps:=20000000) (disch:=omega) only [simx,zzC,zzB,tys,ite_self,opnL,callB,callX,readsB,stepOp,nilCmp,ofVal,opBuiltin,opLen,PV.sk,scalBin,scalUn,intBin,opLoad,natOf,opConvert,opField,cellsP,oneP,Value.oneCell',opStore,toIV,scalT,scalA,scalC,boxesA,boxesC,zipB_none,zipB_mx,isZ,opZip,zeroP,opAppendZ,opMakeMap,opLookup,mboxB,opUpdate,↓reduceIte,Nat.reduceSub,Nat.reduceEqDiff,Nat.reduceAdd,Nat.reduceMul,Nat.reduceLT,Nat.reduceLeDiff,Int.reduceToNat,Int.reduceLE,Int.reduceLT,Int.reduceNeg,reduceCtorEq,zzR,gos,Int.reduceAdd,Int.reduceSub,Int.reduceMul,Int.reduceEq,e1,e2,e3,hcr,SK.len])
            · by_cases e2:(rws.length:Int) ≤ R
              · rw [hb.2 ⟨hf,hk,by omega,by omega,by omega⟩]
                have e3:(cls.length:Int) ≤ R:=by omega
                repeat (first|refine X_opc rfl ?_|refine X_dopc rfl ?_|refine ⟨(by show drawK _ _=true; kernel_rfl:drawX _ _ _),?_⟩|exact (by show drawK _ _=true; kernel_rfl:drawX _ _ _)|simp -dsimp (maxSteps:=20000000) (disch:=omega) only [simx,zzC,zzB,tys,ite_self,opnL,callB,callX,readsB,stepOp,nilCmp,ofVal,opBuiltin,opLen,PV.sk,scalBin,scalUn,intBin,opLoad,natOf,opConvert,opField,cellsP,oneP,Value.oneCell',opStore,toIV,scalT,scalA,scalC,boxesA,boxesC,zipB_none,zipB_mx,isZ,opZip,zeroP,opAppendZ,opMakeMap,opLookup,mboxB,opUpdate,↓reduceIte,Nat.reduceSub,Nat.reduceEqDiff,Nat.reduceAdd,Nat.reduceMul,Nat.reduceLT,Nat.reduceLeDiff,Int.reduceToNat,Int.reduceLE,Int.reduceLT,Int.reduceNeg,reduceCtorEq,zzR,gos,Int.reduceAdd,Int.reduceSub,Int.reduceMul,Int.reduceEq,e1,e2,e3,hcr,SK.len])
              · rw [bool_no hb fun h => e2 (by have:=h.2.2.2; omega)]
                have e3:¬ (cls.length:Int) ≤ R:=by omega
                repeat (first|refine X_opc rfl ?_|refine X_dopc rfl ?_|refine ⟨(by show drawK _ _=true; kernel_rfl:drawX _ _ _),?_⟩|exact (by show drawK _ _=true; kernel_rfl:drawX _ _ _)|simp -dsimp (maxSteps:=20000000) (disch:=omega) only [simx,zzC,zzB,tys,ite_self,opnL,callB,callX,readsB,stepOp,nilCmp,ofVal,opBuiltin,opLen,PV.sk,scalBin,scalUn,intBin,opLoad,natOf,opConvert,opField,cellsP,oneP,Value.oneCell',opStore,toIV,scalT,scalA,scalC,boxesA,boxesC,zipB_none,zipB_mx,isZ,opZip,zeroP,opAppendZ,opMakeMap,opLookup,mboxB,opUpdate,↓reduceIte,Nat.reduceSub,Nat.reduceEqDiff,Nat.reduceAdd,Nat.reduceMul,Nat.reduceLT,Nat.reduceLeDiff,Int.reduceToNat,Int.reduceLE,Int.reduceLT,Int.reduceNeg,reduceCtorEq,zzR,gos,Int.reduceAdd,Int.reduceSub,Int.reduceMul,Int.reduceEq,e1,e2,e3,hcr,SK.len])
          · rw [bool_no hb fun h => e1 (by have:=h.2.2.1; omega)]
            repeat (first|refine X_opc rfl ?_|refine X_dopc rfl ?_|refine ⟨(by show drawK _ _=true; kernel_rfl:drawX _ _ _),?_⟩|exact (by show drawK _ _=true; kernel_rfl:drawX _ _ _)|simp -dsimp (maxSteps:=20000000) (disch:=omega) only [simx,zzC,zzB,tys,ite_self,opnL,callB,callX,readsB,stepOp,nilCmp,ofVal,opBuiltin,opLen,PV.sk,scalBin,scalUn,intBin,opLoad,natOf,opConvert,opField,cellsP,oneP,Value.oneCell',opStore,toIV,scalT,scalA,scalC,boxesA,boxesC,zipB_none,zipB_mx,isZ,opZip,zeroP,opAppendZ,opMakeMap,opLookup,mboxB,opUpdate,↓reduceIte,Nat.reduceSub,Nat.reduceEqDiff,Nat.reduceAdd,Nat.reduceMul,Nat.reduceLT,Nat.reduceLeDiff,Int.reduceToNat,Int.reduceLE,Int.reduceLT,Int.reduceNeg,reduceCtorEq,zzR,gos,Int.reduceAdd,Int.reduceSub,Int.reduceMul,Int.reduceEq,e1,SK.len])
def partB (cc:List (List Int)) (k i:Nat):Bool:=(List.range i).all (fun q => decide ((cc.getD q []).getD k 0=0)) && decide ((cc.getD i []).getD k 0=1)
theorem partB_iff {cc:List (List Int)} {k i:Nat}:partB cc k i=true ↔ (∀ q,q < i → (cc.getD q []).getD k 0=0) ∧ (cc.getD i []).getD k 0=1:=by
  unfold partB; simp
set_option maxHeartbeats 4000000 in
theorem part_walk {rws cls:List Int} {cc uu:List (List Int)} {k i:Nat} (h1:rws[k]?=some (i:Int)) (hi:i < cc.length) (hc:∀ x ∈ cc,k < x.length) (h64:cc.length ≤ 64) (hk:k ≤ 64) :
    CallsP Try.prog 88 [cupQ (rws,cls,cc,uu),i64 k] (bl (partB cc k i)):=by
  have g1:(rws.map ii)[k]?=some (ii (i:Int)):=by rw [List.getElem?_map,h1]; rfl
  have k1:k < rws.length:=by
    rcases Nat.lt_or_ge k rws.length with h|h
    · exact h
    · rw [List.getElem?_eq_none h] at h1; cases h1
  have row:∀ q,q < cc.length → (cc.map fun u => IV.l u.length (u.map iu))[q]?=some (.l (cc.getD q []).length ((cc.getD q []).map iu)):=fun q hq => by rw [List.getElem?_map,getD_at' (d:=[]) hq]; rfl
  have cel:∀ q,q < cc.length → k < (cc.getD q []).length ∧ ((cc.getD q []).map iu)[k]?=some (iu ((cc.getD q []).getD k 0)):=fun q hq => by
    have h:=hc _ (getD_mm (l:=cc) (d:=[]) hq)
    exact ⟨h,by rw [List.getElem?_map,getD_some rfl h]; rfl⟩
  have ile:i ≤ cc.length:=by omega
  have l1:((cc.map fun u => IV.l u.length (u.map iu)).take i).length=i:=by rw [List.length_take,List.length_map]; omega
  obtain ⟨b,hb⟩:∃ b,partB cc k i=b:=⟨_,rfl⟩
  have hb':b=true ↔ (∀ q,q < i → (cc.getD q []).getD k 0=0) ∧ (cc.getD i []).getD k 0=1:=by rw [← hb]; exact partB_iff
  rw [hb]
  obtain ⟨S,hS⟩:∃ S,(cc.map fun u => IV.l u.length (u.map iu)).take i=S:=⟨_,rfl⟩
  have gS:∀ q,q < i → S[q]?=some (.l (cc.getD q []).length ((cc.getD q []).map iu)):=fun q hq => by rw [← hS,List.getElem?_take,if_pos hq]; exact row q (by omega)
  rw [hS] at l1
  refine X_startP (n:=39) (m:=2) (rs:=[.tmp 4]) Try.func88 rfl rfl rfl rfl (by decide) fun base => ?_
  repeat (first|refine X_opc rfl ?_|refine X_dopc rfl ?_|refine ⟨(by show drawK _ _=true; kernel_rfl:drawX _ _ _),?_⟩|exact (by show drawK _ _=true; kernel_rfl:drawX _ _ _)|simp -dsimp (maxSteps:=20000000) (disch:=omega) only [simx,zzC,zzB,tys,ite_self,opnL,callB,callX,readsB,stepOp,nilCmp,ofVal,opBuiltin,opLen,PV.sk,scalBin,scalUn,intBin,opLoad,natOf,opConvert,opField,cellsP,oneP,Value.oneCell',opStore,toIV,scalT,scalA,scalC,boxesA,boxesC,zipB_none,zipB_mx,isZ,opZip,zeroP,opAppendZ,opMakeMap,opLookup,mboxB,opUpdate,↓reduceIte,Nat.reduceSub,Nat.reduceEqDiff,Nat.reduceAdd,Nat.reduceMul,Nat.reduceLT,Nat.reduceLeDiff,Int.reduceToNat,Int.reduceLE,Int.reduceLT,Int.reduceNeg,reduceCtorEq,gos,Int.reduceAdd,Int.reduceSub,Int.reduceMul,Int.reduceEq,g1,k1,hS,l1,ile,Nat.zero_le,Nat.sub_zero,SK.len,List.length_map])
  refine X_loopH [1,2,14,15,16] [] (0) (i) (fun j => (∀ q,q < j → (cc.getD q []).getD k 0=0)) (fun j => [(16,i64 j)]) (fun j => Heap.none.put ((0,0)::base) (.var [li rws,li cls,llP cc,llP uu])) ?_ ?_ ?_ ?_ ?_ (by decide) ?_
  · exact (fgt_nil)
  · ((simp -dsimp (disch:=omega) only [simx,zzB,tys,ite_self,opnL,callB,callX,readsB,stepOp,nilCmp,ofVal,opBuiltin,opLen,PV.sk,scalBin,scalUn,intBin,opLoad,natOf,opConvert,opField,cellsP,oneP,Value.oneCell',opStore,toIV,scalT,scalA,scalC,boxesA,boxesC,zipB_none,zipB_mx,isZ,opZip,zeroP,opAppendZ,opMakeMap,opLookup,mboxB,opUpdate,↓reduceIte,Nat.reduceSub,Nat.reduceEqDiff,Nat.reduceAdd,Nat.reduceMul,Nat.reduceLT,Nat.reduceLeDiff,Int.reduceToNat,Int.reduceLE,Int.reduceLT,Int.reduceNeg,reduceCtorEq,gos,Int.reduceAdd,Int.reduceSub,Int.reduceMul,Int.reduceEq]) <;> first|rfl|simp)
  · exact drop_nil _
  · omega
  · intro q hq; omega
  · intro j hj hf
    by_cases cj:j < i
    · have g2:=gS j cj
      obtain ⟨g3,g4⟩:=cel j (by omega)
      by_cases h0:(cc.getD j []).getD k 0=0
      · have al:∀ q,q < j + 1 → (cc.getD q []).getD k 0=0:=fun q hq => by
          by_cases e:q=j
          · rw [e]; exact h0
          · exact hf q (by omega)
        rw [h0] at g4
        clear hb hb' row cel gS hf h0
        generalize cc.getD j []=X at g2 g3 g4
        repeat (first|refine X_opc rfl ?_|refine X_dopc rfl ?_|refine ⟨(by show drawK _ _=true; kernel_rfl:drawX _ _ _),?_⟩|exact (by show drawK _ _=true; kernel_rfl:drawX _ _ _)|simp -dsimp (maxSteps:=20000000) (disch:=omega) only [simx,zzC,zzB,tys,ite_self,opnL,callB,callX,readsB,stepOp,nilCmp,ofVal,opBuiltin,opLen,PV.sk,scalBin,scalUn,intBin,opLoad,natOf,opConvert,opField,cellsP,oneP,Value.oneCell',opStore,toIV,scalT,scalA,scalC,boxesA,boxesC,zipB_none,zipB_mx,isZ,opZip,zeroP,opAppendZ,opMakeMap,opLookup,mboxB,opUpdate,↓reduceIte,Nat.reduceSub,Nat.reduceEqDiff,Nat.reduceAdd,Nat.reduceMul,Nat.reduceLT,Nat.reduceLeDiff,Int.reduceToNat,Int.reduceLE,Int.reduceLT,Int.reduceNeg,reduceCtorEq,gos,Int.reduceAdd,Int.reduceSub,Int.reduceMul,Int.reduceEq,cj,g2,g3,g4,l1,SK.len,List.length_map])
        exact ⟨cj,(fgt_nil),al,rfl,drop_nil _⟩
      · rw [bool_no hb' fun h => h0 (h.1 j cj)]
        clear hb hb' row cel gS hf
        generalize hX:cc.getD j []=X at g2 g3 g4 h0
        generalize X.getD k 0=x at g4 h0
        repeat (first|refine X_opc rfl ?_|refine X_dopc rfl ?_|refine ⟨(by show drawK _ _=true; kernel_rfl:drawX _ _ _),?_⟩|exact (by show drawK _ _=true; kernel_rfl:drawX _ _ _)|simp -dsimp (maxSteps:=20000000) (disch:=omega) only [simx,zzC,zzB,tys,ite_self,opnL,callB,callX,readsB,stepOp,nilCmp,ofVal,opBuiltin,opLen,PV.sk,scalBin,scalUn,intBin,opLoad,natOf,opConvert,opField,cellsP,oneP,Value.oneCell',opStore,toIV,scalT,scalA,scalC,boxesA,boxesC,zipB_none,zipB_mx,isZ,opZip,zeroP,opAppendZ,opMakeMap,opLookup,mboxB,opUpdate,↓reduceIte,Nat.reduceSub,Nat.reduceEqDiff,Nat.reduceAdd,Nat.reduceMul,Nat.reduceLT,Nat.reduceLeDiff,Int.reduceToNat,Int.reduceLE,Int.reduceLT,Int.reduceNeg,reduceCtorEq,zzR,gos,Int.reduceAdd,Int.reduceSub,Int.reduceMul,Int.reduceEq,cj,g2,g3,g4,l1,h0,SK.len,List.length_map])
    · obtain rfl:i=j:=by omega
      have g2:=row i hi
      obtain ⟨g3,g4⟩:=cel i hi
      by_cases h0:(cc.getD i []).getD k 0=1
      · rw [hb'.2 ⟨hf,h0⟩]
        rw [h0] at g4
        clear hb hb' row cel gS hf h0
        generalize cc.getD i []=X at g2 g3 g4
        repeat (first|refine X_opc rfl ?_|refine X_dopc rfl ?_|refine ⟨(by show drawK _ _=true; kernel_rfl:drawX _ _ _),?_⟩|exact (by show drawK _ _=true; kernel_rfl:drawX _ _ _)|simp -dsimp (maxSteps:=20000000) (disch:=omega) only [simx,zzC,zzB,tys,ite_self,opnL,callB,callX,readsB,stepOp,nilCmp,ofVal,opBuiltin,opLen,PV.sk,scalBin,scalUn,intBin,opLoad,natOf,opConvert,opField,cellsP,oneP,Value.oneCell',opStore,toIV,scalT,scalA,scalC,boxesA,boxesC,zipB_none,zipB_mx,isZ,opZip,zeroP,opAppendZ,opMakeMap,opLookup,mboxB,opUpdate,↓reduceIte,Nat.reduceSub,Nat.reduceEqDiff,Nat.reduceAdd,Nat.reduceMul,Nat.reduceLT,Nat.reduceLeDiff,Int.reduceToNat,Int.reduceLE,Int.reduceLT,Int.reduceNeg,reduceCtorEq,zzR,gos,Int.reduceAdd,Int.reduceSub,Int.reduceMul,Int.reduceEq,g1,k1,g2,g3,g4,hi,SK.len,List.length_map])
      · rw [bool_no hb' fun h => h0 h.2]
        clear hb hb' row cel gS hf
        generalize hX:cc.getD i []=X at g2 g3 g4 h0
        generalize X.getD k 0=x at g4 h0
        repeat (first|refine X_opc rfl ?_|refine X_dopc rfl ?_|refine ⟨(by show drawK _ _=true; kernel_rfl:drawX _ _ _),?_⟩|exact (by show drawK _ _=true; kernel_rfl:drawX _ _ _)|simp -dsimp (maxSteps:=20000000) (disch:=omega) only [simx,zzC,zzB,tys,ite_self,opnL,callB,callX,readsB,stepOp,nilCmp,ofVal,opBuiltin,opLen,PV.sk,scalBin,scalUn,intBin,opLoad,natOf,opConvert,opField,cellsP,oneP,Value.oneCell',opStore,toIV,scalT,scalA,scalC,boxesA,boxesC,zipB_none,zipB_mx,isZ,opZip,zeroP,opAppendZ,opMakeMap,opLookup,mboxB,opUpdate,↓reduceIte,Nat.reduceSub,Nat.reduceEqDiff,Nat.reduceAdd,Nat.reduceMul,Nat.reduceLT,Nat.reduceLeDiff,Int.reduceToNat,Int.reduceLE,Int.reduceLT,Int.reduceNeg,reduceCtorEq,zzR,gos,Int.reduceAdd,Int.reduceSub,Int.reduceMul,Int.reduceEq,g1,k1,g2,g3,g4,hi,h0,SK.len,List.length_map])
def hasP (p:Int) (R C:Int) (c:CupT):Prop:=(1 ≤ R ∧ R ≤ 64) ∧ (1 ≤ C ∧ C ≤ 64) ∧ namedP c.1 c.2.1 R C ∧ ((c.2.2.2.length:Int)=c.1.length ∧ ∀ u ∈ c.2.2.2,(u.length:Int)=C) ∧ ((c.2.2.1.length:Int)=R ∧ ∀ u ∈ c.2.2.1,(u.length:Int)=c.1.length) ∧
  HasB p c.2.2.2.flatten=true ∧ HasB p c.2.2.1.flatten=true ∧ ∀ k,k < c.1.length → restB (c.2.2.2.getD k []) c.2.1 k (c.2.1.getD k 0).toNat=true ∧ partB c.2.2.1 k (c.1.getD k 0).toNat=true
theorem flat_map13:∀ L:List (List Int),(L.map fun u => u.map iu).flatten=L.flatten.map iu
  | [] => rfl
  | a::L => by rw [List.map_cons,List.flatten_cons,List.flatten_cons,List.map_append,flat_map13 L]
theorem flat_len13 {L:List (List Int)} {n:Nat} (h:∀ u ∈ L,u.length=n):L.flatten.length=L.length * n:=by
  induction L with
  | nil => simp
  | cons a L ih =>
    rw [List.flatten_cons,List.length_append,ih fun u hu => h u (by simp [hu]),h a (by simp),List.length_cons,Nat.succ_mul]; omega
theorem concat13_walk {L:List (List Int)} (hL:L.length ≤ 4096) (hF:L.flatten.length ≤ 1000000):CallsP Try.prog 86 [llP L] (lu L.flatten):=by
  have h:=concatU_walk (L.map fun u => u.map iu) (by rw [List.length_map]; omega) (by rw [flat_map13,List.length_map]; omega)
  rw [flat_map13] at h
  simpa [llL,ivN,llP,lu,List.map_map,Function.comp_def] using h
theorem namedP_row {rws cls:List Int} {R C:Int} (h:namedP rws cls R C):∀ k,k < rws.length → 0 ≤ rws.getD k 0 ∧ rws.getD k 0 < R
  | 0,hk => by
    have h1:=h.1 0 hk
    have h2:lastV rws 0=-1:=rfl
    exact ⟨by have:=h1.1; omega,h1.2⟩
  | k + 1,hk => by
    have h1:=h.1 (k + 1) hk
    have h2:lastV rws (k + 1)=rws.getD k 0:=rfl
    have h3:=namedP_row h k (by omega)
    exact ⟨by have:=h1.1; omega,h1.2⟩
theorem namedP_col {rws cls:List Int} {R C:Int} (h:namedP rws cls R C) {a:Int} (ha:a ∈ cls):0 ≤ a ∧ a < C:=by
  obtain ⟨k,hk,rfl⟩:=List.getElem_of_mem ha
  have h1:=h.2.1 k hk
  have e:cls.getD k 0=cls[k]:=by rw [List.getD_eq_getElem?_getD,List.getElem?_eq_getElem hk]; rfl
  unfold goodK at h1
  rw [e] at h1
  exact ⟨h1.1,h1.2.1⟩
set_option maxHeartbeats 4000000 in
theorem has13_walk {p R C:Int} {c:CupT} (hr:c.1.length ≤ 4096) (hc:c.2.1.length ≤ 4096) (hcc:c.2.2.1.length ≤ 4096) (huu:c.2.2.2.length ≤ 4096):∃ b:Bool,CallsP Try.prog 39 [u64 p,cupQ c,i64 R,i64 C] (bl b) ∧ (b=true ↔ hasP p R C c):=by
  obtain ⟨rws,cls,cc,uu⟩:=c
  simp only at hr hc hcc huu
  obtain ⟨b,hb⟩:=bool_of (hasP p R C (rws,cls,cc,uu))
  refine ⟨b,?_,hb⟩
  have d1:=side13_walk R
  have d2:=side13_walk C
  obtain ⟨bn,d3,hn⟩:=named_walk (cc:=cc) (uu:=uu) (R:=R) (C:=C) hr hc
  have d4:=sized_walk (l:=uu) rws.length C (by rw [mx_len]; omega)
  have d5:=sized_walk (l:=cc) R rws.length (by rw [mx_len]; omega)
  have i4:=sizedB_iff uu rws.length C
  have i5:=sizedB_iff cc R rws.length
  by_cases a1:1 ≤ R ∧ R ≤ 64
  case neg =>
    rw [bool_no hb fun h => a1 h.1]
    rw [show (decide (1 ≤ R) && decide (R ≤ 64))=false by
      cases h:(decide (1 ≤ R) && decide (R ≤ 64)) with
      | false => rfl
      | true => simp at h; exact absurd h a1] at d1
    refine X_startP (n:=74) (m:=4) (rs:=[.tmp 8]) Try.func39 rfl rfl rfl rfl (by decide) fun base => ?_
    repeat (first|((first|refine X_call_fn2 rfl (by simp only [tys]) ?_|refine X_dcall_fn2 rfl (by simp only [tys]) ?_); apply Exists.intro; apply And.intro; (focus (simp -dsimp only [simx,zzC,zzB,tys,ite_self,opnL,callB,callX,readsB,stepOp,nilCmp,ofVal,opBuiltin,opLen,PV.sk,scalBin,scalUn,intBin,opLoad,natOf,opConvert,opField,cellsP,oneP,Value.oneCell',opStore,toIV,scalT,scalA,scalC,boxesA,boxesC,zipB_none,zipB_mx,isZ,opZip,zeroP,opAppendZ,opMakeMap,opLookup,mboxB,opUpdate,↓reduceIte,Nat.reduceSub,Nat.reduceEqDiff,Nat.reduceAdd,Nat.reduceMul,Nat.reduceLT,Nat.reduceLeDiff,Int.reduceToNat,Int.reduceLE,Int.reduceLT,Int.reduceNeg,reduceCtorEq,zzL,if_true,if_false] <;> rfl)); apply Exists.intro; apply And.intro; (focus (first|exact d1)))|refine X_opc rfl ?_|refine X_dopc rfl ?_|refine ⟨(by show drawK _ _=true; kernel_rfl:drawX _ _ _),?_⟩|exact (by show drawK _ _=true; kernel_rfl:drawX _ _ _)|simp -dsimp (maxSteps:=20000000) (disch:=omega) only [simx,zzC,zzB,tys,ite_self,opnL,callB,callX,readsB,stepOp,nilCmp,ofVal,opBuiltin,opLen,PV.sk,scalBin,scalUn,intBin,opLoad,natOf,opConvert,opField,cellsP,oneP,Value.oneCell',opStore,toIV,scalT,scalA,scalC,boxesA,boxesC,zipB_none,zipB_mx,isZ,opZip,zeroP,opAppendZ,opMakeMap,opLookup,mboxB,opUpdate,↓reduceIte,Nat.reduceSub,Nat.reduceEqDiff,Nat.reduceAdd,Nat.reduceMul,Nat.reduceLT,Nat.reduceLeDiff,Int.reduceToNat,Int.reduceLE,Int.reduceLT,Int.reduceNeg,reduceCtorEq,zzR,gos,Int.reduceAdd,Int.reduceSub,Int.reduceMul,Int.reduceEq,SK.len])
  rw [show (decide (1 ≤ R) && decide (R ≤ 64))=true by simp [a1]] at d1
  by_cases a2:1 ≤ C ∧ C ≤ 64
  case neg =>
    rw [bool_no hb fun h => a2 h.2.1]
    rw [show (decide (1 ≤ C) && decide (C ≤ 64))=false by
      cases h:(decide (1 ≤ C) && decide (C ≤ 64)) with
      | false => rfl
      | true => simp at h; exact absurd h a2] at d2
    refine X_startP (n:=74) (m:=4) (rs:=[.tmp 8]) Try.func39 rfl rfl rfl rfl (by decide) fun base => ?_
    repeat (first|((first|refine X_call_fn2 rfl (by simp only [tys]) ?_|refine X_dcall_fn2 rfl (by simp only [tys]) ?_); apply Exists.intro; apply And.intro; (focus (simp -dsimp only [simx,zzC,zzB,tys,ite_self,opnL,callB,callX,readsB,stepOp,nilCmp,ofVal,opBuiltin,opLen,PV.sk,scalBin,scalUn,intBin,opLoad,natOf,opConvert,opField,cellsP,oneP,Value.oneCell',opStore,toIV,scalT,scalA,scalC,boxesA,boxesC,zipB_none,zipB_mx,isZ,opZip,zeroP,opAppendZ,opMakeMap,opLookup,mboxB,opUpdate,↓reduceIte,Nat.reduceSub,Nat.reduceEqDiff,Nat.reduceAdd,Nat.reduceMul,Nat.reduceLT,Nat.reduceLeDiff,Int.reduceToNat,Int.reduceLE,Int.reduceLT,Int.reduceNeg,reduceCtorEq,zzL,if_true,if_false] <;> rfl)); apply Exists.intro; apply And.intro; (focus (first|exact d1|exact d2)))|refine X_opc rfl ?_|refine X_dopc rfl ?_|refine ⟨(by show drawK _ _=true; kernel_rfl:drawX _ _ _),?_⟩|exact (by show drawK _ _=true; kernel_rfl:drawX _ _ _)|simp -dsimp (maxSteps:=20000000) (disch:=omega) only [simx,zzC,zzB,tys,ite_self,opnL,callB,callX,readsB,stepOp,nilCmp,ofVal,opBuiltin,opLen,PV.sk,scalBin,scalUn,intBin,opLoad,natOf,opConvert,opField,cellsP,oneP,Value.oneCell',opStore,toIV,scalT,scalA,scalC,boxesA,boxesC,zipB_none,zipB_mx,isZ,opZip,zeroP,opAppendZ,opMakeMap,opLookup,mboxB,opUpdate,↓reduceIte,Nat.reduceSub,Nat.reduceEqDiff,Nat.reduceAdd,Nat.reduceMul,Nat.reduceLT,Nat.reduceLeDiff,Int.reduceToNat,Int.reduceLE,Int.reduceLT,Int.reduceNeg,reduceCtorEq,zzR,gos,Int.reduceAdd,Int.reduceSub,Int.reduceMul,Int.reduceEq,SK.len])
  rw [show (decide (1 ≤ C) && decide (C ≤ 64))=true by simp [a2]] at d2
  cases bn with
  | false =>
    rw [bool_no hb fun h => by have:=hn.2 h.2.2.1; cases this]
    refine X_startP (n:=74) (m:=4) (rs:=[.tmp 8]) Try.func39 rfl rfl rfl rfl (by decide) fun base => ?_
    repeat (first|((first|refine X_call_fn2 rfl (by simp only [tys]) ?_|refine X_dcall_fn2 rfl (by simp only [tys]) ?_); apply Exists.intro; apply And.intro; (focus (simp -dsimp only [simx,zzC,zzB,tys,ite_self,opnL,callB,callX,readsB,stepOp,nilCmp,ofVal,opBuiltin,opLen,PV.sk,scalBin,scalUn,intBin,opLoad,natOf,opConvert,opField,cellsP,oneP,Value.oneCell',opStore,toIV,scalT,scalA,scalC,boxesA,boxesC,zipB_none,zipB_mx,isZ,opZip,zeroP,opAppendZ,opMakeMap,opLookup,mboxB,opUpdate,↓reduceIte,Nat.reduceSub,Nat.reduceEqDiff,Nat.reduceAdd,Nat.reduceMul,Nat.reduceLT,Nat.reduceLeDiff,Int.reduceToNat,Int.reduceLE,Int.reduceLT,Int.reduceNeg,reduceCtorEq,zzL,if_true,if_false] <;> rfl)); apply Exists.intro; apply And.intro; (focus (first|exact d1|exact d2|exact d3)))|refine X_opc rfl ?_|refine X_dopc rfl ?_|refine ⟨(by show drawK _ _=true; kernel_rfl:drawX _ _ _),?_⟩|exact (by show drawK _ _=true; kernel_rfl:drawX _ _ _)|simp -dsimp (maxSteps:=20000000) (disch:=omega) only [simx,zzC,zzB,tys,ite_self,opnL,callB,callX,readsB,stepOp,nilCmp,ofVal,opBuiltin,opLen,PV.sk,scalBin,scalUn,intBin,opLoad,natOf,opConvert,opField,cellsP,oneP,Value.oneCell',opStore,toIV,scalT,scalA,scalC,boxesA,boxesC,zipB_none,zipB_mx,isZ,opZip,zeroP,opAppendZ,opMakeMap,opLookup,mboxB,opUpdate,↓reduceIte,Nat.reduceSub,Nat.reduceEqDiff,Nat.reduceAdd,Nat.reduceMul,Nat.reduceLT,Nat.reduceLeDiff,Int.reduceToNat,Int.reduceLE,Int.reduceLT,Int.reduceNeg,reduceCtorEq,zzR,gos,Int.reduceAdd,Int.reduceSub,Int.reduceMul,Int.reduceEq,SK.len])
  | true =>
  have n1:=hn.1 rfl
  cases s4:sizedB uu rws.length C with
  | false =>
    rw [bool_no hb fun h => by have:=i4.2 h.2.2.2.1; rw [s4] at this; cases this]
    rw [s4] at d4
    refine X_startP (n:=74) (m:=4) (rs:=[.tmp 8]) Try.func39 rfl rfl rfl rfl (by decide) fun base => ?_
    repeat (first|((first|refine X_call_fn2 rfl (by simp only [tys]) ?_|refine X_dcall_fn2 rfl (by simp only [tys]) ?_); apply Exists.intro; apply And.intro; (focus (simp -dsimp only [simx,zzC,zzB,tys,ite_self,opnL,callB,callX,readsB,stepOp,nilCmp,ofVal,opBuiltin,opLen,PV.sk,scalBin,scalUn,intBin,opLoad,natOf,opConvert,opField,cellsP,oneP,Value.oneCell',opStore,toIV,scalT,scalA,scalC,boxesA,boxesC,zipB_none,zipB_mx,isZ,opZip,zeroP,opAppendZ,opMakeMap,opLookup,mboxB,opUpdate,↓reduceIte,Nat.reduceSub,Nat.reduceEqDiff,Nat.reduceAdd,Nat.reduceMul,Nat.reduceLT,Nat.reduceLeDiff,Int.reduceToNat,Int.reduceLE,Int.reduceLT,Int.reduceNeg,reduceCtorEq,zzL,if_true,if_false] <;> rfl)); apply Exists.intro; apply And.intro; (focus (first|exact d1|exact d2|exact d3|exact d4)))|refine X_opc rfl ?_|refine X_dopc rfl ?_|refine ⟨(by show drawK _ _=true; kernel_rfl:drawX _ _ _),?_⟩|exact (by show drawK _ _=true; kernel_rfl:drawX _ _ _)|simp -dsimp (maxSteps:=20000000) (disch:=omega) only [simx,zzC,zzB,tys,ite_self,opnL,callB,callX,readsB,stepOp,nilCmp,ofVal,opBuiltin,opLen,PV.sk,scalBin,scalUn,intBin,opLoad,natOf,opConvert,opField,cellsP,oneP,Value.oneCell',opStore,toIV,scalT,scalA,scalC,boxesA,boxesC,zipB_none,zipB_mx,isZ,opZip,zeroP,opAppendZ,opMakeMap,opLookup,mboxB,opUpdate,↓reduceIte,Nat.reduceSub,Nat.reduceEqDiff,Nat.reduceAdd,Nat.reduceMul,Nat.reduceLT,Nat.reduceLeDiff,Int.reduceToNat,Int.reduceLE,Int.reduceLT,Int.reduceNeg,reduceCtorEq,zzR,gos,Int.reduceAdd,Int.reduceSub,Int.reduceMul,Int.reduceEq,SK.len])
  | true =>
  cases s5:sizedB cc R rws.length with
  | false =>
    rw [bool_no hb fun h => by have:=i5.2 h.2.2.2.2.1; rw [s5] at this; cases this]
    rw [s4] at d4
    rw [s5] at d5
    refine X_startP (n:=74) (m:=4) (rs:=[.tmp 8]) Try.func39 rfl rfl rfl rfl (by decide) fun base => ?_
    repeat (first|((first|refine X_call_fn2 rfl (by simp only [tys]) ?_|refine X_dcall_fn2 rfl (by simp only [tys]) ?_); apply Exists.intro; apply And.intro; (focus (simp -dsimp only [simx,zzC,zzB,tys,ite_self,opnL,callB,callX,readsB,stepOp,nilCmp,ofVal,opBuiltin,opLen,PV.sk,scalBin,scalUn,intBin,opLoad,natOf,opConvert,opField,cellsP,oneP,Value.oneCell',opStore,toIV,scalT,scalA,scalC,boxesA,boxesC,zipB_none,zipB_mx,isZ,opZip,zeroP,opAppendZ,opMakeMap,opLookup,mboxB,opUpdate,↓reduceIte,Nat.reduceSub,Nat.reduceEqDiff,Nat.reduceAdd,Nat.reduceMul,Nat.reduceLT,Nat.reduceLeDiff,Int.reduceToNat,Int.reduceLE,Int.reduceLT,Int.reduceNeg,reduceCtorEq,zzL,if_true,if_false] <;> rfl)); apply Exists.intro; apply And.intro; (focus (first|exact d1|exact d2|exact d3|exact d4|exact d5)))|refine X_opc rfl ?_|refine X_dopc rfl ?_|refine ⟨(by show drawK _ _=true; kernel_rfl:drawX _ _ _),?_⟩|exact (by show drawK _ _=true; kernel_rfl:drawX _ _ _)|simp -dsimp (maxSteps:=20000000) (disch:=omega) only [simx,zzC,zzB,tys,ite_self,opnL,callB,callX,readsB,stepOp,nilCmp,ofVal,opBuiltin,opLen,PV.sk,scalBin,scalUn,intBin,opLoad,natOf,opConvert,opField,cellsP,oneP,Value.oneCell',opStore,toIV,scalT,scalA,scalC,boxesA,boxesC,zipB_none,zipB_mx,isZ,opZip,zeroP,opAppendZ,opMakeMap,opLookup,mboxB,opUpdate,↓reduceIte,Nat.reduceSub,Nat.reduceEqDiff,Nat.reduceAdd,Nat.reduceMul,Nat.reduceLT,Nat.reduceLeDiff,Int.reduceToNat,Int.reduceLE,Int.reduceLT,Int.reduceNeg,reduceCtorEq,zzR,gos,Int.reduceAdd,Int.reduceSub,Int.reduceMul,Int.reduceEq,SK.len])
  | true =>
  rw [s4] at d4
  rw [s5] at d5
  have m4:=i4.1 s4
  have m5:=i5.1 s5
  obtain ⟨Rn,hRn⟩:∃ Rn:Nat,R=Rn:=⟨R.toNat,by omega⟩
  obtain ⟨Cn,hCn⟩:∃ Cn:Nat,C=Cn:=⟨C.toNat,by omega⟩
  have fu:uu.flatten.length=uu.length * Cn:=flat_len13 fun u hu => by have:=m4.2 u hu; omega
  have fc:cc.flatten.length=cc.length * rws.length:=flat_len13 fun u hu => by have:=m5.2 u hu; omega
  have rle:=n1.2.2.2
  have b1:uu.length * Cn ≤ 64 * 64:=Nat.mul_le_mul (by omega) (by omega)
  have b2:cc.length * rws.length ≤ 64 * 64:=Nat.mul_le_mul (by omega) (by omega)
  have q1:=concat13_walk (L:=uu) (by omega) (by omega)
  have q2:=concat13_walk (L:=cc) (by omega) (by omega)
  have q3:=has_walk p uu.flatten (by rw [mx_len]; omega)
  have q4:=has_walk p cc.flatten (by rw [mx_len]; omega)
  cases h6:HasB p uu.flatten with
  | false =>
    rw [bool_no hb fun h => by have:=h.2.2.2.2.2.1; simp only at this; rw [h6] at this; cases this]
    rw [h6] at q3
    refine X_startP (n:=74) (m:=4) (rs:=[.tmp 8]) Try.func39 rfl rfl rfl rfl (by decide) fun base => ?_
    repeat (first|((first|refine X_call_fn2 rfl (by simp only [tys]) ?_|refine X_dcall_fn2 rfl (by simp only [tys]) ?_); apply Exists.intro; apply And.intro; (focus (simp -dsimp only [simx,zzC,zzB,tys,ite_self,opnL,callB,callX,readsB,stepOp,nilCmp,ofVal,opBuiltin,opLen,PV.sk,scalBin,scalUn,intBin,opLoad,natOf,opConvert,opField,cellsP,oneP,Value.oneCell',opStore,toIV,scalT,scalA,scalC,boxesA,boxesC,zipB_none,zipB_mx,isZ,opZip,zeroP,opAppendZ,opMakeMap,opLookup,mboxB,opUpdate,↓reduceIte,Nat.reduceSub,Nat.reduceEqDiff,Nat.reduceAdd,Nat.reduceMul,Nat.reduceLT,Nat.reduceLeDiff,Int.reduceToNat,Int.reduceLE,Int.reduceLT,Int.reduceNeg,reduceCtorEq,zzL,if_true,if_false] <;> rfl)); apply Exists.intro; apply And.intro; (focus (first|exact d1|exact d2|exact d3|exact d4|exact d5|exact q1|exact q3)))|refine X_opc rfl ?_|refine X_dopc rfl ?_|refine ⟨(by show drawK _ _=true; kernel_rfl:drawX _ _ _),?_⟩|exact (by show drawK _ _=true; kernel_rfl:drawX _ _ _)|simp -dsimp (maxSteps:=20000000) (disch:=omega) only [simx,zzC,zzB,tys,ite_self,opnL,callB,callX,readsB,stepOp,nilCmp,ofVal,opBuiltin,opLen,PV.sk,scalBin,scalUn,intBin,opLoad,natOf,opConvert,opField,cellsP,oneP,Value.oneCell',opStore,toIV,scalT,scalA,scalC,boxesA,boxesC,zipB_none,zipB_mx,isZ,opZip,zeroP,opAppendZ,opMakeMap,opLookup,mboxB,opUpdate,↓reduceIte,Nat.reduceSub,Nat.reduceEqDiff,Nat.reduceAdd,Nat.reduceMul,Nat.reduceLT,Nat.reduceLeDiff,Int.reduceToNat,Int.reduceLE,Int.reduceLT,Int.reduceNeg,reduceCtorEq,zzR,gos,Int.reduceAdd,Int.reduceSub,Int.reduceMul,Int.reduceEq,SK.len])
  | true =>
  cases h7:HasB p cc.flatten with
  | false =>
    rw [bool_no hb fun h => by have:=h.2.2.2.2.2.2.1; simp only at this; rw [h7] at this; cases this]
    rw [h6] at q3
    rw [h7] at q4
    refine X_startP (n:=74) (m:=4) (rs:=[.tmp 8]) Try.func39 rfl rfl rfl rfl (by decide) fun base => ?_
    repeat (first|((first|refine X_call_fn2 rfl (by simp only [tys]) ?_|refine X_dcall_fn2 rfl (by simp only [tys]) ?_); apply Exists.intro; apply And.intro; (focus (simp -dsimp only [simx,zzC,zzB,tys,ite_self,opnL,callB,callX,readsB,stepOp,nilCmp,ofVal,opBuiltin,opLen,PV.sk,scalBin,scalUn,intBin,opLoad,natOf,opConvert,opField,cellsP,oneP,Value.oneCell',opStore,toIV,scalT,scalA,scalC,boxesA,boxesC,zipB_none,zipB_mx,isZ,opZip,zeroP,opAppendZ,opMakeMap,opLookup,mboxB,opUpdate,↓reduceIte,Nat.reduceSub,Nat.reduceEqDiff,Nat.reduceAdd,Nat.reduceMul,Nat.reduceLT,Nat.reduceLeDiff,Int.reduceToNat,Int.reduceLE,Int.reduceLT,Int.reduceNeg,reduceCtorEq,zzL,if_true,if_false] <;> rfl)); apply Exists.intro; apply And.intro; (focus (first|exact d1|exact d2|exact d3|exact d4|exact d5|exact q1|exact q3|exact q2|exact q4)))|refine X_opc rfl ?_|refine X_dopc rfl ?_|refine ⟨(by show drawK _ _=true; kernel_rfl:drawX _ _ _),?_⟩|exact (by show drawK _ _=true; kernel_rfl:drawX _ _ _)|simp -dsimp (maxSteps:=20000000) (disch:=omega) only [simx,zzC,zzB,tys,ite_self,opnL,callB,callX,readsB,stepOp,nilCmp,ofVal,opBuiltin,opLen,PV.sk,scalBin,scalUn,intBin,opLoad,natOf,opConvert,opField,cellsP,oneP,Value.oneCell',opStore,toIV,scalT,scalA,scalC,boxesA,boxesC,zipB_none,zipB_mx,isZ,opZip,zeroP,opAppendZ,opMakeMap,opLookup,mboxB,opUpdate,↓reduceIte,Nat.reduceSub,Nat.reduceEqDiff,Nat.reduceAdd,Nat.reduceMul,Nat.reduceLT,Nat.reduceLeDiff,Int.reduceToNat,Int.reduceLE,Int.reduceLT,Int.reduceNeg,reduceCtorEq,zzR,gos,Int.reduceAdd,Int.reduceSub,Int.reduceMul,Int.reduceEq,SK.len])
  | true =>
  rw [h6] at q3
  rw [h7] at q4
  have hb2:b=true ↔ ∀ k,k < rws.length → restB (uu.getD k []) cls k (cls.getD k 0).toNat=true ∧ partB cc k (rws.getD k 0).toNat=true:=hb.trans ⟨fun h => h.2.2.2.2.2.2.2,fun h => ⟨a1,a2,n1,m4,m5,h6,h7,h⟩⟩
  have rst:∀ k,k < rws.length → CallsP Try.prog 87 [cupQ (rws,cls,cc,uu),i64 k] (bl (restB (uu.getD k []) cls k (cls.getD k 0).toNat)):=fun k hk => by
    have hu:k < uu.length:=by omega
    have hcl:k < cls.length:=by have:=n1.2.2.1; omega
    have hul:=m4.2 (uu.getD k []) (getD_mm hu)
    have hcb:=namedP_col n1 (getD_mm (l:=cls) (d:=0) hcl)
    have eq1:cls.getD k 0=(((cls.getD k 0).toNat:Nat):Int):=by omega
    exact rest_walk (getD_at' hu) (by rw [getD_at' (d:=0) hcl,← eq1]) (by omega) (by omega) (by omega) fun a ha => by
      have:=namedP_col n1 (List.mem_of_mem_take ha)
      omega
  have prt:∀ k,k < rws.length → CallsP Try.prog 88 [cupQ (rws,cls,cc,uu),i64 k] (bl (partB cc k (rws.getD k 0).toNat)):=fun k hk => by
    have hrb:=namedP_row n1 k hk
    have eq1:rws.getD k 0=(((rws.getD k 0).toNat:Nat):Int):=by omega
    exact part_walk (by rw [getD_at' (d:=0) hk,← eq1]) (by omega) (fun x hx => by have:=m5.2 x hx; omega) (by omega) (by omega)
  have rl:rws.length ≤ 64:=by omega
  clear hb i4 i5 m4 m5 n1 hn fu fc b1 b2 h6 h7 rle
  refine X_startP (n:=74) (m:=4) (rs:=[.tmp 8]) Try.func39 rfl rfl rfl rfl (by decide) fun base => ?_
  repeat (first|((first|refine X_call_fn2 rfl (by simp only [tys]) ?_|refine X_dcall_fn2 rfl (by simp only [tys]) ?_); apply Exists.intro; apply And.intro; (focus (simp -dsimp only [simx,zzC,zzB,tys,ite_self,opnL,callB,callX,readsB,stepOp,nilCmp,ofVal,opBuiltin,opLen,PV.sk,scalBin,scalUn,intBin,opLoad,natOf,opConvert,opField,cellsP,oneP,Value.oneCell',opStore,toIV,scalT,scalA,scalC,boxesA,boxesC,zipB_none,zipB_mx,isZ,opZip,zeroP,opAppendZ,opMakeMap,opLookup,mboxB,opUpdate,↓reduceIte,Nat.reduceSub,Nat.reduceEqDiff,Nat.reduceAdd,Nat.reduceMul,Nat.reduceLT,Nat.reduceLeDiff,Int.reduceToNat,Int.reduceLE,Int.reduceLT,Int.reduceNeg,reduceCtorEq,zzL,if_true,if_false] <;> rfl)); apply Exists.intro; apply And.intro; (focus (first|exact d1|exact d2|exact d3|exact d4|exact d5|exact q1|exact q3|exact q2|exact q4)))|refine X_opc rfl ?_|refine X_dopc rfl ?_|refine ⟨(by show drawK _ _=true; kernel_rfl:drawX _ _ _),?_⟩|exact (by show drawK _ _=true; kernel_rfl:drawX _ _ _)|simp -dsimp (maxSteps:=20000000) (disch:=omega) only [simx,zzC,zzB,tys,ite_self,opnL,callB,callX,readsB,stepOp,nilCmp,ofVal,opBuiltin,opLen,PV.sk,scalBin,scalUn,intBin,opLoad,natOf,opConvert,opField,cellsP,oneP,Value.oneCell',opStore,toIV,scalT,scalA,scalC,boxesA,boxesC,zipB_none,zipB_mx,isZ,opZip,zeroP,opAppendZ,opMakeMap,opLookup,mboxB,opUpdate,↓reduceIte,Nat.reduceSub,Nat.reduceEqDiff,Nat.reduceAdd,Nat.reduceMul,Nat.reduceLT,Nat.reduceLeDiff,Int.reduceToNat,Int.reduceLE,Int.reduceLT,Int.reduceNeg,reduceCtorEq,gos,Int.reduceAdd,Int.reduceSub,Int.reduceMul,Int.reduceEq,SK.len])
  refine X_loopH [5,59,60] [] (0) (rws.length) (fun j => (∀ k,k < j → restB (uu.getD k []) cls k (cls.getD k 0).toNat=true ∧ partB cc k (rws.getD k 0).toNat=true)) (fun j => [(60,i64 j)]) (fun j => Heap.none.put ((0,0)::base) (.var [li rws,li cls,llP cc,llP uu])) ?_ ?_ ?_ ?_ ?_ (by decide) ?_
  · exact (fgt_nil)
  · ((simp -dsimp (disch:=omega) only [simx,zzB,tys,ite_self,opnL,callB,callX,readsB,stepOp,nilCmp,ofVal,opBuiltin,opLen,PV.sk,scalBin,scalUn,intBin,opLoad,natOf,opConvert,opField,cellsP,oneP,Value.oneCell',opStore,toIV,scalT,scalA,scalC,boxesA,boxesC,zipB_none,zipB_mx,isZ,opZip,zeroP,opAppendZ,opMakeMap,opLookup,mboxB,opUpdate,↓reduceIte,Nat.reduceSub,Nat.reduceEqDiff,Nat.reduceAdd,Nat.reduceMul,Nat.reduceLT,Nat.reduceLeDiff,Int.reduceToNat,Int.reduceLE,Int.reduceLT,Int.reduceNeg,reduceCtorEq,gos,Int.reduceAdd,Int.reduceSub,Int.reduceMul,Int.reduceEq]) <;> first|rfl|simp)
  · exact drop_nil _
  · omega
  · intro k hk; omega
  · intro j hj hf
    by_cases cj:j < rws.length
    · have t1:=rst j cj
      have t2:=prt j cj
      clear rst prt
      cases e1:restB (uu.getD j []) cls j (cls.getD j 0).toNat with
      | false =>
        rw [bool_no hb2 fun h => by have:=(h j cj).1; rw [e1] at this; cases this]
        rw [e1] at t1
        repeat (first|((first|refine X_call_fn2 rfl (by simp only [tys]) ?_|refine X_dcall_fn2 rfl (by simp only [tys]) ?_); apply Exists.intro; apply And.intro; (focus (simp -dsimp only [simx,zzC,zzB,tys,ite_self,opnL,callB,callX,readsB,stepOp,nilCmp,ofVal,opBuiltin,opLen,PV.sk,scalBin,scalUn,intBin,opLoad,natOf,opConvert,opField,cellsP,oneP,Value.oneCell',opStore,toIV,scalT,scalA,scalC,boxesA,boxesC,zipB_none,zipB_mx,isZ,opZip,zeroP,opAppendZ,opMakeMap,opLookup,mboxB,opUpdate,↓reduceIte,Nat.reduceSub,Nat.reduceEqDiff,Nat.reduceAdd,Nat.reduceMul,Nat.reduceLT,Nat.reduceLeDiff,Int.reduceToNat,Int.reduceLE,Int.reduceLT,Int.reduceNeg,reduceCtorEq,zzL,if_true,if_false] <;> rfl)); apply Exists.intro; apply And.intro; (focus (first|exact t1)))|refine X_opc rfl ?_|refine X_dopc rfl ?_|refine ⟨(by show drawK _ _=true; kernel_rfl:drawX _ _ _),?_⟩|exact (by show drawK _ _=true; kernel_rfl:drawX _ _ _)|simp -dsimp (maxSteps:=20000000) (disch:=omega) only [simx,zzC,zzB,tys,ite_self,opnL,callB,callX,readsB,stepOp,nilCmp,ofVal,opBuiltin,opLen,PV.sk,scalBin,scalUn,intBin,opLoad,natOf,opConvert,opField,cellsP,oneP,Value.oneCell',opStore,toIV,scalT,scalA,scalC,boxesA,boxesC,zipB_none,zipB_mx,isZ,opZip,zeroP,opAppendZ,opMakeMap,opLookup,mboxB,opUpdate,↓reduceIte,Nat.reduceSub,Nat.reduceEqDiff,Nat.reduceAdd,Nat.reduceMul,Nat.reduceLT,Nat.reduceLeDiff,Int.reduceToNat,Int.reduceLE,Int.reduceLT,Int.reduceNeg,reduceCtorEq,zzR,gos,Int.reduceAdd,Int.reduceSub,Int.reduceMul,Int.reduceEq,cj])
      | true =>
        cases e2:partB cc j (rws.getD j 0).toNat with
        | false =>
          rw [bool_no hb2 fun h => by have:=(h j cj).2; rw [e2] at this; cases this]
          rw [e1] at t1
          rw [e2] at t2
          repeat (first|((first|refine X_call_fn2 rfl (by simp only [tys]) ?_|refine X_dcall_fn2 rfl (by simp only [tys]) ?_); apply Exists.intro; apply And.intro; (focus (simp -dsimp only [simx,zzC,zzB,tys,ite_self,opnL,callB,callX,readsB,stepOp,nilCmp,ofVal,opBuiltin,opLen,PV.sk,scalBin,scalUn,intBin,opLoad,natOf,opConvert,opField,cellsP,oneP,Value.oneCell',opStore,toIV,scalT,scalA,scalC,boxesA,boxesC,zipB_none,zipB_mx,isZ,opZip,zeroP,opAppendZ,opMakeMap,opLookup,mboxB,opUpdate,↓reduceIte,Nat.reduceSub,Nat.reduceEqDiff,Nat.reduceAdd,Nat.reduceMul,Nat.reduceLT,Nat.reduceLeDiff,Int.reduceToNat,Int.reduceLE,Int.reduceLT,Int.reduceNeg,reduceCtorEq,zzL,if_true,if_false] <;> rfl)); apply Exists.intro; apply And.intro; (focus (first|exact t1|exact t2)))|refine X_opc rfl ?_|refine X_dopc rfl ?_|refine ⟨(by show drawK _ _=true; kernel_rfl:drawX _ _ _),?_⟩|exact (by show drawK _ _=true; kernel_rfl:drawX _ _ _)|simp -dsimp (maxSteps:=20000000) (disch:=omega) only [simx,zzC,zzB,tys,ite_self,opnL,callB,callX,readsB,stepOp,nilCmp,ofVal,opBuiltin,opLen,PV.sk,scalBin,scalUn,intBin,opLoad,natOf,opConvert,opField,cellsP,oneP,Value.oneCell',opStore,toIV,scalT,scalA,scalC,boxesA,boxesC,zipB_none,zipB_mx,isZ,opZip,zeroP,opAppendZ,opMakeMap,opLookup,mboxB,opUpdate,↓reduceIte,Nat.reduceSub,Nat.reduceEqDiff,Nat.reduceAdd,Nat.reduceMul,Nat.reduceLT,Nat.reduceLeDiff,Int.reduceToNat,Int.reduceLE,Int.reduceLT,Int.reduceNeg,reduceCtorEq,zzR,gos,Int.reduceAdd,Int.reduceSub,Int.reduceMul,Int.reduceEq,cj])
        | true =>
          have al:∀ k,k < j + 1 → restB (uu.getD k []) cls k (cls.getD k 0).toNat=true ∧ partB cc k (rws.getD k 0).toNat=true:=fun k hk => by
            by_cases e:k=j
            · rw [e]; exact ⟨e1,e2⟩
            · exact hf k (by omega)
          rw [e1] at t1
          rw [e2] at t2
          repeat (first|((first|refine X_call_fn2 rfl (by simp only [tys]) ?_|refine X_dcall_fn2 rfl (by simp only [tys]) ?_); apply Exists.intro; apply And.intro; (focus (simp -dsimp only [simx,zzC,zzB,tys,ite_self,opnL,callB,callX,readsB,stepOp,nilCmp,ofVal,opBuiltin,opLen,PV.sk,scalBin,scalUn,intBin,opLoad,natOf,opConvert,opField,cellsP,oneP,Value.oneCell',opStore,toIV,scalT,scalA,scalC,boxesA,boxesC,zipB_none,zipB_mx,isZ,opZip,zeroP,opAppendZ,opMakeMap,opLookup,mboxB,opUpdate,↓reduceIte,Nat.reduceSub,Nat.reduceEqDiff,Nat.reduceAdd,Nat.reduceMul,Nat.reduceLT,Nat.reduceLeDiff,Int.reduceToNat,Int.reduceLE,Int.reduceLT,Int.reduceNeg,reduceCtorEq,zzL,if_true,if_false] <;> rfl)); apply Exists.intro; apply And.intro; (focus (first|exact t1|exact t2)))|refine X_opc rfl ?_|refine X_dopc rfl ?_|refine ⟨(by show drawK _ _=true; kernel_rfl:drawX _ _ _),?_⟩|exact (by show drawK _ _=true; kernel_rfl:drawX _ _ _)|simp -dsimp (maxSteps:=20000000) (disch:=omega) only [simx,zzC,zzB,tys,ite_self,opnL,callB,callX,readsB,stepOp,nilCmp,ofVal,opBuiltin,opLen,PV.sk,scalBin,scalUn,intBin,opLoad,natOf,opConvert,opField,cellsP,oneP,Value.oneCell',opStore,toIV,scalT,scalA,scalC,boxesA,boxesC,zipB_none,zipB_mx,isZ,opZip,zeroP,opAppendZ,opMakeMap,opLookup,mboxB,opUpdate,↓reduceIte,Nat.reduceSub,Nat.reduceEqDiff,Nat.reduceAdd,Nat.reduceMul,Nat.reduceLT,Nat.reduceLeDiff,Int.reduceToNat,Int.reduceLE,Int.reduceLT,Int.reduceNeg,reduceCtorEq,gos,Int.reduceAdd,Int.reduceSub,Int.reduceMul,Int.reduceEq,cj])
          exact ⟨cj,(fgt_nil),al,rfl,drop_nil _⟩
    · obtain rfl:rws.length=j:=by omega
      rw [hb2.2 hf]
      repeat (first|refine X_opc rfl ?_|refine X_dopc rfl ?_|refine ⟨(by show drawK _ _=true; kernel_rfl:drawX _ _ _),?_⟩|exact (by show drawK _ _=true; kernel_rfl:drawX _ _ _)|simp -dsimp (maxSteps:=20000000) (disch:=omega) only [simx,zzC,zzB,tys,ite_self,opnL,callB,callX,readsB,stepOp,nilCmp,ofVal,opBuiltin,opLen,PV.sk,scalBin,scalUn,intBin,opLoad,natOf,opConvert,opField,cellsP,oneP,Value.oneCell',opStore,toIV,scalT,scalA,scalC,boxesA,boxesC,zipB_none,zipB_mx,isZ,opZip,zeroP,opAppendZ,opMakeMap,opLookup,mboxB,opUpdate,↓reduceIte,Nat.reduceSub,Nat.reduceEqDiff,Nat.reduceAdd,Nat.reduceMul,Nat.reduceLT,Nat.reduceLeDiff,Int.reduceToNat,Int.reduceLE,Int.reduceLT,Int.reduceNeg,reduceCtorEq,zzR,gos,Int.reduceAdd,Int.reduceSub,Int.reduceMul,Int.reduceEq])
end Go.Proofs.Ytmalpmnmknpphaa.TM
namespace Go.Proofs.Ytmalpmnmknpphaa.TM
open Go Go.RowKit Go.Shelf Go.Lib
set_option maxHeartbeats 2000000 in
set_option maxRecDepth 100000 in
theorem cloneE_walk:CallsP Try.prog 127 [.i (.l 0 [])] (.i (.l 0 [])):=by
  intro base
  refine ⟨.i (.l 0 []),Heap.none,CallR.of_sound ?_,rfl⟩
  intro β w rargs H Hr
  obtain ⟨h1,h2⟩:=Hr
  have h3:=h2 0 _ rfl
  obtain ⟨x,rfl⟩:∃ x,rargs=#[x]:=by
    obtain ⟨l⟩:=rargs
    match l,h1 with
    | [x],_ => exact ⟨x,rfl⟩
  have h3:Rep β Heap.none w (.i (.l 0 [])) x:=h3
  have t23:Try.prog.underlying 23=some (.slice 22):=tk_sl (by simp only [tys])
  have q22:∀ (w:World) (a:Option Addr) (n c n' c':Nat),(binOp .eql 23 (.slice a n c) (.slice none n' c')).run Try.prog w=.ok (.bool a.isNone) w:=fun w a n c n' c' => Lib.run_eql_slice_nil w _ _ a n c n' c' t23
  have u22:∀ w,Sem.run Try.prog (underlying 23) w=.ok (TypeDesc.slice 22) w:=run_underlying t23
  cases h3 with|i _ _ h3 => cases h3 with
  | nil =>
    go_enter Try.func127,Try.ntmps127
    go_wp2
    go_ret
    exact ⟨_,β,rfl,H,.i _ _ .nil,Ext.refl _ _ _⟩
  | l _ _ a cap f hc hr h1 hs =>
    go_enter Try.func127,Try.ntmps127
    go_wp2
    go_ret
    refine ⟨_,β,rfl,HInv.none fun blk hb => ?_,.i _ _ (.l 0 [] ⟨w.heap.size,0,none⟩ 0 (fun _ => undef) (Nat.le_refl _) (fun j hj => absurd hj (Nat.not_lt_zero j)) (fun j hj => absurd hj (Nat.not_lt_zero j)) (fun j x hj => by simp at hj)),?_⟩
    · have:=H.flt blk hb
      show blk < (w.heap.push _).size
      simp; omega
    · refine ⟨rfl,rfl,rfl,?_,rfl,fun blk hb hs => ⟨hs,hao w _ blk hb⟩,fun b x hb => (by cases hb),fun blk hb => szW_alloc w _ blk hb⟩
      show w.heap.size ≤ (w.heap.push _).size
      simp
end Go.Proofs.Ytmalpmnmknpphaa.TM
namespace Go.Proofs.Ytmalpmnmknpphaa.TM
open Go Go.RowKit
attribute [local irreducible] K W WOps Effs Xg Xo Xr Xdg Xdo Xdr Xif CallsP CallR
theorem dotR_mk {p:Int} {y b:List Int} (hp:Md p) (hy:∀ a ∈ y,In p a) (hb:∀ a ∈ b,In p a) (hl:y.length=b.length):dotR p y b=(dotI y b % p,0):=by
  unfold dotR
  rw [if_pos]
  rw [(has_iff p y).2 ⟨fun x hx => (hy x hx).2,hp.1,hp.2⟩,(has_iff p b).2 ⟨fun x hx => (hb x hx).2,hp.1,hp.2⟩,decide_eq_true hl]; rfl
end Go.Proofs.Ytmalpmnmknpphaa.TM
namespace Go.Proofs.Ytmalpmnmknpphaa.TM
open Go Go.RowKit
attribute [local irreducible] K W WOps Effs Xg Xo Xr Xdg Xdo Xdr Xif CallsP CallR
def zeroV (n:Nat):List Int:=tbl n (fun _ => 0)
theorem zeroV_len (n:Nat):(zeroV n).length=n:=tbl_len ..
end Go.Proofs.Ytmalpmnmknpphaa.TM
namespace Go.Proofs.Ytmalpmnmknpphaa.TM
open Go Go.RowKit
def skip (k j:Nat):Nat:=if j < k then j else j + 1
def sg (k:Nat):Int:=if k % 2=0 then 1 else -1
theorem sg_zero:sg 0=1:=rfl
theorem sg_succ (k:Nat):sg (k + 1)=- sg k:=by
  unfold sg
  by_cases h:k % 2=0
  · rw [if_pos h,if_neg (by omega)]
  · rw [if_neg h,if_pos (by omega)]; rfl
abbrev Mx:=Nat → Nat → Int
def tr (A:Mx):Mx:=fun i j => A j i
def mnr (A:Mx) (k:Nat):Mx:=fun i j => A (i + 1) (skip k j)
def Lp:Nat → Mx → Int
  | 0,_ => 1
  | n + 1,A => sumN (n + 1) (fun k => sg k * A 0 k * Lp n (mnr A k))
theorem Lp_succ (n:Nat) (A:Mx):Lp (n + 1) A=sumN (n + 1) (fun k => sg k * A 0 k * Lp n (mnr A k)):=rfl
theorem sumN_succ' (n:Nat) (f:Nat → Int):sumN (n + 1) f=f 0 + sumN n (fun i => f (i + 1)):=by
  rw [Nat.add_comm,sumN_split 1 n]
  simp only [sumN,Int.zero_add]
  congr 1
  exact sumN_congr fun i _ => by rw [Nat.add_comm 1 i]
theorem skip_lt {n k j:Nat} (hj:j < n):skip k j < n + 1:=by unfold skip; split <;> omega
theorem Lp_congr:∀ (n:Nat) {A B:Mx},(∀ i j,i < n → j < n → A i j=B i j) → Lp n A=Lp n B
  | 0,_,_,_ => rfl
  | n + 1,A,B,h => by
    rw [Lp_succ,Lp_succ]
    refine sumN_congr fun k hk => ?_
    rw [h 0 k (by omega) hk,Lp_congr n (A:=mnr A k) (B:=mnr B k) fun i j hi hj => h _ _ (by omega) (skip_lt hj)]
theorem Lp_mod {p:Int}:∀ (n:Nat) {A B:Mx},(∀ i j,i < n → j < n → A i j % p=B i j % p) → Lp n A % p=Lp n B % p
  | 0,_,_,_ => rfl
  | n + 1,A,B,h => by
    rw [Lp_succ,Lp_succ]
    refine sumN_mod fun k hk => ?_
    rw [Int.mul_emod,Int.mul_emod (sg k),h 0 k (by omega) hk,Lp_mod n (A:=mnr A k) (B:=mnr B k) fun i j hi hj => h _ _ (by omega) (skip_lt hj),← Int.mul_emod (sg k),← Int.mul_emod]
theorem Lp_two (n:Nat) (h1:∀ A,Lp (n + 1) A=Lp (n + 1) (tr A)) (h2:∀ A,Lp n A=Lp n (tr A)) (A:Mx) :
    Lp (n + 2) A=A 0 0 * Lp (n + 1) (fun i j => A (i + 1) (j + 1)) + sumN (n + 1) (fun k => sumN (n + 1) (fun i => sg (k + 1) * sg i * A 0 (k + 1) * A (i + 1) 0 * Lp n (fun a b => A (skip i a + 1) (skip k b + 1)))):=by
  rw [Lp_succ,sumN_succ',sg_zero,Int.one_mul]
  congr 1
  refine sumN_congr fun k hk => ?_
  rw [h1,Lp_succ,← sumN_mul]
  refine sumN_congr fun i hi => ?_
  have e1:tr (mnr A (k + 1)) 0 i=A (i + 1) 0:=rfl
  have e2:mnr (tr (mnr A (k + 1))) i=tr (fun a b => A (skip i a + 1) (skip k b + 1)):=by
    funext a b
    show A (skip i b + 1) (skip (k + 1) (a + 1))=A (skip i b + 1) (skip k a + 1)
    congr 1
    unfold skip
    by_cases c:a < k
    · rw [if_pos (by omega),if_pos c]
    · rw [if_neg (by omega),if_neg c]
  rw [e1,e2,← h2]
  grind
theorem Lp_tr:∀ (n:Nat) (A:Mx),Lp n A=Lp n (tr A)
  | 0,A => rfl
  | 1,A => by
    rw [Lp_succ,Lp_succ]
    simp [sumN,tr,Lp]
  | n + 2,A => by
    rw [Lp_two n (Lp_tr (n + 1)) (Lp_tr n) A,Lp_two n (Lp_tr (n + 1)) (Lp_tr n) (tr A)]
    have e1:Lp (n + 1) (fun i j => A (i + 1) (j + 1))=Lp (n + 1) (fun i j => tr A (i + 1) (j + 1)):=Lp_tr (n + 1) _
    rw [e1,sumN_swap]
    congr 1
    refine sumN_congr fun i hi => sumN_congr fun k hk => ?_
    have e2:Lp n (fun a b => A (skip i a + 1) (skip k b + 1))=Lp n (fun a b => tr A (skip k a + 1) (skip i b + 1)):=Lp_tr n _
    rw [e2,sg_succ,sg_succ]
    show - sg k * sg i * A 0 (k + 1) * A (i + 1) 0 * _=- sg i * sg k * A (i + 1) 0 * A 0 (k + 1) * _
    grind
def updc (A:Mx) (k:Nat) (u:Nat → Int):Mx:=fun i j => if j=k then u i else A i j
theorem mnr_updc_same (A:Mx) (k:Nat) (u:Nat → Int):mnr (updc A k u) k=mnr A k:=by
  funext i j
  show (if skip k j=k then _ else _)=_
  rw [if_neg (by unfold skip; split <;> omega)]; rfl
theorem mnr_updc {A:Mx} {m k:Nat} (h:m ≠ k) (u:Nat → Int):mnr (updc A k u) m=updc (mnr A m) (if k < m then k else k - 1) (fun i => u (i + 1)):=by
  funext i j
  show (if skip m j=k then u (i + 1) else A (i + 1) (skip m j))=if j=_ then u (i + 1) else A (i + 1) (skip m j)
  have:skip m j=k ↔ j=(if k < m then k else k - 1):=by
    unfold skip
    split <;> split <;> omega
  simp only [this]
theorem Lp_lin:∀ (n:Nat) (A:Mx) (k:Nat) (u v:Nat → Int) (c:Int),k < n → Lp n (updc A k (fun i => u i + c * v i))=Lp n (updc A k u) + c * Lp n (updc A k v)
  | 0,_,_,_,_,_,h => by omega
  | n + 1,A,k,u,v,c,h => by
    rw [Lp_succ,Lp_succ,Lp_succ,← sumN_mul,← sumN_add]
    refine sumN_congr fun m hm => ?_
    by_cases e:m=k
    · subst e
      rw [mnr_updc_same,mnr_updc_same,mnr_updc_same]
      show sg m * (if m=m then _ else _) * _=sg m * (if m=m then _ else _) * _ + c * (sg m * (if m=m then _ else _) * _)
      rw [if_pos rfl,if_pos rfl,if_pos rfl]
      grind
    · rw [mnr_updc e,mnr_updc e,mnr_updc e]
      have ih:=Lp_lin n (mnr A m) (if k < m then k else k - 1) (fun i => u (i + 1)) (fun i => v (i + 1)) c (by split <;> omega)
      rw [ih]
      show sg m * (if m=k then _ else _) * _=sg m * (if m=k then _ else _) * _ + c * (sg m * (if m=k then _ else _) * _)
      rw [if_neg e,if_neg e,if_neg e]
      grind
theorem sumN_pair {n k:Nat} {f:Nat → Int} (hk:k + 1 < n) (h:∀ m,m < n → m ≠ k → m ≠ k + 1 → f m=0) (h2:f k + f (k + 1)=0):sumN n f=0:=by
  have e:sumN n f=sumN n (fun m => (if m=k then f m else 0) + (if m=k + 1 then f m else 0)):=sumN_congr fun m hm => by
    by_cases a:m=k
    · rw [if_pos a,if_neg (by omega)]; omega
    · by_cases b:m=k + 1
      · rw [if_neg a,if_pos b]; omega
      · rw [if_neg a,if_neg b,h m hm a b]; rfl
  rw [e,sumN_add,sumN_one f (by omega),sumN_one f hk,h2]
theorem Lp_adj:∀ (n:Nat) (A:Mx) (k:Nat),k + 1 < n → (∀ i,A i k=A i (k + 1)) → Lp n A=0
  | 0,_,_,h,_ => by omega
  | n + 1,A,k,hk,he => by
    rw [Lp_succ]
    refine sumN_pair hk (fun m hm h1 h2 => ?_) ?_
    · rw [Lp_adj n (mnr A m) (if k < m then k else k - 1) (by split <;> omega) fun i => ?_,Int.mul_zero]
      show A (i + 1) (skip m _)=A (i + 1) (skip m _)
      by_cases c:k < m
      · rw [if_pos c,show skip m k=k by unfold skip; rw [if_pos c],show skip m (k + 1)=k + 1 by unfold skip; rw [if_pos (by omega)],he]
      · rw [if_neg c,show skip m (k - 1)=k by unfold skip; rw [if_neg (by omega)]; omega,show skip m (k - 1 + 1)=k + 1 by unfold skip; rw [if_neg (by omega)]; omega,he]
    · have e:Lp n (mnr A k)=Lp n (mnr A (k + 1)):=by
        congr 1
        funext i j
        show A (i + 1) (skip k j)=A (i + 1) (skip (k + 1) j)
        by_cases a:j < k
        · rw [show skip k j=j by unfold skip; rw [if_pos a],show skip (k + 1) j=j by unfold skip; rw [if_pos (by omega)]]
        · by_cases b:j=k
          · subst b
            rw [show skip j j=j + 1 by unfold skip; rw [if_neg (by omega)],show skip (j + 1) j=j by unfold skip; rw [if_pos (by omega)],he]
          · rw [show skip k j=j + 1 by unfold skip; rw [if_neg a],show skip (k + 1) j=j + 1 by unfold skip; rw [if_neg (by omega)]]
      rw [e,he 0,sg_succ]
      grind
end Go.Proofs.Ytmalpmnmknpphaa.TM
namespace Go.Proofs.Ytmalpmnmknpphaa.TM
open Go Go.RowKit
theorem emod_sub0 {p a b:Int}:a % p=b % p ↔ (a - b) % p=0:=(Int.emod_eq_emod_iff_emod_sub_eq_zero)
theorem em_mul {p a b c d:Int} (h1:a % p=b % p) (h2:c % p=d % p):a * c % p=b * d % p:=by rw [Int.mul_emod,h1,h2,← Int.mul_emod]
theorem em_add {p a b c d:Int} (h1:a % p=b % p) (h2:c % p=d % p):(a + c) % p=(b + d) % p:=by rw [Int.add_emod,h1,h2,← Int.add_emod]
theorem em_sub {p a b c d:Int} (h1:a % p=b % p) (h2:c % p=d % p):(a - c) % p=(b - d) % p:=by rw [Int.sub_emod,h1,h2,← Int.sub_emod]
theorem em_z {p a b:Int} (h:a % p=0):a * b % p=0:=by rw [Int.mul_emod,h,Int.zero_mul,Int.zero_emod]
theorem em_z' {p a b:Int} (h:b % p=0):a * b % p=0:=by rw [Int.mul_comm]; exact em_z h
theorem bezout (m n:Nat):∃ x y:Int,(m:Int) * x + (n:Int) * y=(Nat.gcd m n:Int):=by
  induction m,n using Nat.gcd.induction with
  | H0 n => exact ⟨0,1,by simp⟩
  | H1 m n hm ih =>
    obtain ⟨x,y,h⟩:=ih
    refine ⟨y - (n / m:Nat) * x,x,?_⟩
    rw [Nat.gcd_rec,← h]
    have e:(n:Int)=((n % m:Nat):Int) + (m:Int) * ((n / m:Nat):Int):=by have:=Nat.mod_add_div n m; omega
    rw [e]
    grind
theorem prm_nz {P:Nat} (hP:Prm P) {a:Int} (h:a % P ≠ 0):∃ b,a * b % P=1:=by
  have h2:=hP.1
  have hp:(0:Int) < P:=by omega
  have i1:=Int.emod_nonneg a (show (P:Int) ≠ 0 by omega)
  have i2:=Int.emod_lt_of_pos a hp
  have g:=hP.2 (a % P).toNat (by omega) (by omega)
  obtain ⟨x,y,hxy⟩:=bezout P (a % P).toNat
  rw [g,show ((a % P).toNat:Int)=a % P by omega] at hxy
  refine ⟨y,?_⟩
  have e:a * y % P=(a % P) * y % P:=em_mul (Int.emod_emod_of_dvd a (Int.dvd_refl _)).symm rfl
  rw [e,show (a % P) * y=1 - P * x by rw [show ((1:Nat):Int)=1 from rfl] at hxy; omega,Int.sub_mul_emod_self_left]
  exact Int.emod_eq_of_lt (by omega) (by omega)
theorem prm_mul0 {P:Nat} (hP:Prm P) {a b:Int} (h:a * b % P=0) (ha:a % P ≠ 0):b % P=0:=by
  obtain ⟨c,hc⟩:=prm_nz hP ha
  have e:c * (a * b) % P=b % P:=by
    rw [show c * (a * b)=(a * c) * b by rw [← Int.mul_assoc,Int.mul_comm c a]]
    rw [Int.mul_emod,hc,Int.one_mul,Int.emod_emod_of_dvd _ (Int.dvd_refl _)]
  rw [← e]; exact em_z' h
theorem sumN_0 {p:Int} {n:Nat} {f:Nat → Int} (h:∀ i,i < n → f i % p=0):sumN n f % p=0:=by
  rw [sumN_mod (g:=fun _ => 0) (fun i hi => by rw [h i hi]; rfl),sumN_zero]; rfl
theorem sumN_only {p:Int} {n k:Nat} {f:Nat → Int} (hk:k < n) (h:∀ i,i < n → i ≠ k → f i % p=0):sumN n f % p=f k % p:=by
  rw [← sumN_one f hk]
  refine sumN_mod fun i hi => ?_
  by_cases e:i=k
  · rw [if_pos e]
  · rw [if_neg e,h i hi e]; rfl
theorem sumN_upd {n c:Nat} (f x:Nat → Int) (d:Int) (hc:c < n):sumN n (fun j => f j * (if j=c then x j + d else x j))=sumN n (fun j => f j * x j) + f c * d:=by
  rw [← sumN_one (fun j => f j * d) hc,← sumN_add]
  refine sumN_congr fun j _ => ?_
  split
  · rw [Int.mul_add]
  · omega
structure Cp (p:Int) (R C r:Nat) (A:Mx) (rw cw:Nat → Nat) (c u:Mx):Prop where
  rlt:∀ k,k < r → rw k < R
  rinc:∀ j k,j < k → k < r → rw j < rw k
  clt:∀ k,k < r → cw k < C
  upiv:∀ k,k < r → u k (cw k) % p ≠ 0
  uz:∀ j k,j < k → k < r → u k (cw j) % p=0
  uh:∀ k,k < r → ∀ j,j < cw k → u k j % p=0
  c1:∀ k,k < r → c (rw k) k % p=1
  cz:∀ k,k < r → ∀ i,i < rw k → c i k % p=0
  made:∀ i,i < R → ∀ j,j < C → A i j % p=sumN r (fun k => c i k * u k j) % p
def apX (C:Nat) (A:Mx) (x:Nat → Int):Nat → Int:=fun i => sumN C (fun j => A i j * x j)
theorem apX_add (C:Nat) (A:Mx) (x y:Nat → Int) (i:Nat):apX C A (fun j => x j + y j) i=apX C A x i + apX C A y i:=by
  unfold apX; rw [← sumN_add]; exact sumN_congr fun j _ => Int.mul_add ..
theorem apX_sub (C:Nat) (A:Mx) (x y:Nat → Int) (i:Nat):apX C A (fun j => x j - y j) i=apX C A x i - apX C A y i:=by
  unfold apX; rw [← sumN_sub]; exact sumN_congr fun j _ => Int.mul_sub ..
theorem apX_mod {p:Int} {C:Nat} {A:Mx} {x y:Nat → Int} (h:∀ j,j < C → x j % p=y j % p) (i:Nat):apX C A x i % p=apX C A y i % p :=
  sumN_mod fun j hj => em_mul rfl (h j hj)
section
variable {P R C r:Nat} {A:Mx} {rw cw:Nat → Nat} {c u:Mx}
theorem Cp.cdis (H:Cp P R C r A rw cw c u) {j k:Nat} (hj:j < r) (hk:k < r) (e:cw j=cw k):j=k:=by
  rcases Nat.lt_trichotomy j k with h|h|h
  · exact absurd (e ▸ H.uz j k h hk) (H.upiv k hk)
  · exact h
  · exact absurd (e ▸ H.uz k j h hj) (H.upiv j hj)
theorem Cp.ap (H:Cp P R C r A rw cw c u) {x:Nat → Int} {i:Nat} (hi:i < R):apX C A x i % P=sumN r (fun k => c i k * apX C u x k) % P:=by
  unfold apX
  have e:sumN r (fun k => c i k * sumN C (fun j => u k j * x j))=sumN C (fun j => sumN r (fun k => c i k * u k j) * x j):=by
    rw [sumN_congr fun k _ => (sumN_mul C (c i k) (fun j => u k j * x j)).symm,sumN_swap]
    refine sumN_congr fun j _ => ?_
    rw [← sumN_mulr]
    exact sumN_congr fun k _ => by rw [Int.mul_assoc]
  rw [e]
  exact sumN_mod fun j hj => em_mul (H.made i hi j hj) rfl
theorem Cp.usolve (hP:Prm P) (H:Cp P R C r A rw cw c u) (z x0:Nat → Int):∃ x:Nat → Int,(∀ j,(∀ k,k < r → j ≠ cw k) → x j=x0 j) ∧ ∀ k,k < r → apX C u x k % P=z k % P:=by
  have key:∀ d,d ≤ r → ∃ x:Nat → Int,(∀ j,(∀ k,k < r → j ≠ cw k) → x j=x0 j) ∧ ∀ k,r - d ≤ k → k < r → apX C u x k % P=z k % P:=by
    intro d
    induction d with
    | zero => exact fun _ => ⟨x0,fun _ _ => rfl,fun k h1 h2 => by omega⟩
    | succ d ih =>
      intro hd
      obtain ⟨x,h1,h2⟩:=ih (by omega)
      have hm:r - (d + 1) < r:=by omega
      obtain ⟨b,hb⟩:=prm_nz hP (H.upiv _ hm)
      obtain ⟨y,hy⟩:∃ y,apX C u x (r - (d + 1))=y:=⟨_,rfl⟩
      refine ⟨fun j => if j=cw (r - (d + 1)) then x j + b * (z (r - (d + 1)) - y) else x j,fun j hj => ?_,fun k h3 h4 => ?_⟩
      · simp only
        rw [if_neg (hj _ hm)]; exact h1 j hj
      · unfold apX
        rw [sumN_upd _ _ _ (H.clt _ hm)]
        by_cases e:k=r - (d + 1)
        · subst e
          show (apX C u x _ + _) % _=_
          rw [hy,← Int.mul_assoc]
          have:(y + u (r - (d + 1)) (cw (r - (d + 1))) * b * (z (r - (d + 1)) - y)) % P=(y + 1 * (z (r - (d + 1)) - y)) % P:=em_add rfl (em_mul (by rw [hb]; exact (Int.emod_eq_of_lt (by omega) (by have:=hP.1; omega)).symm) rfl)
          rw [this,Int.one_mul]; congr 1; omega
        · have h5:=h2 k (by omega) h4
          rw [← h5]
          show (apX C u x k + _) % _=_
          have h6:=H.uz (r - (d + 1)) k (by omega) h4
          rw [Int.add_emod,em_z h6,Int.add_zero,Int.emod_emod_of_dvd _ (Int.dvd_refl _)]
  obtain ⟨x,h1,h2⟩:=key r (Nat.le_refl _)
  exact ⟨x,h1,fun k hk => h2 k (by omega) hk⟩
theorem Cp.cinj (H:Cp P R C r A rw cw c u) {z:Nat → Int} (h1:∀ m,m < r → sumN r (fun k => c (rw m) k * z k) % P=0):∀ k,k < r → z k % P=0:=by
  intro k
  induction k using Nat.strongRecOn with
  | _ k ih =>
  intro hk
  have h2:=h1 k hk
  rw [sumN_only hk (fun j hj hjk => ?_)] at h2
  · rw [Int.mul_emod,H.c1 k hk,Int.one_mul,Int.emod_emod_of_dvd _ (Int.dvd_refl _)] at h2
    exact h2
  · by_cases c:j < k
    · exact em_z' (ih j c hj)
    · exact em_z (H.cz j hj _ (H.rinc k j (by omega) hj))
theorem Cp.ker (H:Cp P R C r A rw cw c u) {x:Nat → Int}:(∀ i,i < R → apX C A x i % P=0) ↔ ∀ k,k < r → apX C u x k % P=0:=by
  constructor
  · intro h
    exact H.cinj fun m hm => by rw [← H.ap (H.rlt m hm)]; exact h _ (H.rlt m hm)
  · intro h i hi
    rw [H.ap hi]
    exact sumN_0 fun k hk => em_z' (h k hk)
end
end Go.Proofs.Ytmalpmnmknpphaa.TM
namespace Go.Proofs.Ytmalpmnmknpphaa.TM
open Go Go.RowKit
theorem getD_app {α:Type} (l:List α) (x d:α) (k:Nat):(l ++ [x]).getD k d=if k < l.length then l.getD k d else if k=l.length then x else d:=by
  rw [List.getD_eq_getElem?_getD,List.getD_eq_getElem?_getD]
  by_cases h:k < l.length
  · rw [if_pos h,List.getElem?_append_left h]
  · rw [if_neg h,List.getElem?_append_right (by omega)]
    by_cases e:k=l.length
    · subst e; rw [if_pos rfl]; simp
    · rw [if_neg e,List.getElem?_eq_none (by simp; omega)]; rfl
def rwF (T:Tk) (k:Nat):Nat:=(T.rows.getD k 0).toNat
def cwF (T:Tk) (k:Nat):Nat:=(T.cols.getD k 0).toNat
def cF (T:Tk):Mx:=fun i k => (csF T i).getD k 0
def uF (T:Tk):Mx:=fun k j => (T.us.getD k []).getD j 0
def vF (T:Tk) (k:Nat):Int:=T.vs.getD k 0
structure TkC (P C i:Nat) (A:Mx) (T:Tk):Prop where
  I:TkI P C i T
  H:Cp P i C T.us.length A (rwF T) (cwF T) (cF T) (uF T)
  inv:∀ k,k < T.us.length → uF T k (cwF T k) * vF T k % P=1
theorem rest_spec {P C i:Nat} {A:Mx} {T:Tk} (K:TkC P C i A T) {row:List Int} (hl:row.length=C):∀ k,k ≤ T.us.length →
    (∀ j,j < k → (elR P T row k).getD (cwF T j) 0 % P=0) ∧ ∀ q,q < C → row.getD q 0 % P=((elR P T row k).getD q 0 + sumN k (fun m => elX P T row m * uF T m q)) % P
  | 0,_ => ⟨fun j h => by omega,fun q _ => by simp [elR,sumN]⟩
  | k + 1,hk => by
    obtain ⟨h1,h2⟩:=rest_spec K hl k (by omega)
    have len:=elR_len P T row k
    rw [hl] at len
    have get:∀ q,q < C → (elR P T row (k + 1)).getD q 0 % P=((elR P T row k).getD q 0 - elX P T row k * uF T k q) % P:=fun q hq => by
      rw [elR_succ,lessV_get _ _ _ _ (by omega),Int.emod_emod_of_dvd _ (Int.dvd_refl _)]
      exact em_sub rfl (Int.emod_emod_of_dvd _ (Int.dvd_refl _))
    refine ⟨fun j hj => ?_,fun q hq => ?_⟩
    · rw [get _ (K.H.clt j (by omega))]
      by_cases e:j=k
      · subst e
        have hx:elX P T row j % P=((elR P T row j).getD (cwF T j) 0 * vF T j) % P:=by unfold elX vF cwF; exact Int.emod_emod_of_dvd _ (Int.dvd_refl _)
        have hi:=K.inv j (by omega)
        generalize (elR P T row j).getD (cwF T j) 0=y at hx ⊢
        rw [em_sub rfl (em_mul hx rfl)]
        have hm:(2:Int) ≤ P:=K.I.ri |> fun _ => by
          rcases Nat.lt_or_ge P 2 with h|h
          · have:P=0 ∨ P=1:=by omega
            rcases this with rfl|rfl
            · exact absurd (K.H.upiv j (by omega)) (by
                intro hne
                have hz:=K.I.ul (T.us.getD j []) (by rw [List.getD_eq_getElem?_getD,List.getElem?_eq_getElem (show j < T.us.length by omega)]; exact List.getElem_mem _)
                have hin:=getD_of hz.2 (i:=cwF T j) (by rw [hz.1]; exact K.H.clt j (by omega))
                unfold In at hin; omega)
            · exact absurd hi (by rw [show ((1:Nat):Int)=1 from rfl,Int.emod_one]; decide)
          · omega
        have:(y - y * vF T j * uF T j (cwF T j)) % P=(y - y * 1) % P:=em_sub rfl (by
          rw [Int.mul_assoc]
          exact em_mul rfl (by rw [Int.mul_comm,hi]; exact (Int.emod_eq_of_lt (by decide) (by omega)).symm))
        rw [this,Int.mul_one,Int.sub_self]; rfl
      · have h3:=K.H.uz j k (by omega) (by omega)
        rw [Int.sub_emod,h1 j (by omega),em_z' h3]; rfl
    · rw [h2 q hq,sumN]
      have h4:=em_add (get q hq) (rfl:(sumN k (fun m => elX P T row m * uF T m q) + elX P T row k * uF T k q) % P=_)
      rw [h4]; congr 1; omega
theorem cup_step {P C i:Nat} {A:Mx} {T:Tk} (hP:Prm P) (hp:Md P) (K:TkC P C i A T) {row:List Int} (hrow:∀ a ∈ row,In P a) (hl:row.length=C) (hA:∀ j,j < C → A i j % P=row.getD j 0 % P):TkC P C (i + 1) A (tkRow P T i row):=by
  have I:=K.I
  have H:=K.H
  have J:=I.next hP hp hrow hl
  obtain ⟨c1,_⟩:=tkRow_cs (P:=P) (row:=row) I
  obtain ⟨te1,te2⟩:=tk_end (p:=P) I row (i:Int) rfl
  obtain ⟨s1,s2⟩:=rest_spec K hl T.us.length (Nat.le_refl _)
  have rl:(rstT P T row).length=C:=by unfold rstT; rw [elR_len,hl]
  have rin:∀ a ∈ rstT P T row,In P a:=elR_in hp T hrow _
  change ∀ j,j < T.us.length → (rstT P T row).getD (cwF T j) 0 % P=0 at s1
  change ∀ q,q < C → row.getD q 0 % P=((rstT P T row).getD q 0 + _) % P at s2
  have xg:∀ k,k < T.us.length → (xsT P T row).getD k 0=elX P T row k:=fun k hk => tbl_getD _ hk
  have xl:(xsT P T row).length=T.us.length:=tbl_len ..
  have cold:∀ i',i' < i → ∀ k,cF (tkRow P T i row) i' k=cF T i' k:=fun i' h k => by unfold cF; rw [c1 i' h]
  rcases nzA_spec (rstT P T row) 0 with ⟨z1,z2⟩|⟨n,z1,z2,z3,z4⟩
  · have neg:nzA (rstT P T row) 0 < 0:=by rw [z1]; decide
    obtain ⟨t1,t2,t3,t4⟩:=tk_no (p:=P) (T:=T) (row:=row) (x:=i) neg
    have te:=te1 neg
    have e1:rwF (tkRow P T i row)=rwF T:=by unfold rwF; rw [t1]
    have e2:cwF (tkRow P T i row)=cwF T:=by unfold cwF; rw [t2]
    have e3:uF (tkRow P T i row)=uF T:=by unfold uF; rw [t3]
    have e4:vF (tkRow P T i row)=vF T:=by unfold vF; rw [t4]
    refine ⟨J,?_,?_⟩
    · rw [t3,e1,e2,e3]
      refine ⟨fun k hk => by have:=H.rlt k hk; omega,H.rinc,H.clt,H.upiv,H.uz,H.uh,fun k hk => ?_,fun k hk i' hi' => ?_,fun i' hi' j hj => ?_⟩
      · rw [cold _ (H.rlt k hk)]; exact H.c1 k hk
      · rw [cold _ (Nat.lt_trans hi' (H.rlt k hk))]; exact H.cz k hk i' hi'
      · by_cases e:i'=i
        · subst e
          rw [hA j hj,s2 j hj]
          have z:(rstT P T row).getD j 0=0:=by rw [List.getD_eq_getElem?_getD,List.getElem?_eq_getElem (by omega)]; exact z2 _ (List.getElem_mem _)
          rw [z,Int.zero_add]
          refine sumN_mod fun k hk => ?_
          unfold cF csF
          rw [te,xg k hk]
        · rw [H.made i' (by omega) j hj]
          exact sumN_mod fun k hk => by rw [cold i' (by omega)]
    · rw [t3,e2,e3,e4]; exact K.inv
  · have neg:¬ nzA (rstT P T row) 0 < 0:=by rw [z1]; omega
    obtain ⟨t1,t2,t3,t4⟩:=tk_yes (p:=P) (T:=T) (row:=row) (x:=i) neg
    have te:=te2 neg
    have zn:(((0 + n:Nat):Int)).toNat=n:=by omega
    have zi:((0 + n:Nat):Int)=(n:Int):=by omega
    rw [z1] at t2 t4
    rw [zn] at t4
    rw [zi] at t2
    have r1:∀ k,rwF (tkRow P T i row) k=if k < T.us.length then rwF T k else if k=T.us.length then i else 0:=fun k => by
      unfold rwF; rw [t1,getD_app,I.rl]; (repeat' split) <;> simp
    have r2:∀ k,cwF (tkRow P T i row) k=if k < T.us.length then cwF T k else if k=T.us.length then n else 0:=fun k => by
      unfold cwF; rw [t2,getD_app,I.ql]; (repeat' split) <;> simp
    have r3:∀ k j,uF (tkRow P T i row) k j=if k < T.us.length then uF T k j else if k=T.us.length then (rstT P T row).getD j 0 else 0:=fun k j => by
      unfold uF; rw [t3,getD_app]; (repeat' split) <;> simp
    have r4:∀ k,vF (tkRow P T i row) k=if k < T.us.length then vF T k else if k=T.us.length then finvC P ((rstT P T row).getD n 0) else 0:=fun k => by
      unfold vF; rw [t4,getD_app,I.vl]
    have rn:In P ((rstT P T row).getD n 0):=getD_of rin z2
    have rnz:(rstT P T row).getD n 0 % P ≠ 0:=by rw [Int.emod_eq_of_lt rn.1 rn.2]; exact z3
    have us1:(tkRow P T i row).us.length=T.us.length + 1:=by rw [t3]; simp
    have cnew:∀ k,cF (tkRow P T i row) i k=if k < T.us.length then elX P T row k else if k=T.us.length then 1 else 0:=fun k => by
      unfold cF csF
      rw [te,getD_app,xl]
      split
      · rename_i h; rw [xg k h]
      · rfl
    have cnr:∀ i',i' < i → cF T i' T.us.length=0:=fun i' h => by
      unfold cF csF
      have:((T.cs.getD i' [])).length ≤ T.us.length:=by
        rw [List.getD_eq_getElem?_getD,List.getElem?_eq_getElem (by rw [I.cl]; exact h)]
        exact (I.cb _ (List.getElem_mem _)).1
      rw [List.getD_eq_getElem?_getD,List.getElem?_eq_none this]; rfl
    refine ⟨J,?_,?_⟩
    · rw [us1]
      refine ⟨fun k hk => ?_,fun j k hjk hk => ?_,fun k hk => ?_,fun k hk => ?_,fun j k hjk hk => ?_,fun k hk j hj => ?_,fun k hk => ?_,fun k hk i' hi' => ?_,fun i' hi' j hj => ?_⟩
      · rw [r1]
        by_cases h:k < T.us.length
        · rw [if_pos h]; have:=H.rlt k h; omega
        · rw [if_neg h,if_pos (by omega)]; omega
      · rw [r1,r1,if_pos (show j < T.us.length by omega)]
        by_cases h:k < T.us.length
        · rw [if_pos h]; exact H.rinc j k hjk h
        · rw [if_neg h,if_pos (by omega)]; exact H.rlt j (by omega)
      · rw [r2]
        by_cases h:k < T.us.length
        · rw [if_pos h]; exact H.clt k h
        · rw [if_neg h,if_pos (by omega)]; omega
      · rw [r3,r2]
        by_cases h:k < T.us.length
        · rw [if_pos h,if_pos h]; exact H.upiv k h
        · rw [if_neg h,if_pos (by omega),if_neg h,if_pos (by omega)]; exact rnz
      · rw [r3,r2,if_pos (show j < T.us.length by omega)]
        by_cases h:k < T.us.length
        · rw [if_pos h]; exact H.uz j k hjk h
        · rw [if_neg h,if_pos (by omega)]; exact s1 j (by omega)
      · rw [r2] at hj
        rw [r3]
        by_cases h:k < T.us.length
        · rw [if_pos h] at hj ⊢; exact H.uh k h j hj
        · rw [if_neg h,if_pos (by omega)] at hj ⊢; rw [z4 j hj]; rfl
      · rw [r1]
        by_cases h:k < T.us.length
        · rw [if_pos h,cold _ (H.rlt k h)]; exact H.c1 k h
        · rw [if_neg h,if_pos (by omega),cnew,if_neg h,if_pos (by omega)]
          exact Int.emod_eq_of_lt (by decide) (by have:=hp.1; omega)
      · rw [r1] at hi'
        by_cases h:k < T.us.length
        · rw [if_pos h] at hi'
          rw [cold _ (Nat.lt_trans hi' (H.rlt k h))]; exact H.cz k h i' hi'
        · rw [if_neg h,if_pos (by omega)] at hi'
          have ek:k=T.us.length:=by omega
          subst ek
          rw [cold i' hi',cnr i' hi']; rfl
      · rw [sumN]
        by_cases e:i'=i
        · subst e
          rw [hA j hj,s2 j hj,r3,if_neg (by omega),if_pos rfl,cnew,if_neg (by omega),if_pos rfl,Int.one_mul,Int.add_comm]
          refine em_add (sumN_mod fun k hk => ?_) rfl
          rw [cnew,if_pos hk,r3,if_pos hk]
        · rw [H.made i' (by omega) j hj,cold i' (by omega),cnr i' (by omega),Int.zero_mul,Int.add_zero]
          refine sumN_mod fun k hk => ?_
          rw [cold i' (by omega),r3,if_pos hk]
    · intro k hk
      rw [us1] at hk
      rw [r3,r2,r4]
      by_cases h:k < T.us.length
      · rw [if_pos h,if_pos h,if_pos h]; exact K.inv k h
      · rw [if_neg h,if_pos (by omega),if_neg h,if_pos (by omega),if_neg h,if_pos (by omega)]
        exact (finvC_in hp.1 hp.2 rn (prm_gcd hP rn z3)).2
theorem tkN_C {P R C:Nat} {l:List Int} (hP:Prm P) (hp:Md P) (hl:l.length=R * C) (hin:∀ a ∈ l,In P a):∀ i,i ≤ R → TkC P C i (cl C l) (tkN P C l i)
  | 0,_ => ⟨TkI.zero _ _,⟨fun k h => absurd h (Nat.not_lt_zero k),fun j k _ h => absurd h (Nat.not_lt_zero k),fun k h => absurd h (Nat.not_lt_zero k),fun k h => absurd h (Nat.not_lt_zero k),fun j k _ h => absurd h (Nat.not_lt_zero k),fun k h => absurd h (Nat.not_lt_zero k),fun k h => absurd h (Nat.not_lt_zero k),fun k h => absurd h (Nat.not_lt_zero k),fun i h => absurd h (Nat.not_lt_zero i)⟩,fun k h => absurd h (Nat.not_lt_zero k)⟩
  | i + 1,h => cup_step hP hp (tkN_C hP hp hl hin i (by omega)) (fun a ha => hin a (rowM_mem ha)) (rowM_len hl (by omega)) fun j hj => by rw [rowM_cl hl (by omega) hj]
end Go.Proofs.Ytmalpmnmknpphaa.TM
namespace Go.Proofs.Ytmalpmnmknpphaa.TM
open Go Go.RowKit
def cntN:Nat → (Nat → Bool) → Nat
  | 0,_ => 0
  | n + 1,f => cntN n f + (if f n=true then 1 else 0)
theorem cnt_congr {n:Nat} {f g:Nat → Bool} (h:∀ i,i < n → f i=g i):cntN n f=cntN n g:=by
  induction n with
  | zero => rfl
  | succ n ih => rw [cntN,cntN,ih fun i hi => h i (by omega),h n (by omega)]
theorem cnt_all {n:Nat} {f:Nat → Bool} (h:∀ i,i < n → f i=true):cntN n f=n:=by
  induction n with
  | zero => rfl
  | succ n ih => rw [cntN,ih fun i hi => h i (by omega),if_pos (h n (by omega))]
theorem cnt_add (m n:Nat) (f:Nat → Bool):cntN (m + n) f=cntN m f + cntN n (fun i => f (m + i)):=by
  induction n with
  | zero => rfl
  | succ n ih => rw [← Nat.add_assoc,cntN,ih,cntN]; omega
theorem cnt_mul (N:Nat) (f:Nat → Bool):∀ a,cntN (a * N) (fun q => f (q % N))=a * cntN N f
  | 0 => by simp [cntN]
  | a + 1 => by
    rw [Nat.succ_mul,cnt_add,cnt_mul N f a,Nat.succ_mul]
    congr 1
    exact cnt_congr fun i hi => by rw [Nat.mul_add_mod_self_right,Nat.mod_eq_of_lt hi]
theorem cnt_drop {m a:Nat} {f:Nat → Bool} (ha:a < m) (hf:f a=true):cntN m f=cntN m (fun j => f j && j != a) + 1:=by
  induction m with
  | zero => omega
  | succ m ih =>
    rw [cntN,cntN]
    by_cases e:a=m
    · subst e
      rw [if_pos hf,if_neg (by simp)]
      have:cntN a f=cntN a (fun j => f j && j != a):=cnt_congr fun i hi => by
        have:(i != a)=true:=by simp; omega
        rw [this,Bool.and_true]
      omega
    · rw [ih (by omega)]
      have:(m != a)=true:=by simp; omega
      rw [this,Bool.and_true]; omega
theorem cnt_inj:∀ (n:Nat) (f:Nat → Bool) (m:Nat) (g:Nat → Bool) (φ:Nat → Nat),(∀ i,i < n → f i=true → φ i < m ∧ g (φ i)=true) →
    (∀ i j,i < n → j < n → f i=true → f j=true → φ i=φ j → i=j) → cntN n f ≤ cntN m g
  | 0,_,_,_,_,_,_ => Nat.zero_le _
  | n + 1,f,m,g,φ,h1,h2 => by
    rw [cntN]
    by_cases c:f n=true
    · rw [if_pos c]
      obtain ⟨a1,a2⟩:=h1 n (by omega) c
      rw [cnt_drop a1 a2]
      refine Nat.succ_le_succ (cnt_inj n f m _ φ (fun i hi hf => ?_) (fun i j hi hj => h2 i j (by omega) (by omega)))
      obtain ⟨b1,b2⟩:=h1 i (by omega) hf
      refine ⟨b1,?_⟩
      have:(φ i != φ n)=true:=by
        simp only [bne_iff_ne]
        intro e
        have:=h2 i n (by omega) (by omega) hf c e
        omega
      rw [b2,this]; rfl
    · rw [if_neg c]
      exact cnt_inj n f m g φ (fun i hi => h1 i (by omega)) (fun i j hi hj => h2 i j (by omega) (by omega))
def vec (P n k:Nat):Int:=((n / P ^ k % P:Nat):Int)
def num (P:Nat):Nat → (Nat → Int) → Nat
  | 0,_ => 0
  | c + 1,x => (x 0 % P).toNat + P * num P c (fun k => x (k + 1))
theorem vec_in {P:Nat} (h:0 < P) (n k:Nat):In P (vec P n k):=⟨Int.natCast_nonneg _,by unfold vec; have:=Nat.mod_lt (n / P ^ k) h; omega⟩
theorem num_lt {P:Nat} (h:0 < P):∀ (c:Nat) (x:Nat → Int),num P c x < P ^ c
  | 0,_ => by simp [num]
  | c + 1,x => by
    have ih:=num_lt h c (fun k => x (k + 1))
    have h1:=Int.emod_nonneg (x 0) (show (P:Int) ≠ 0 by omega)
    have h2:=Int.emod_lt_of_pos (x 0) (show (0:Int) < P by omega)
    rw [num,Nat.pow_succ]
    have h3:P * num P c (fun k => x (k + 1)) + P ≤ P * P ^ c:=by rw [← Nat.mul_succ]; exact Nat.mul_le_mul_left P ih
    rw [Nat.mul_comm (P ^ c)]
    omega
theorem num_congr {P:Nat}:∀ (c:Nat) {x y:Nat → Int},(∀ k,k < c → x k % P=y k % P) → num P c x=num P c y
  | 0,_,_,_ => rfl
  | c + 1,x,y,h => by rw [num,num,h 0 (by omega),num_congr c fun k hk => h (k + 1) (by omega)]
theorem vec_num {P:Nat} (h:0 < P):∀ (c:Nat) (x:Nat → Int) (k:Nat),k < c → vec P (num P c x) k=x k % P
  | 0,_,_,hk => by omega
  | c + 1,x,k,hk => by
    have h1:=Int.emod_nonneg (x 0) (show (P:Int) ≠ 0 by omega)
    have h2:=Int.emod_lt_of_pos (x 0) (show (0:Int) < P by omega)
    have h3:(x 0 % P).toNat < P:=by omega
    rw [num]
    cases k with
    | zero =>
      unfold vec
      rw [Nat.pow_zero,Nat.div_one,Nat.add_mul_mod_self_left,Nat.mod_eq_of_lt h3]; omega
    | succ k =>
      have ih:=vec_num h c (fun k => x (k + 1)) k (by omega)
      rw [← ih]
      unfold vec
      rw [Nat.pow_succ,Nat.mul_comm (P ^ k) P,← Nat.div_div_eq_div_mul,Nat.add_mul_div_left _ _ h,Nat.div_eq_of_lt h3,Nat.zero_add]
theorem num_vec {P:Nat} (h:0 < P):∀ (c n:Nat),n < P ^ c → num P c (vec P n)=n
  | 0,n,hn => by simp at hn; subst hn; rfl
  | c + 1,n,hn => by
    rw [num]
    have e:(fun k => vec P n (k + 1))=vec P (n / P):=by
      funext k; unfold vec; rw [Nat.pow_succ,Nat.mul_comm,← Nat.div_div_eq_div_mul]
    have h0:(vec P n 0 % P).toNat=n % P:=by
      unfold vec; rw [Nat.pow_zero,Nat.div_one]; 
      have:=Nat.mod_lt n h
      rw [Int.emod_eq_of_lt (by omega) (by omega)]; omega
    rw [e,h0,num_vec h c (n / P) (by rw [Nat.pow_succ,Nat.mul_comm] at hn; exact (Nat.div_lt_iff_lt_mul h).2 (by rw [Nat.mul_comm]; exact hn)),Nat.mod_add_div]
theorem vec_inj {P c m n:Nat} (h:0 < P) (hm:m < P ^ c) (hn:n < P ^ c) (he:∀ k,k < c → vec P m k % P=vec P n k % P):m=n:=by
  rw [← num_vec h c m hm,← num_vec h c n hn,num_congr c he]
theorem num_inj {P c:Nat} {x y:Nat → Int} (h:0 < P) (he:num P c x=num P c y):∀ k,k < c → x k % P=y k % P:=fun k hk => by
  rw [← vec_num h c x k hk,← vec_num h c y k hk,he]
section
variable {P R C r:Nat} {A:Mx} {rw cw:Nat → Nat} {c u:Mx}
theorem div_pair {a b N:Nat} (hb:b < N):(a * N + b) / N=a ∧ (a * N + b) % N=b:=by
  have hN:0 < N:=by omega
  refine ⟨?_,?_⟩
  · rw [Nat.add_comm,Nat.add_mul_div_right _ _ hN,Nat.div_eq_of_lt hb,Nat.zero_add]
  · rw [Nat.add_comm,Nat.add_mul_mod_self_right,Nat.mod_eq_of_lt hb]
theorem Cp.kcnt (hP:Prm P) (H:Cp P R C r A rw cw c u) {f:Nat → Bool} (hf:∀ n,n < P ^ C → (f n=true ↔ ∀ i,i < R → apX C A (vec P n) i % P=0)):P ^ r * cntN (P ^ C) f=P ^ C:=by
  have p0:0 < P:=by have:=hP.1; omega
  have N0:0 < P ^ C:=Nat.pow_pos p0
  have hs:∀ z:Nat → Int,∃ x:Nat → Int,∀ k,k < r → apX C u x k % P=z k % P:=fun z => by
    obtain ⟨x,_,h⟩:=H.usolve hP z (fun _ => 0); exact ⟨x,h⟩
  let s:Nat → Nat → Int:=fun y => Classical.choose (hs (vec P y))
  have ss:∀ y k,k < r → apX C u (s y) k % P=vec P y k % P:=fun y => Classical.choose_spec (hs (vec P y))
  have hk:∀ n,n < P ^ C → (f n=true ↔ ∀ k,k < r → apX C u (vec P n) k % P=0):=fun n hn => (hf n hn).trans H.ker
  refine Nat.le_antisymm ?_ ?_
  · rw [← cnt_mul]
    refine Nat.le_trans ?_ (Nat.le_of_eq (cnt_all (n:=P ^ C) (f:=fun _ => true) fun _ _ => rfl))
    refine cnt_inj _ _ _ _ (fun q => num P C (fun j => vec P (q % P ^ C) j + s (q / P ^ C) j)) (fun q _ _ => ⟨num_lt p0 _ _,rfl⟩) (fun q q' hq hq' fq fq' he => ?_)
    have e1:=num_inj p0 he
    have hy:q / P ^ C < P ^ r:=(Nat.div_lt_iff_lt_mul N0).2 hq
    have hy':q' / P ^ C < P ^ r:=(Nat.div_lt_iff_lt_mul N0).2 hq'
    have k1:=(hk _ (Nat.mod_lt q N0)).1 fq
    have k2:=(hk _ (Nat.mod_lt q' N0)).1 fq'
    have ey:q / P ^ C=q' / P ^ C:=by
      refine vec_inj p0 hy hy' fun k hk => ?_
      have e2:=apX_mod (A:=u) e1 k
      rw [apX_add,apX_add,Int.add_emod,k1 k hk,ss _ k hk,Int.add_emod (apX C u (vec P (q' % P ^ C)) k),k2 k hk,ss _ k hk] at e2
      simpa using e2
    have en:q % P ^ C=q' % P ^ C:=by
      refine vec_inj p0 (Nat.mod_lt _ N0) (Nat.mod_lt _ N0) fun k hk => ?_
      have e3:=e1 k hk
      simp only [ey] at e3
      have:=em_sub e3 (rfl:s (q' / P ^ C) k % P=s (q' / P ^ C) k % P)
      simpa using this
    rw [← Nat.div_add_mod q (P ^ C),← Nat.div_add_mod q' (P ^ C),ey,en]
  · rw [← cnt_mul]
    have:P ^ C=cntN (P ^ C) (fun _ => true):=(cnt_all fun _ _ => rfl).symm
    refine Nat.le_trans (Nat.le_of_eq this) ?_
    have ny:∀ n,num P r (apX C u (vec P n)) < P ^ r:=fun n => num_lt p0 _ _
    have nx:∀ x,num P C x < P ^ C:=fun x => num_lt p0 _ _
    refine cnt_inj _ _ _ _ (fun n => num P r (apX C u (vec P n)) * P ^ C + num P C (fun j => vec P n j - s (num P r (apX C u (vec P n))) j)) (fun n hn _ => ⟨?_,?_⟩) (fun n n' hn hn' _ _ he => ?_)
    · have h1:=ny n
      have h2:=nx (fun j => vec P n j - s (num P r (apX C u (vec P n))) j)
      have h3:num P r (apX C u (vec P n)) * P ^ C + P ^ C ≤ P ^ r * P ^ C:=by rw [← Nat.succ_mul]; exact Nat.mul_le_mul_right _ h1
      omega
    · rw [(div_pair (nx _)).2,hk _ (nx _)]
      intro k hk
      have e1:∀ j,j < C → vec P (num P C (fun j => vec P n j - s (num P r (apX C u (vec P n))) j)) j % P=(vec P n j - s (num P r (apX C u (vec P n))) j) % P:=fun j hj => by
        rw [vec_num p0 _ _ _ hj,Int.emod_emod_of_dvd _ (Int.dvd_refl _)]
      rw [apX_mod e1,apX_sub,Int.sub_emod,ss _ k hk,vec_num p0 _ _ _ hk,Int.emod_emod_of_dvd _ (Int.dvd_refl _),Int.sub_self]; rfl
    · have ey:num P r (apX C u (vec P n))=num P r (apX C u (vec P n')):=by rw [← (div_pair (a:=num P r (apX C u (vec P n))) (nx _)).1,he,(div_pair (nx _)).1]
      have en:=(div_pair (a:=num P r (apX C u (vec P n))) (nx (fun j => vec P n j - s (num P r (apX C u (vec P n))) j))).2
      rw [he,(div_pair (nx _)).2,ey] at en
      refine vec_inj p0 hn hn' fun k hk => ?_
      have e3:=num_inj p0 en.symm k hk
      have:=em_add e3 (rfl:s (num P r (apX C u (vec P n'))) k % P=s (num P r (apX C u (vec P n'))) k % P)
      simpa using this
end
end Go.Proofs.Ytmalpmnmknpphaa.TM
namespace Go.Proofs.Ytmalpmnmknpphaa.TM
open Go Go.RowKit
def updr (A:Mx) (k:Nat) (u:Nat → Int):Mx:=fun i j => if i=k then u j else A i j
theorem updr_same (A:Mx) (k:Nat) (u:Nat → Int):updr A k u k=u:=by funext j; exact if_pos rfl
theorem updr_ne {A:Mx} {k i:Nat} (h:i ≠ k) (u:Nat → Int):updr A k u i=A i:=by funext j; exact if_neg h
theorem updr_id (A:Mx) (k:Nat):updr A k (A k)=A:=by funext i j; unfold updr; split <;> simp_all
theorem updr_comm {A:Mx} {k m:Nat} (h:k ≠ m) (u v:Nat → Int):updr (updr A k u) m v=updr (updr A m v) k u:=by
  funext i j
  unfold updr
  by_cases a:i=m
  · by_cases b:i=k
    · omega
    · simp [a,b]; omega
  · simp [a]
structure Alt (p:Int) (n:Nat) (F:Mx → Int):Prop where
  cg:∀ A B:Mx,(∀ i j,i < n → j < n → A i j % p=B i j % p) → F A % p=F B % p
  lin:∀ (A:Mx) (i:Nat) (u v:Nat → Int) (c:Int),i < n → F (updr A i (fun j => u j + c * v j))=F (updr A i u) + c * F (updr A i v)
  adj:∀ (A:Mx) (i:Nat),i + 1 < n → A i=A (i + 1) → F A=0
def swp (A:Mx) (i j:Nat):Mx:=fun a => A (if a=i then j else if a=j then i else a)
theorem swp_updr {A:Mx} {i j:Nat} (h:i ≠ j):swp A i j=updr (updr A i (A j)) j (A i):=by
  funext a b
  unfold swp updr
  by_cases e:a=j
  · subst e; rw [if_neg (fun e => h e.symm),if_pos rfl,if_pos rfl]
  · rw [if_neg e]
    by_cases d:a=i
    · rw [if_pos d,if_pos d,if_neg e]
    · rw [if_neg d,if_neg d,if_neg e]
theorem Alt.add {p:Int} {n:Nat} {F:Mx → Int} (H:Alt p n F) (A:Mx) {i:Nat} (u v:Nat → Int) (hi:i < n):F (updr A i (fun j => u j + v j))=F (updr A i u) + F (updr A i v):=by
  have:=H.lin A i u v 1 hi
  simpa using this
theorem Alt.swap0 {p:Int} {n:Nat} {F:Mx → Int} (H:Alt p n F) {i j:Nat} (hi:i < n) (hj:j < n) (hne:i ≠ j) (h0:∀ A:Mx,A i=A j → F A=0) (A:Mx):F (swp A i j)=- F A:=by
  have key:∀ u v:Nat → Int,F (updr (updr A i u) j v)=- F (updr (updr A i v) j u):=by
    intro u v
    have z:∀ w:Nat → Int,F (updr (updr A i w) j w)=0:=fun w => h0 _ (by rw [updr_same,updr_ne hne,updr_same])
    have e:=z (fun k => u k + v k)
    rw [H.add _ u v hj,updr_comm hne,updr_comm hne,H.add _ u v hi,H.add _ u v hi,← updr_comm hne,← updr_comm hne,← updr_comm hne,← updr_comm hne,z,z] at e
    omega
  rw [swp_updr hne,key]
  rw [updr_id,updr_id]
theorem Alt.alike {p:Int} {n:Nat} {F:Mx → Int} (H:Alt p n F):∀ (d i:Nat) (A:Mx),i + d + 1 < n → A i=A (i + d + 1) → F A=0
  | 0,i,A,h,he => H.adj A i h he
  | d + 1,i,A,h,he => by
    have sw:=H.swap0 (i:=i + d + 1) (j:=i + d + 2) (by omega) (by omega) (by omega) (fun B hB => H.adj B (i + d + 1) (by omega) hB) A
    have z:F (swp A (i + d + 1) (i + d + 2))=0:=by
      refine Alt.alike H d i _ (by omega) ?_
      show A (if i=i + d + 1 then _ else if i=i + d + 2 then _ else i)=A (if i + d + 1=i + d + 1 then _ else _)
      rw [if_neg (by omega),if_neg (by omega),if_pos rfl,he]
      rfl
    omega
theorem Alt.alt {p:Int} {n:Nat} {F:Mx → Int} (H:Alt p n F) {i j:Nat} (hi:i < n) (hj:j < n) (hne:i ≠ j) (A:Mx) (he:A i=A j):F A=0:=by
  rcases Nat.lt_or_ge i j with h|h
  · exact H.alike (j - i - 1) i A (by omega) (by rw [he]; congr 1; omega)
  · exact H.alike (i - j - 1) j A (by omega) (by rw [← he]; congr 1; omega)
theorem Alt.swap {p:Int} {n:Nat} {F:Mx → Int} (H:Alt p n F) {i j:Nat} (hi:i < n) (hj:j < n) (hne:i ≠ j) (A:Mx):F (swp A i j)=- F A :=
  H.swap0 hi hj hne (fun B hB => H.alt hi hj hne B hB) A
theorem Alt.scale {p:Int} {n:Nat} {F:Mx → Int} (H:Alt p n F) (A:Mx) {i:Nat} (v:Nat → Int) (c:Int) (hi:i < n):F (updr A i (fun j => c * v j))=c * F (updr A i v):=by
  have h1:=H.lin A i (fun _ => 0) v c hi
  have h2:=H.lin A i (fun _ => 0) (fun _ => 0) 1 hi
  simp at h1 h2
  omega
theorem Alt.zero {p:Int} {n:Nat} {F:Mx → Int} (H:Alt p n F) (A:Mx) {i:Nat} (hi:i < n) (h0:∀ j,A i j=0):F A=0:=by
  have h:=H.scale A (A i) 0 hi
  rw [Int.zero_mul] at h
  rw [← updr_id A i,← h]
  congr 2
  funext j
  rw [h0,Int.mul_zero]
theorem Alt.comb {p:Int} {n:Nat} {F:Mx → Int} (H:Alt p n F) (A:Mx) {i:Nat} (hi:i < n) (s:Nat → Nat) (c:Nat → Int) (u:Nat → Int) :
    ∀ m,(∀ k,k < m → c k=0 ∨ (s k < n ∧ s k ≠ i)) → F (updr A i (fun j => u j + sumN m (fun k => c k * A (s k) j)))=F (updr A i u)
  | 0,_ => by simp [sumN]
  | m + 1,h => by
    have ih:=Alt.comb H A hi s c u m fun k hk => h k (by omega)
    have e:(fun j => u j + sumN (m + 1) (fun k => c k * A (s k) j))=fun j => (u j + sumN m (fun k => c k * A (s k) j)) + c m * A (s m) j:=by
      funext j; rw [sumN]; omega
    rw [e,H.lin A i _ _ _ hi,ih]
    rcases h m (by omega) with h1|⟨h1,h2⟩
    · rw [h1,Int.zero_mul,Int.add_zero]
    · rw [H.alt hi h1 (Ne.symm h2) (updr A i (A (s m))) (by rw [updr_same,updr_ne h2]),Int.mul_zero,Int.add_zero]
theorem tr_updr (A:Mx) (k:Nat) (u:Nat → Int):tr (updr A k u)=updc (tr A) k u:=rfl
theorem Lp_alt (p:Int) (n:Nat):Alt p n (Lp n) where
  cg A B h:=Lp_mod n h
  lin A i u v c hi:=by
    rw [Lp_tr,Lp_tr n (updr A i u),Lp_tr n (updr A i v),tr_updr,tr_updr,tr_updr,Lp_lin n _ _ _ _ _ hi]
  adj A i hi h:=by
    rw [Lp_tr]
    exact Lp_adj n _ i hi fun j => congrFun h j
def mulX (m:Nat) (A B:Mx):Mx:=fun i j => sumN m (fun k => A i k * B k j)
theorem Lp_mul_alt (p:Int) (n:Nat) (B:Mx):Alt p n (fun A => Lp n (mulX n A B)) where
  cg A A' h:=Lp_mod n fun i j hi hj => sumN_mod fun k hk => by rw [Int.mul_emod,h i k hi hk,← Int.mul_emod]
  lin A i u v c hi:=by
    have e:∀ w:Nat → Int,mulX n (updr A i w) B=updr (mulX n A B) i (fun j => sumN n (fun k => w k * B k j)):=fun w => by
      funext a j
      unfold mulX updr
      by_cases h:a=i
      · simp [h]
      · simp [h]
    simp only [e]
    rw [← (Lp_alt p n).lin _ i _ _ c hi]
    congr 2
    funext j
    rw [← sumN_mul,← sumN_add]
    refine sumN_congr fun k _ => ?_
    grind
  adj A i hi h:=(Lp_alt p n).adj _ i hi (by funext j; unfold mulX; rw [h])
end Go.Proofs.Ytmalpmnmknpphaa.TM
namespace Go.Proofs.Ytmalpmnmknpphaa.TM
open Go Go.RowKit
def eps (x y:Int):Int:=if x < y then 1 else -1
theorem eps_flip {x y:Int} (h:x ≠ y):eps y x=- eps x y:=by
  unfold eps
  by_cases c:x < y
  · rw [if_pos c,if_neg (by omega)]
  · rw [if_neg c,if_pos (by omega)]; rfl
def colP (f:Nat → Int) (y:Int):Nat → Int
  | 0 => 1
  | k + 1 => colP f y k * eps (f k) y
def sgnI (f:Nat → Int):Nat → Int
  | 0 => 1
  | j + 1 => sgnI f j * colP f (f j) j
def sw (a b:Nat) (f:Nat → Int):Nat → Int:=fun i => if i=a then f b else if i=b then f a else f i
theorem sw_a (a b:Nat) (f:Nat → Int):sw a b f a=f b:=if_pos rfl
theorem sw_b (a b:Nat) (f:Nat → Int):sw a b f b=f a:=by
  unfold sw
  by_cases h:b=a
  · subst h; rw [if_pos rfl]
  · rw [if_neg h,if_pos rfl]
theorem sw_o {a b i:Nat} (f:Nat → Int) (h1:i ≠ a) (h2:i ≠ b):sw a b f i=f i:=by unfold sw; rw [if_neg h1,if_neg h2]
theorem colP_congr {f g:Nat → Int} {y:Int}:∀ {k:Nat},(∀ i,i < k → f i=g i) → colP f y k=colP g y k
  | 0,_ => rfl
  | k + 1,h => by rw [colP,colP,colP_congr (fun i hi => h i (by omega)),h k (by omega)]
theorem sgnI_congr {f g:Nat → Int}:∀ {n:Nat},(∀ i,i < n → f i=g i) → sgnI f n=sgnI g n
  | 0,_ => rfl
  | n + 1,h => by rw [sgnI,sgnI,sgnI_congr (fun i hi => h i (by omega)),h n (by omega),colP_congr (fun i hi => h i (by omega))]
theorem colP_adj (f:Nat → Int) (y:Int) (a:Nat):∀ d,colP (sw a (a + 1) f) y (a + 2 + d)=colP f y (a + 2 + d)
  | 0 => by
    rw [Nat.add_zero,show a + 2=(a + 1) + 1 from rfl,colP,colP,colP,colP,sw_a,sw_b,colP_congr (g:=f) (fun i hi => sw_o f (by omega) (by omega)),Int.mul_assoc,Int.mul_assoc,Int.mul_comm (eps (f (a + 1)) y)]
  | d + 1 => by
    rw [show a + 2 + (d + 1)=(a + 2 + d) + 1 from rfl,colP,colP,colP_adj f y a d,sw_o f (by omega) (by omega)]
theorem sgnI_adj (f:Nat → Int) (a:Nat) (h:f a ≠ f (a + 1)):∀ d,sgnI (sw a (a + 1) f) (a + 2 + d)=- sgnI f (a + 2 + d)
  | 0 => by
    have e:∀ y,colP (sw a (a + 1) f) y a=colP f y a:=fun y => colP_congr (fun i hi => sw_o f (by omega) (by omega))
    rw [Nat.add_zero,show a + 2=(a + 1) + 1 from rfl,sgnI,sgnI,sgnI,sgnI,colP,colP,sw_a,sw_b,e,e,sgnI_congr (g:=f) (fun i hi => sw_o f (by omega) (by omega)),eps_flip h]
    generalize sgnI f a=s
    generalize colP f (f a) a=x
    generalize colP f (f (a + 1)) a=y
    generalize eps (f a) (f (a + 1))=z
    rw [Int.mul_neg,Int.mul_neg]
    congr 1
    rw [Int.mul_assoc,Int.mul_assoc,← Int.mul_assoc y x,← Int.mul_assoc x y,Int.mul_comm y x]
  | d + 1 => by
    rw [show a + 2 + (d + 1)=(a + 2 + d) + 1 from rfl,sgnI,sgnI,sgnI_adj f a h d,sw_o f (by omega) (by omega),colP_adj,Int.neg_mul]
def InjN (f:Nat → Int) (n:Nat):Prop:=∀ i j,i < n → j < n → f i=f j → i=j
theorem InjN.sw {f:Nat → Int} {n a b:Nat} (h:InjN f n) (ha:a < n) (hb:b < n):InjN (sw a b f) n:=by
  have key:∀ i,i < n → ∃ i',i' < n ∧ TM.sw a b f i=f i' ∧ (i'=if i=a then b else if i=b then a else i):=fun i hi => by
    unfold TM.sw
    by_cases h1:i=a
    · exact ⟨b,hb,by rw [if_pos h1],by rw [if_pos h1]⟩
    · by_cases h2:i=b
      · exact ⟨a,ha,by rw [if_neg h1,if_pos h2],by rw [if_neg h1,if_pos h2]⟩
      · exact ⟨i,hi,by rw [if_neg h1,if_neg h2],by rw [if_neg h1,if_neg h2]⟩
  intro i j hi hj he
  obtain ⟨i',hi',e1,e2⟩:=key i hi
  obtain ⟨j',hj',e3,e4⟩:=key j hj
  have:=h i' j' hi' hj' (by rw [← e1,← e3]; exact he)
  rw [e2,e4] at this
  split at this <;> split at this <;> (try split at this) <;> (try split at this) <;> omega
theorem sgnI_sw:∀ (d a n:Nat) (f:Nat → Int),InjN f n → a + 1 + d < n → sgnI (sw a (a + 1 + d) f) n=- sgnI f n
  | 0,a,n,f,hi,hn => by
    obtain ⟨e,rfl⟩:∃ e,n=a + 2 + e:=⟨n - (a + 2),by omega⟩
    exact sgnI_adj f a (fun he => by have:=hi a (a + 1) (by omega) (by omega) he; omega) e
  | d + 1,a,n,f,hi,hn => by
    obtain ⟨e,he⟩:∃ e,n=(a + 1 + d) + 2 + e:=⟨n - (a + 1 + d + 2),by omega⟩
    have h1:sw a (a + 1 + (d + 1)) f=sw (a + 1 + d) (a + 1 + d + 1) (sw a (a + 1 + d) (sw (a + 1 + d) (a + 1 + d + 1) f)):=by
      rw [show a + 1 + (d + 1)=a + 1 + d + 1 from rfl]
      funext i
      unfold sw
      have n1:¬ a=a + 1 + d:=by omega
      have n2:¬ a=a + 1 + d + 1:=by omega
      have n3:¬ a + 1 + d + 1=a:=by omega
      have n4:¬ a + 1 + d=a:=by omega
      have n5:¬ a + 1 + d + 1=a + 1 + d:=by omega
      have n6:¬ a + 1 + d=a + 1 + d + 1:=by omega
      by_cases c1:i=a
      · subst c1; simp only [if_true,n1,n2,n3,n4,n5,n6,if_false]
      · by_cases c2:i=a + 1 + d
        · subst c2; simp only [if_true,n1,n2,n3,n4,n5,n6,if_false]
        · by_cases c3:i=a + 1 + d + 1
          · subst c3; simp only [if_true,n1,n2,n3,n4,n5,n6,if_false]
          · simp only [c1,c2,c3,if_false]
    have i1:=hi.sw (a:=a + 1 + d) (b:=a + 1 + d + 1) (by omega) (by omega)
    have i2:=i1.sw (a:=a) (b:=a + 1 + d) (by omega) (by omega)
    have adj:∀ g:Nat → Int,InjN g n → sgnI (sw (a + 1 + d) (a + 1 + d + 1) g) n=- sgnI g n:=fun g hg => by
      rw [he]
      exact sgnI_adj g (a + 1 + d) (fun h => by have:=hg (a + 1 + d) (a + 1 + d + 1) (by omega) (by omega) h; omega) e
    rw [h1,adj _ i2,sgnI_sw d a n _ i1 (by omega),adj _ hi]
    omega
end Go.Proofs.Ytmalpmnmknpphaa.TM
namespace Go.Proofs.Ytmalpmnmknpphaa.TM
open Go Go.RowKit
def InN (q:Nat → Int) (n:Nat):Prop:=∀ i,i < n → 0 ≤ q i ∧ q i < n
theorem tbl_nodup {q:Nat → Int}:∀ {n:Nat},InjN q n → (tbl n q).Nodup
  | 0,_ => List.nodup_nil
  | n + 1,h => by
    rw [tbl_succ,List.nodup_append]
    refine ⟨tbl_nodup fun i j hi hj => h i j (by omega) (by omega),by simp,fun x hx y hy he => ?_⟩
    obtain ⟨i,hi,e⟩:=tbl_mem hx
    have hy':y=q n:=by simpa using hy
    have:=h i n (by omega) (by omega) (by rw [e,he,hy'])
    omega
theorem surjN {q:Nat → Int} {n:Nat} (h:InjN q n) (hr:InN q n) (m:Nat) (hm:m < n):∃ i,i < n ∧ q i=m:=by
  by_cases c:(m:Int) ∈ tbl n q
  · exact tbl_mem c
  · have h1:((m:Int)::tbl n q).Nodup:=List.nodup_cons.2 ⟨c,tbl_nodup h⟩
    have h2:=nodup_bound h1 (n:=n) (fun a ha => by
      rcases List.mem_cons.1 ha with rfl|ha
      · omega
      · obtain ⟨i,hi,rfl⟩:=tbl_mem ha; exact hr i hi)
    rw [List.length_cons,tbl_len] at h2
    omega
theorem colP_id (y:Int):∀ k:Nat,(k:Int) ≤ y → colP (fun i => (i:Int)) y k=1
  | 0,_ => rfl
  | k + 1,h => by rw [colP,colP_id y k (by omega),eps,if_pos (by omega)]; rfl
theorem sgnI_id:∀ n,sgnI (fun i => (i:Int)) n=1
  | 0 => rfl
  | n + 1 => by rw [sgnI,sgnI_id n,colP_id _ _ (by omega)]; rfl
theorem sw_in {q:Nat → Int} {n a b:Nat} (h:InN q n) (ha:a < n) (hb:b < n):InN (sw a b q) n:=fun i hi => by
  unfold sw
  by_cases c1:i=a
  · rw [if_pos c1]; exact h b hb
  · by_cases c2:i=b
    · rw [if_neg c1,if_pos c2]; exact h a ha
    · rw [if_neg c1,if_neg c2]; exact h i hi
end Go.Proofs.Ytmalpmnmknpphaa.TM
namespace Go.Proofs.Ytmalpmnmknpphaa.TM
open Go Go.RowKit
attribute [local irreducible] K W WOps Effs Xg Xo Xr Xdg Xdo Xdr Xif CallsP CallR
def sgnP (x:List (List Int)):Nat → Int
  | 0 => 1
  | j + 1 => if (x.getD j []).length % 2=0 then - sgnP x j else sgnP x j
theorem sgnP_one (x:List (List Int)):∀ j,sgnP x j=1 ∨ sgnP x j=-1
  | 0 => .inl rfl
  | j + 1 => by
    rw [sgnP]
    rcases sgnP_one x j with h|h <;> rw [h] <;> split <;> simp
def sgnR (l:List Int):Int:=sgnP (ringsI l) (ringsI l).length
def signR (l:List Int):Int × Int:=if orderB l then (sgnR l,0) else (0,1)
theorem sign_walk (l:List Int) (hl:l.length ≤ maxLen):CallsP Try.prog 80 [li l] (.tup [i64 (signR l).1,i64 (signR l).2]):=by
  have q1:=pright_walk l hl
  unfold signR
  cases h1:orderB l with
  | false =>
    rw [h1] at q1
    refine X_startP (n:=25) (m:=1) (rs:=[.tmp 2,.tmp 3]) Try.func80 rfl rfl rfl rfl (by decide) fun base => ?_
    repeat (first|((first|refine X_call_fn2 rfl (by simp only [tys]) ?_|refine X_dcall_fn2 rfl (by simp only [tys]) ?_); apply Exists.intro; apply And.intro; (focus (simp -dsimp only [simx,zzC,zzB,tys,ite_self,opnL,callB,callX,readsB,stepOp,nilCmp,ofVal,opBuiltin,opLen,PV.sk,scalBin,scalUn,intBin,opLoad,natOf,opConvert,opField,cellsP,oneP,Value.oneCell',opStore,toIV,scalT,scalA,scalC,boxesA,boxesC,zipB_none,zipB_mx,isZ,opZip,zeroP,opAppendZ,opMakeMap,opLookup,mboxB,opUpdate,↓reduceIte,Nat.reduceSub,Nat.reduceEqDiff,Nat.reduceAdd,Nat.reduceMul,Nat.reduceLT,Nat.reduceLeDiff,Int.reduceToNat,Int.reduceLE,Int.reduceLT,Int.reduceNeg,reduceCtorEq,zzL,if_true,if_false] <;> rfl)); apply Exists.intro; apply And.intro; (focus (first|exact q1)))|refine X_opc rfl ?_|refine X_dopc rfl ?_|refine ⟨(by show drawK _ _=true; kernel_rfl:drawX _ _ _),?_⟩|exact (by show drawK _ _=true; kernel_rfl:drawX _ _ _)|simp -dsimp (maxSteps:=20000000) (disch:=omega) only [simx,zzC,zzB,tys,ite_self,opnL,callB,callX,readsB,stepOp,nilCmp,ofVal,opBuiltin,opLen,PV.sk,scalBin,scalUn,intBin,opLoad,natOf,opConvert,opField,cellsP,oneP,Value.oneCell',opStore,toIV,scalT,scalA,scalC,boxesA,boxesC,zipB_none,zipB_mx,isZ,opZip,zeroP,opAppendZ,opMakeMap,opLookup,mboxB,opUpdate,↓reduceIte,Nat.reduceSub,Nat.reduceEqDiff,Nat.reduceAdd,Nat.reduceMul,Nat.reduceLT,Nat.reduceLeDiff,Int.reduceToNat,Int.reduceLE,Int.reduceLT,Int.reduceNeg,reduceCtorEq,zzR,gos,Int.reduceAdd,Int.reduceSub,Int.reduceMul,Int.reduceEq])
  | true =>
    rw [h1] at q1
    have o:=(orderB_iff l).1 h1
    have d:=rings_walk l o
    have rl:(ringsI l).length ≤ 64:=Nat.le_trans (rgs_len l l.length) o.le
    have rm:∀ r ∈ ringsI l,True:=fun _ _ => trivial
    simp only [if_true]
    unfold sgnR
    generalize ringsI l=x at d rl ⊢
    refine X_startP (n:=25) (m:=1) (rs:=[.tmp 2,.tmp 3]) Try.func80 rfl rfl rfl rfl (by decide) fun base => ?_
    repeat (first|((first|refine X_call_fn2 rfl (by simp only [tys]) ?_|refine X_dcall_fn2 rfl (by simp only [tys]) ?_); apply Exists.intro; apply And.intro; (focus (simp -dsimp only [simx,zzC,zzB,tys,ite_self,opnL,callB,callX,readsB,stepOp,nilCmp,ofVal,opBuiltin,opLen,PV.sk,scalBin,scalUn,intBin,opLoad,natOf,opConvert,opField,cellsP,oneP,Value.oneCell',opStore,toIV,scalT,scalA,scalC,boxesA,boxesC,zipB_none,zipB_mx,isZ,opZip,zeroP,opAppendZ,opMakeMap,opLookup,mboxB,opUpdate,↓reduceIte,Nat.reduceSub,Nat.reduceEqDiff,Nat.reduceAdd,Nat.reduceMul,Nat.reduceLT,Nat.reduceLeDiff,Int.reduceToNat,Int.reduceLE,Int.reduceLT,Int.reduceNeg,reduceCtorEq,zzL,if_true,if_false] <;> rfl)); apply Exists.intro; apply And.intro; (focus (first|exact q1|exact d)))|refine X_opc rfl ?_|refine X_dopc rfl ?_|refine ⟨(by show drawK _ _=true; kernel_rfl:drawX _ _ _),?_⟩|exact (by show drawK _ _=true; kernel_rfl:drawX _ _ _)|simp -dsimp (maxSteps:=20000000) (disch:=omega) only [simx,zzC,zzB,tys,ite_self,opnL,callB,callX,readsB,stepOp,nilCmp,ofVal,opBuiltin,opLen,PV.sk,scalBin,scalUn,intBin,opLoad,natOf,opConvert,opField,cellsP,oneP,Value.oneCell',opStore,toIV,scalT,scalA,scalC,boxesA,boxesC,zipB_none,zipB_mx,isZ,opZip,zeroP,opAppendZ,opMakeMap,opLookup,mboxB,opUpdate,↓reduceIte,Nat.reduceSub,Nat.reduceEqDiff,Nat.reduceAdd,Nat.reduceMul,Nat.reduceLT,Nat.reduceLeDiff,Int.reduceToNat,Int.reduceLE,Int.reduceLT,Int.reduceNeg,reduceCtorEq,gos,Int.reduceAdd,Int.reduceSub,Int.reduceMul,Int.reduceEq])
    refine X_loopH [4,11,12,13] [] (0) (x.length) (fun j => True) (fun j => [(4,i64 (sgnP x j)),(13,i64 j)]) (fun j => Heap.none) ?_ ?_ ?_ ?_ ?_ (by decide) ?_
    · exact (fgt_nil)
    · ((simp -dsimp (disch:=omega) only [simx,zzB,tys,ite_self,opnL,callB,callX,readsB,stepOp,nilCmp,ofVal,opBuiltin,opLen,PV.sk,scalBin,scalUn,intBin,opLoad,natOf,opConvert,opField,cellsP,oneP,Value.oneCell',opStore,toIV,scalT,scalA,scalC,boxesA,boxesC,zipB_none,zipB_mx,isZ,opZip,zeroP,opAppendZ,opMakeMap,opLookup,mboxB,opUpdate,↓reduceIte,Nat.reduceSub,Nat.reduceEqDiff,Nat.reduceAdd,Nat.reduceMul,Nat.reduceLT,Nat.reduceLeDiff,Int.reduceToNat,Int.reduceLE,Int.reduceLT,Int.reduceNeg,reduceCtorEq,gos,Int.reduceAdd,Int.reduceSub,Int.reduceMul,Int.reduceEq]) <;> first|rfl|simp [sgnP])
    · exact drop_nil _
    · omega
    · trivial
    · intro j hj _
      by_cases cj:j < x.length
      · have g1:x[j]?=some x[j]:=List.getElem?_eq_getElem cj
        have sg:sgnP x (j + 1)=if (x.getD j []).length % 2=0 then - sgnP x j else sgnP x j:=rfl
        rw [List.getD_eq_getElem?_getD,g1,Option.getD_some] at sg
        have s1:=sgnP_one x j
        generalize x[j]=r at g1 sg
        have e1:Int.tmod (r.length:Int) 2=((r.length % 2:Nat):Int):=rfl
        by_cases c:r.length % 2=0
        · rw [if_pos c] at sg
          have e2:IntKind.i64.wrap (0 - sgnP x j)=- sgnP x j:=by
            rw [iw_of (by omega) (by omega)]; omega
          have e3:((r.length % 2:Nat):Int)=0:=by omega
          repeat (first|refine X_opc rfl ?_|refine X_dopc rfl ?_|refine ⟨(by show drawK _ _=true; kernel_rfl:drawX _ _ _),?_⟩|exact (by show drawK _ _=true; kernel_rfl:drawX _ _ _)|simp -dsimp (maxSteps:=20000000) (disch:=omega) only [simx,zzC,zzB,tys,ite_self,opnL,callB,callX,readsB,stepOp,nilCmp,ofVal,opBuiltin,opLen,PV.sk,scalBin,scalUn,intBin,opLoad,natOf,opConvert,opField,cellsP,oneP,Value.oneCell',opStore,toIV,scalT,scalA,scalC,boxesA,boxesC,zipB_none,zipB_mx,isZ,opZip,zeroP,opAppendZ,opMakeMap,opLookup,mboxB,opUpdate,↓reduceIte,Nat.reduceSub,Nat.reduceEqDiff,Nat.reduceAdd,Nat.reduceMul,Nat.reduceLT,Nat.reduceLeDiff,Int.reduceToNat,Int.reduceLE,Int.reduceLT,Int.reduceNeg,reduceCtorEq,gos,Int.reduceAdd,Int.reduceSub,Int.reduceMul,Int.reduceEq,cj,g1,ivl,e1,e3,e2])
          refine ⟨cj,(fgt_nil),⟨?_,rfl⟩,drop_nil _⟩
          rw [sg]
        · rw [if_neg c] at sg
          have e3:¬ ((r.length % 2:Nat):Int)=0:=by omega
          repeat (first|refine X_opc rfl ?_|refine X_dopc rfl ?_|refine ⟨(by show drawK _ _=true; kernel_rfl:drawX _ _ _),?_⟩|exact (by show drawK _ _=true; kernel_rfl:drawX _ _ _)|simp -dsimp (maxSteps:=20000000) (disch:=omega) only [simx,zzC,zzB,tys,ite_self,opnL,callB,callX,readsB,stepOp,nilCmp,ofVal,opBuiltin,opLen,PV.sk,scalBin,scalUn,intBin,opLoad,natOf,opConvert,opField,cellsP,oneP,Value.oneCell',opStore,toIV,scalT,scalA,scalC,boxesA,boxesC,zipB_none,zipB_mx,isZ,opZip,zeroP,opAppendZ,opMakeMap,opLookup,mboxB,opUpdate,↓reduceIte,Nat.reduceSub,Nat.reduceEqDiff,Nat.reduceAdd,Nat.reduceMul,Nat.reduceLT,Nat.reduceLeDiff,Int.reduceToNat,Int.reduceLE,Int.reduceLT,Int.reduceNeg,reduceCtorEq,gos,Int.reduceAdd,Int.reduceSub,Int.reduceMul,Int.reduceEq,cj,g1,ivl,e1,e3])
          refine ⟨cj,(fgt_nil),⟨?_,rfl⟩,drop_nil _⟩
          rw [sg]
      · have hj:j=x.length:=by omega
        subst hj
        repeat (first|refine X_opc rfl ?_|refine X_dopc rfl ?_|refine ⟨(by show drawK _ _=true; kernel_rfl:drawX _ _ _),?_⟩|exact (by show drawK _ _=true; kernel_rfl:drawX _ _ _)|simp -dsimp (maxSteps:=20000000) (disch:=omega) only [simx,zzC,zzB,tys,ite_self,opnL,callB,callX,readsB,stepOp,nilCmp,ofVal,opBuiltin,opLen,PV.sk,scalBin,scalUn,intBin,opLoad,natOf,opConvert,opField,cellsP,oneP,Value.oneCell',opStore,toIV,scalT,scalA,scalC,boxesA,boxesC,zipB_none,zipB_mx,isZ,opZip,zeroP,opAppendZ,opMakeMap,opLookup,mboxB,opUpdate,↓reduceIte,Nat.reduceSub,Nat.reduceEqDiff,Nat.reduceAdd,Nat.reduceMul,Nat.reduceLT,Nat.reduceLeDiff,Int.reduceToNat,Int.reduceLE,Int.reduceLT,Int.reduceNeg,reduceCtorEq,zzR,gos,Int.reduceAdd,Int.reduceSub,Int.reduceMul,Int.reduceEq])
end Go.Proofs.Ytmalpmnmknpphaa.TM
namespace Go.Proofs.Ytmalpmnmknpphaa.TM
open Go Go.RowKit
def nx (l:List Int) (a:Int):Int:=l.getD a.toNat 0
theorem itn_nx (l:List Int) (a:Int) (k:Nat):itn l a (k + 1)=nx l (itn l a k):=rfl
theorem nx_inj {l:List Int} (o:Ord l) {a b:Int} (ha:0 ≤ a ∧ a < l.length) (hb:0 ≤ b ∧ b < l.length) (h:nx l a=nx l b):a=b:=by
  have h1:a.toNat < l.length:=by omega
  have h2:b.toNat < l.length:=by omega
  unfold nx at h
  rw [List.getD_eq_getElem?_getD,List.getD_eq_getElem?_getD,List.getElem?_eq_getElem h1,List.getElem?_eq_getElem h2] at h
  simp only [Option.getD_some] at h
  have hp:=List.pairwise_iff_getElem.1 o.nd
  rcases Nat.lt_trichotomy a.toNat b.toNat with c|c|c
  · exact absurd h (hp _ _ h1 h2 c)
  · omega
  · exact absurd h.symm (hp _ _ h2 h1 c)
def Cl (l s:List Int):Prop:=∀ a:Int,0 ≤ a → a < l.length → (a ∈ s ↔ nx l a ∈ s)
theorem orb_mem {l:List Int} {a x:Int} {k:Nat}:x ∈ orb l a k ↔ ∃ i,i < k ∧ itn l a i=x:=by
  unfold orb
  rw [List.mem_map]
  constructor
  · rintro ⟨i,hi,e⟩; exact ⟨i,List.mem_range.1 hi,e⟩
  · rintro ⟨i,hi,e⟩; exact ⟨i,List.mem_range.2 hi,e⟩
theorem ring_back {l s:List Int} (o:Ord l) (hc:Cl l s) {J:Int} (h0:0 ≤ J) (h1:J < l.length) (hJ:J ∉ s) {m:Nat} (n1:itn l J m ∈ s ++ orb l J m) (n2:∀ i,i < m → itn l J i ∉ s ++ orb l J i):0 < m ∧ itn l J m=J:=by
  have it:=itn_in o h0 h1
  cases m with
  | zero =>
    rw [orb_zero,List.append_nil] at n1
    exact absurd n1 hJ
  | succ q =>
    refine ⟨by omega,?_⟩
    have hq:=n2 q (by omega)
    rcases List.mem_append.1 n1 with h|h
    · rw [itn_nx] at h
      exact absurd (List.mem_append.2 (.inl ((hc _ (it q).1 (it q).2).2 h))) hq
    · obtain ⟨i,hi,e⟩:=orb_mem.1 h
      cases i with
      | zero => exact e.symm
      | succ i =>
        rw [itn_nx,itn_nx] at e
        have:=nx_inj o (it i) (it q) e
        exact absurd (List.mem_append.2 (.inr (orb_mem.2 ⟨i,by omega,this⟩))) hq
theorem cl_next {l s:List Int} (o:Ord l) (hc:Cl l s) {J:Int} (h0:0 ≤ J) (h1:J < l.length) {m:Nat} (hm:0 < m) (hb:itn l J m=J):Cl l (s ++ orb l J m):=by
  have it:=itn_in o h0 h1
  intro a a0 a1
  rw [List.mem_append,List.mem_append,hc a a0 a1]
  refine or_congr Iff.rfl ?_
  rw [orb_mem,orb_mem]
  constructor
  · rintro ⟨i,hi,rfl⟩
    by_cases c:i + 1 < m
    · exact ⟨i + 1,c,itn_nx _ _ _⟩
    · have:i + 1=m:=by omega
      refine ⟨0,hm,?_⟩
      rw [← itn_nx,this,hb]; rfl
  · rintro ⟨i,hi,e⟩
    cases i with
    | zero =>
      obtain ⟨q,rfl⟩:∃ q,m=q + 1:=⟨m - 1,by omega⟩
      refine ⟨q,by omega,?_⟩
      refine nx_inj o (it q) ⟨a0,a1⟩ ?_
      rw [← itn_nx,hb,← e]; rfl
    | succ i =>
      rw [itn_nx] at e
      exact ⟨i,by omega,nx_inj o (it i) ⟨a0,a1⟩ e⟩
end Go.Proofs.Ytmalpmnmknpphaa.TM
namespace Go.Proofs.Ytmalpmnmknpphaa.TM
open Go Go.RowKit
theorem sw_comm (a b:Nat) (f:Nat → Int):sw a b f=sw b a f:=by
  funext i
  unfold sw
  by_cases c1:i=a
  · by_cases c2:i=b
    · rw [if_pos c1,if_pos c2,← c1,← c2]
    · rw [if_pos c1,if_neg c2,if_pos c1]
  · by_cases c2:i=b
    · rw [if_neg c1,if_pos c2,if_pos c2]
    · rw [if_neg c1,if_neg c2,if_neg c2,if_neg c1]
theorem sgnI_swap {a b n:Nat} {f:Nat → Int} (h:InjN f n) (ha:a < n) (hb:b < n) (hab:a ≠ b):sgnI (sw a b f) n=- sgnI f n:=by
  rcases Nat.lt_or_gt_of_ne hab with c|c
  · obtain ⟨d,rfl⟩:∃ d,b=a + 1 + d:=⟨b - (a + 1),by omega⟩
    exact sgnI_sw d a n f h hb
  · obtain ⟨d,rfl⟩:∃ d,a=b + 1 + d:=⟨a - (b + 1),by omega⟩
    rw [sw_comm]
    exact sgnI_sw d b n f h ha
def put1 (l s:List Int):Nat → Int:=fun i => if (i:Int) ∈ s then l.getD i 0 else i
def ringG (l s:List Int) (J:Int) (k:Nat):Nat → Int:=fun i => if (i:Int) ∈ s ++ orb l J k then l.getD i 0 else if (i:Int)=itn l J k then J else i
theorem put1_inj {l s:List Int} (o:Ord l) (hc:Cl l s):InjN (put1 l s) l.length:=by
  intro i j hi hj he
  unfold put1 at he
  have e1:l.getD i 0=nx l (i:Int):=rfl
  have e2:l.getD j 0=nx l (j:Int):=rfl
  by_cases c1:(i:Int) ∈ s
  · by_cases c2:(j:Int) ∈ s
    · rw [if_pos c1,if_pos c2,e1,e2] at he
      have:=nx_inj o (a:=(i:Int)) (b:=(j:Int)) (by omega) (by omega) he
      omega
    · rw [if_pos c1,if_neg c2,e1] at he
      have:=(hc (i:Int) (by omega) (by omega)).1 c1
      rw [he] at this
      exact absurd this c2
  · by_cases c2:(j:Int) ∈ s
    · rw [if_neg c1,if_pos c2,e2] at he
      have:=(hc (j:Int) (by omega) (by omega)).1 c2
      rw [← he] at this
      exact absurd this c1
    · rw [if_neg c1,if_neg c2] at he
      omega
theorem ringG_zero {l s:List Int} {J:Int}:ringG l s J 0=put1 l s:=by
  funext i
  unfold ringG put1
  rw [orb_zero,List.append_nil]
  by_cases c1:(i:Int) ∈ s
  · rw [if_pos c1,if_pos c1]
  · rw [if_neg c1,if_neg c1]
    by_cases c2:(i:Int)=itn l J 0
    · rw [if_pos c2,c2]; rfl
    · rw [if_neg c2]
theorem ringG_succ {l s:List Int} (o:Ord l) {J:Int} (h0:0 ≤ J) (h1:J < l.length) {k:Nat} (n1:itn l J k ∉ s ++ orb l J k) (n2:itn l J (k + 1) ∉ s ++ orb l J (k + 1)) :
    ringG l s J (k + 1)=sw (itn l J k).toNat (itn l J (k + 1)).toNat (ringG l s J k):=by
  have it:=itn_in o h0 h1
  have a0:=(it k).1
  have b0:=(it (k + 1)).1
  have n3:itn l J (k + 1) ∉ s ++ orb l J k:=fun h => n2 (by
    rw [orb_succ,← List.append_assoc]; exact List.mem_append.2 (.inl h))
  have n4:itn l J (k + 1) ≠ itn l J k:=fun h => n2 (by
    rw [orb_succ,← List.append_assoc]; exact List.mem_append.2 (.inr (by simp [h])))
  have mem:∀ x:Int,x ∈ s ++ orb l J (k + 1) ↔ x ∈ s ++ orb l J k ∨ x=itn l J k:=fun x => by
    rw [orb_succ,← List.append_assoc,List.mem_append,List.mem_singleton]
  funext i
  by_cases c1:(i:Int)=itn l J k
  · have hi:i=(itn l J k).toNat:=by omega
    have hb:((itn l J (k + 1)).toNat:Int)=itn l J (k + 1):=by omega
    rw [← hi,sw_a]
    unfold ringG
    rw [if_pos ((mem _).2 (.inr c1)),hb,if_neg n3,if_neg n4,itn_nx,nx,← hi]
  · by_cases c2:(i:Int)=itn l J (k + 1)
    · have hi:i=(itn l J (k + 1)).toNat:=by omega
      have ha:((itn l J k).toNat:Int)=itn l J k:=by omega
      rw [← hi,sw_b]
      unfold ringG
      rw [ha,if_neg n1,if_pos rfl,c2,if_neg n2,if_pos rfl]
    · rw [sw_o _ (by omega) (by omega)]
      unfold ringG
      rw [if_neg c1,if_neg c2]
      by_cases c3:(i:Int) ∈ s ++ orb l J k
      · rw [if_pos c3,if_pos ((mem _).2 (.inl c3))]
      · rw [if_neg c3,if_neg fun h => ((mem _).1 h).elim c3 c1]
theorem ringG_last {l s:List Int} {J:Int} (h0:0 ≤ J) {q:Nat} (hq:0 ≤ itn l J q) (hb:itn l J (q + 1)=J):ringG l s J q=put1 l (s ++ orb l J (q + 1)):=by
  funext i
  unfold ringG put1
  have mem:∀ x:Int,x ∈ s ++ orb l J (q + 1) ↔ x ∈ s ++ orb l J q ∨ x=itn l J q:=fun x => by
    rw [orb_succ,← List.append_assoc,List.mem_append,List.mem_singleton]
  by_cases c1:(i:Int) ∈ s ++ orb l J q
  · rw [if_pos c1,if_pos ((mem _).2 (.inl c1))]
  · by_cases c2:(i:Int)=itn l J q
    · rw [if_neg c1,if_pos c2,if_pos ((mem _).2 (.inr c2)),← hb,itn_nx,nx,← c2]; rfl
    · rw [if_neg c1,if_neg c2,if_neg fun h => ((mem _).1 h).elim c1 c2]
def alt:Nat → Int
  | 0 => 1
  | k + 1 => - alt k
theorem ringG_sgn {l s:List Int} (o:Ord l) (hc:Cl l s) {J:Int} (h0:0 ≤ J) (h1:J < l.length):∀ k,(∀ i,i ≤ k → itn l J i ∉ s ++ orb l J i) →
    InjN (ringG l s J k) l.length ∧ sgnI (ringG l s J k) l.length=alt k * sgnI (put1 l s) l.length
  | 0,_ => by rw [ringG_zero]; exact ⟨put1_inj o hc,by simp [alt]⟩
  | k + 1,h => by
    have it:=itn_in o h0 h1
    obtain ⟨i1,i2⟩:=ringG_sgn o hc h0 h1 k fun i hi => h i (by omega)
    have a:=it k
    have b:=it (k + 1)
    have n4:itn l J (k + 1) ≠ itn l J k:=fun e => h (k + 1) (Nat.le_refl _) (by
      rw [orb_succ,← List.append_assoc]; exact List.mem_append.2 (.inr (by simp [e])))
    rw [ringG_succ o h0 h1 (h k (by omega)) (h (k + 1) (Nat.le_refl _))]
    refine ⟨i1.sw (by omega) (by omega),?_⟩
    rw [sgnI_swap i1 (by omega) (by omega) (by omega),i2,alt,Int.neg_mul]
end Go.Proofs.Ytmalpmnmknpphaa.TM
namespace Go.Proofs.Ytmalpmnmknpphaa.TM
open Go Go.RowKit
theorem sgnP_app (x y:List (List Int)):∀ k,k ≤ x.length → sgnP (x ++ y) k=sgnP x k
  | 0,_ => rfl
  | k + 1,h => by
    rw [sgnP,sgnP,sgnP_app x y k (by omega),List.getD_eq_getElem?_getD,List.getElem?_append_left (by omega),← List.getD_eq_getElem?_getD]
theorem alt_eq:∀ q,alt q=if (q + 1) % 2=0 then -1 else 1
  | 0 => rfl
  | q + 1 => by
    rw [alt,alt_eq q]
    by_cases c:(q + 1) % 2=0
    · rw [if_pos c,if_neg (by omega)]; rfl
    · rw [if_neg c,if_pos (by omega)]
theorem rgs_sgn {l:List Int} (o:Ord l):∀ j,j ≤ l.length → Cl l (rgs l j).2 ∧ (∀ i:Nat,i < j → (i:Int) ∈ (rgs l j).2) ∧ sgnP (rgs l j).1 (rgs l j).1.length=sgnI (put1 l (rgs l j).2) l.length
  | 0,_ => ⟨fun a _ _ => by simp [rgs],fun i hi => by omega,by
      rw [sgnI_congr (f:=put1 l (rgs l 0).2) (g:=fun i => (i:Int)) (fun i _ => by simp [put1,rgs]),sgnI_id]; rfl⟩
  | j + 1,hj => by
    obtain ⟨h1,h2,h3⟩:=rgs_sgn o j (by omega)
    rw [rgs]
    generalize rgs l j=p at h1 h2 h3 ⊢
    obtain ⟨out,s⟩:=p
    simp only at h1 h2 h3 ⊢
    by_cases c:(j:Int) ∈ s
    · rw [if_pos c]
      refine ⟨h1,fun i hi => ?_,h3⟩
      by_cases e:i=j
      · subst e; exact c
      · exact h2 i (by omega)
    · rw [if_neg c]
      have j0:(0:Int) ≤ j:=by omega
      have j1:(j:Int) < l.length:=by omega
      obtain ⟨n1,n2,n3⟩:=ringN_spec o s j0 j1
      generalize ringN l s j=m at n1 n2 n3 ⊢
      obtain ⟨m0,mb⟩:=ring_back o h1 j0 j1 c n1 n2
      obtain ⟨q,rfl⟩:∃ q,m=q + 1:=⟨m - 1,by omega⟩
      have cl:=cl_next o h1 j0 j1 m0 mb
      refine ⟨cl,fun i hi => ?_,?_⟩
      · by_cases e:i=j
        · subst e; exact List.mem_append.2 (.inr (orb_mem.2 ⟨0,by omega,rfl⟩))
        · exact List.mem_append.2 (.inl (h2 i (by omega)))
      · have g:=(ringG_sgn o h1 j0 j1 q fun i hi => n2 i (by omega)).2
        rw [ringG_last j0 (itn_in o j0 j1 q).1 mb] at g
        rw [g,List.length_append,List.length_singleton,sgnP,sgnP_app _ _ _ (Nat.le_refl _),h3,List.getD_eq_getElem?_getD,List.getElem?_append_right (Nat.le_refl _),Nat.sub_self]
        simp only [List.getElem?_cons_zero,Option.getD_some,orb_len]
        rw [alt_eq]
        by_cases e:(q + 1) % 2=0
        · rw [if_pos e,if_pos e]; omega
        · rw [if_neg e,if_neg e]; omega
def fnI (l:List Int):Nat → Int:=fun i => l.getD i 0
theorem sgnR_eq {l:List Int} (o:Ord l):sgnR l=sgnI (fnI l) l.length:=by
  obtain ⟨_,h2,h3⟩:=rgs_sgn o l.length (Nat.le_refl _)
  unfold sgnR ringsI
  rw [h3]
  exact sgnI_congr fun i hi => by unfold put1; rw [if_pos (h2 i hi)]; rfl
end Go.Proofs.Ytmalpmnmknpphaa.TM
namespace Go.Proofs.Ytmalpmnmknpphaa.TM
open Go Go.RowKit
theorem ord_tbl {n:Nat} {f:Nat → Int} (h1:1 ≤ n) (h2:n ≤ 64) (hi:InjN f n) (hr:InN f n):Ord (tbl n f):=by
  refine ⟨by rw [tbl_len]; exact h1,by rw [tbl_len]; exact h2,fun a ha => ?_,tbl_nodup hi⟩
  obtain ⟨i,hlt,rfl⟩:=tbl_mem ha
  rw [tbl_len]
  exact hr i hlt
theorem sgn_tbl {n:Nat} {f:Nat → Int} (o:Ord (tbl n f)):sgnR (tbl n f)=sgnI f n:=by
  rw [sgnR_eq o,tbl_len]
  exact sgnI_congr fun i hi => tbl_getD f hi
theorem sgnI_one (f:Nat → Int):∀ n,sgnI f n=1 ∨ sgnI f n=-1
  | 0 => .inl rfl
  | n + 1 => by
    have key:∀ (y:Int) (k:Nat),colP f y k=1 ∨ colP f y k=-1:=fun y k => by
      induction k with
      | zero => exact .inl rfl
      | succ k ih =>
        rw [colP,eps]
        rcases ih with h|h <;> rw [h] <;> split <;> simp
    rw [sgnI]
    rcases sgnI_one f n with h|h <;> rcases key (f n) n with e|e <;> rw [h,e] <;> simp
end Go.Proofs.Ytmalpmnmknpphaa.TM
namespace Go.Proofs.Ytmalpmnmknpphaa.TM
open Go Go.RowKit
def idX:Mx:=fun i j => if j=i then 1 else 0
def pmX (f:Nat → Int):Mx:=fun i j => if (j:Int)=f i then 1 else 0
def prodN:Nat → (Nat → Int) → Int
  | 0,_ => 1
  | n + 1,f => prodN n f * f n
theorem em_refl {p a:Int}:a % p % p=a % p:=Int.emod_emod_of_dvd _ (Int.dvd_refl _)
theorem Alt.perm {p:Int} {n:Nat} {F:Mx → Int} (H:Alt p n F):∀ (m:Nat) (f:Nat → Int),m ≤ n → InjN f n → InN f n → (∀ i,m ≤ i → i < n → f i=i) → F (pmX f) % p=sgnI f n * F idX % p
  | 0,f,_,_,_,hf => by
    rw [sgnI_congr (g:=fun i => (i:Int)) fun i hi => hf i (Nat.zero_le _) hi,sgnI_id,Int.one_mul]
    refine H.cg _ _ fun i j hi hj => ?_
    unfold pmX idX
    rw [hf i (Nat.zero_le _) hi]
    by_cases e:j=i
    · rw [if_pos (by omega),if_pos e]
    · rw [if_neg (by omega),if_neg e]
  | m + 1,f,hm,hi,hr,hf => by
    obtain ⟨i0,h0,h1⟩:=surjN hi hr m (by omega)
    by_cases e:i0=m
    · subst e
      exact Alt.perm H i0 f (by omega) hi hr fun i a b => by
        by_cases c:i=i0
        · subst c; exact h1
        · exact hf i (by omega) b
    · have hlt:i0 < m:=by
        rcases Nat.lt_or_ge i0 (m + 1) with c|c
        · omega
        · have:=hf i0 c h0; omega
      have ih:=Alt.perm H m (sw i0 m f) (by omega) (hi.sw h0 (by omega)) (sw_in hr h0 (by omega)) fun i a b => by
        by_cases c:i=m
        · subst c; rw [sw_b]; exact h1
        · rw [sw_o _ (by omega) c]; exact hf i (by omega) b
      have e2:pmX (sw i0 m f)=swp (pmX f) i0 m:=by
        funext a b
        unfold pmX swp sw
        by_cases c:a=i0
        · simp [c]
        · by_cases d:a=m
          · subst d; simp only [c,if_false,if_true]
          · simp [c,d]
      rw [e2,H.swap h0 (by omega) e,sgnI_swap hi h0 (by omega) e,Int.neg_mul] at ih
      have h9:(0 - - F (pmX f)) % p=(0 - - (sgnI f n * F idX)) % p:=em_sub rfl ih
      rw [Int.zero_sub,Int.neg_neg,Int.zero_sub,Int.neg_neg] at h9
      exact h9
def hdX (m:Nat) (A B:Mx):Mx:=fun i => if i < m then A i else B i
theorem hdX_lt {m i:Nat} (h:i < m) (A B:Mx):hdX m A B i=A i:=if_pos h
theorem hdX_ge {m i:Nat} (h:¬ i < m) (A B:Mx):hdX m A B i=B i:=if_neg h
theorem hdX_zero (A B:Mx):hdX 0 A B=B:=by funext i; exact hdX_ge (by omega) A B
theorem hdX_upd (m:Nat) (A B:Mx):updr (hdX m A B) m (A m)=hdX (m + 1) A B:=by
  funext i j
  unfold updr
  by_cases a:i=m
  · subst a; rw [if_pos rfl,hdX_lt (by omega)]
  · rw [if_neg a]
    by_cases b:i < m
    · rw [hdX_lt b,hdX_lt (by omega)]
    · rw [hdX_ge b,hdX_ge (by omega)]
theorem hdX_upd' (m:Nat) (A B:Mx):updr (hdX m A B) m (B m)=hdX m A B:=by
  funext i j
  unfold updr
  by_cases a:i=m
  · subst a; rw [if_pos rfl,hdX_ge (by omega)]
  · rw [if_neg a]
section
variable {P n r:Nat} {A:Mx} {rw cw:Nat → Nat} {c u:Mx} {F:Mx → Int}
def rstX (r:Nat) (rw:Nat → Nat) (u:Mx):Mx:=fun i j => sumN r (fun k => if rw k=i then u k j else 0)
theorem rstX_at (h:∀ j k,j < k → k < r → rw j < rw k) {k:Nat} (hk:k < r) (j:Nat):rstX r rw u (rw k) j=u k j:=by
  unfold rstX
  rw [← sumN_one (fun m => u m j) hk]
  refine sumN_congr fun m hm => ?_
  by_cases e:m=k
  · subst e; rw [if_pos rfl,if_pos rfl]
  · rw [if_neg e,if_neg]
    intro he
    rcases Nat.lt_or_ge m k with a|a
    · have:=h m k a hk; omega
    · have:=h k m (by omega) hm; omega
theorem Cp.alt_rest (hA:Alt P n F) (H:Cp P n n r A rw cw c u):F A % P=F (rstX r rw u) % P:=by
  have key:∀ m,m ≤ n → F A % P=F (hdX m (rstX r rw u) A) % P:=by
    intro m
    induction m with
    | zero => intro _; rw [hdX_zero]
    | succ m ih =>
      intro hm
      rw [ih (by omega)]
      have h1:=hA.comb (hdX m (rstX r rw u) A) (i:=m) (by omega) rw (fun k => if rw k < m then c m k else 0) (rstX r rw u m) r (fun k hk => by
        by_cases e:rw k < m
        · right; exact ⟨H.rlt k hk,by omega⟩
        · left; exact if_neg e)
      rw [hdX_upd] at h1
      rw [← h1]
      refine hA.cg _ _ fun i j hi hj => ?_
      unfold updr
      by_cases a:i=m
      · subst a
        rw [hdX_ge (by omega),if_pos rfl,H.made i hi j hj]
        have e0:rstX r rw u i j=sumN r (fun k => if rw k=i then u k j else 0):=rfl
        (try dsimp only)
        rw [e0,← sumN_add]
        refine sumN_mod fun k hk => ?_
        rcases Nat.lt_trichotomy (rw k) i with e|e|e
        · rw [if_neg (by omega),if_pos e,hdX_lt e,rstX_at H.rinc hk j,Int.zero_add]
        · rw [if_pos e,if_neg (by omega),Int.zero_mul,Int.add_zero]
          have h1:=H.c1 k hk
          rw [e] at h1
          rw [Int.mul_emod,h1,Int.one_mul,em_refl]
        · rw [if_neg (by omega),if_neg (by omega),Int.zero_mul,Int.add_zero]
          have h1:=H.cz k hk i e
          rw [em_z h1]; rfl
      · rw [if_neg a]
  rw [key n (Nat.le_refl n)]
  refine hA.cg _ _ fun i j hi hj => ?_
  rw [hdX_lt hi]
theorem Cp.alt_zero (hA:Alt P n F) (H:Cp P n n r A rw cw c u) (hr:r < n):F A % P=0:=by
  rw [H.alt_rest hA]
  have:∃ i,i < n ∧ ∀ k,k < r → rw k ≠ i:=by
    refine Classical.byContradiction fun hn => ?_
    have hs:∀ i,i < n → ∃ k,k < r ∧ rw k=i:=fun i hi => Classical.byContradiction fun h => hn ⟨i,hi,fun k hk e => h ⟨k,hk,e⟩⟩
    have:=pigeon r n (fun i => if h:∃ k,k < r ∧ rw k=i then Classical.choose h else 0) (fun i hi => by
      simp only [dif_pos (hs i hi)]; exact (Classical.choose_spec (hs i hi)).1) (fun i j hij hj he => by
      simp only [dif_pos (hs i (by omega)),dif_pos (hs j hj)] at he
      have h1:=(Classical.choose_spec (hs i (by omega))).2
      have h2:=(Classical.choose_spec (hs j hj)).2
      rw [he,h2] at h1; omega)
    omega
  obtain ⟨i,hi,h⟩:=this
  rw [hA.zero _ hi fun j => sumN_z fun k hk => if_neg (h k hk)]; rfl
theorem incr_id {rw:Nat → Nat} (h:∀ j k,j < k → k < n → rw j < rw k) (hl:∀ k,k < n → rw k < n):∀ k,k < n → rw k=k:=by
  have lo:∀ k,k < n → k ≤ rw k:=by
    intro k
    induction k with
    | zero => exact fun _ => Nat.zero_le _
    | succ k ih => intro hk; have:=ih (by omega); have:=h k (k + 1) (by omega) hk; omega
  have hi:∀ d k,k + d + 1=n → rw k ≤ k:=by
    intro d
    induction d with
    | zero => intro k hk; have:=hl k (by omega); omega
    | succ d ih => intro k hk; have:=ih (k + 1) (by omega); have:=h k (k + 1) (by omega) (by omega); omega
  intro k hk
  exact Nat.le_antisymm (hi (n - k - 1) k (by omega)) (lo k hk)
theorem Cp.alt_full (hA:Alt P n F) (H:Cp P n n n A rw cw c u):F A % P=prodN n (fun k => u k (cw k)) * F (pmX (fun k => (cw k:Int))) % P:=by
  have rid:=incr_id H.rinc H.rlt
  have e0:F A % P=F u % P:=by
    rw [H.alt_rest hA]
    refine hA.cg _ _ fun i j hi hj => ?_
    have:=rstX_at (u:=u) H.rinc hi j
    rw [rid i hi] at this
    rw [this]
  rw [e0]
  have inj:InjN (fun k => (cw k:Int)) n:=fun i j hi hj he => H.cdis hi hj (by (try dsimp only at he); omega)
  have inn:InN (fun k => (cw k:Int)) n:=fun i hi => ⟨by (try dsimp only); omega,by have:=H.clt i hi; (try dsimp only); omega⟩
  have surj:∀ j,j < n → ∃ k,k < n ∧ cw k=j:=fun j hj => by
    obtain ⟨i,h1,h2⟩:=surjN inj inn j hj
    exact ⟨i,h1,by omega⟩
  have p1:∀ k,pmX (fun k => (cw k:Int)) k (cw k)=1:=fun k => if_pos rfl
  have p0:∀ k q,k < n → q < n → k ≠ q → pmX (fun k => (cw k:Int)) k (cw q)=0:=fun k q hk hq hn => if_neg fun h => hn (H.cdis hk hq (by simp only at h; omega))
  generalize hG:pmX (fun k => (cw k:Int))=G at p1 p0 ⊢
  have key:∀ m,m ≤ n → F (hdX m u G) % P=prodN m (fun k => u k (cw k)) * F G % P:=by
    intro m
    induction m with
    | zero => intro _; rw [hdX_zero,prodN,Int.one_mul]
    | succ m ih =>
      intro hm
      have e1:F (hdX (m + 1) u G) % P=F (updr (hdX m u G) m (fun j => u m (cw m) * G m j + sumN n (fun k => (if m < k then u m (cw k) else 0) * hdX m u G k j))) % P:=by
        refine hA.cg _ _ fun i j hi hj => ?_
        unfold updr
        by_cases a:i=m
        · subst a
          rw [hdX_lt (by omega),if_pos rfl]
          obtain ⟨q,hq,rfl⟩:=surj j hj
          have zk:∀ k,k < n → k ≠ q → (if i < k then u i (cw k) else 0) * hdX i u G k (cw q)=0:=fun k hk hkq => by
            by_cases f:i < k
            · rw [hdX_ge (by omega),p0 k q hk hq hkq,Int.mul_zero]
            · rw [if_neg f,Int.zero_mul]
          have zs:sumN n (fun k => (if i < k then u i (cw k) else 0) * hdX i u G k (cw q))=(if i < q then u i (cw q) else 0) * hdX i u G q (cw q):=by
            rw [← sumN_one (fun k => (if i < k then u i (cw k) else 0) * hdX i u G k (cw q)) hq]
            refine sumN_congr fun k hk => ?_
            by_cases g:k=q
            · rw [if_pos g]
            · rw [if_neg g,zk k hk g]
          (try dsimp only)
          rw [zs]
          rcases Nat.lt_trichotomy q i with e|e|e
          · rw [if_neg (by omega),p0 i q hi hq (by omega),Int.mul_zero,Int.zero_mul,H.uz q i e hi]; rfl
          · subst e
            rw [if_neg (by omega),p1,Int.mul_one,Int.zero_mul,Int.add_zero]
          · rw [if_pos e,hdX_ge (by omega),p1,p0 i q hi hq (by omega),Int.mul_one,Int.mul_zero,Int.zero_add]
        · rw [if_neg a]
          by_cases b:i < m
          · rw [hdX_lt b,hdX_lt (by omega)]
          · rw [hdX_ge b,hdX_ge (by omega)]
      rw [e1,hA.comb _ (by omega) (fun k => k) (fun k => if m < k then u m (cw k) else 0) _ n (fun k hk => by
        by_cases f:m < k
        · right; exact ⟨hk,by omega⟩
        · left; exact if_neg f),hA.scale _ _ _ (by omega),hdX_upd',prodN,em_mul rfl (ih (by omega))]
      congr 1
      grind
  have:=key n (Nat.le_refl n)
  rw [← this]
  exact hA.cg _ _ fun i j hi hj => by rw [hdX_lt hi]
def pdX (n r:Nat) (cw:Nat → Nat) (u:Mx):Int:=if r=n then prodN n (fun k => u k (cw k)) * sgnI (fun k => (cw k:Int)) n else 0
theorem Cp.rle {R C:Nat} (H:Cp P R C r A rw cw c u):r ≤ R:=by
  rcases Nat.eq_zero_or_pos r with h|h
  · omega
  · have lo:∀ k,k < r → k ≤ rw k:=by
      intro k
      induction k with
      | zero => exact fun _ => Nat.zero_le _
      | succ k ih => intro hk; have:=ih (by omega); have:=H.rinc k (k + 1) (by omega) hk; omega
    have:=lo (r - 1) (by omega)
    have:=H.rlt (r - 1) (by omega)
    omega
theorem Cp.det (hA:Alt P n F) (H:Cp P n n r A rw cw c u):F A % P=pdX n r cw u * F idX % P:=by
  unfold pdX
  by_cases h:r=n
  · subst h
    rw [if_pos rfl,H.alt_full hA,em_mul rfl (hA.perm r (fun k => (cw k:Int)) (Nat.le_refl _) (fun i j hi hj he => H.cdis hi hj (by (try dsimp only at he); omega)) (fun i hi => ⟨by (try dsimp only); omega,by have:=H.clt i hi; (try dsimp only); omega⟩) fun i a b => by omega),← Int.mul_assoc]
  · have:=H.rle
    rw [if_neg h,Int.zero_mul,H.alt_zero hA (by omega)]; rfl
end
end Go.Proofs.Ytmalpmnmknpphaa.TM
namespace Go.Proofs.Ytmalpmnmknpphaa.TM
open Go Go.RowKit
def Rk (P R C r:Nat) (A:Mx):Prop:=∃ rw cw c u,Cp P R C r A rw cw c u
section
variable {P R C D S r s t:Nat} {A B:Mx}
theorem Cp.cong {rw cw:Nat → Nat} {c u:Mx} (H:Cp P R C r A rw cw c u) (h:∀ i j,i < R → j < C → A i j % P=B i j % P):Cp P R C r B rw cw c u :=
  ⟨H.rlt,H.rinc,H.clt,H.upiv,H.uz,H.uh,H.c1,H.cz,fun i hi j hj => by rw [← h i j hi hj]; exact H.made i hi j hj⟩
theorem rk_ex (hP:Prm P) (hp:Md P) (R C:Nat) (A:Mx):∃ r,Rk P R C r A:=by
  have K:=tkN_C (R:=R) (C:=C) (l:=tbl (R * C) (fun q => A (q / C) (q % C) % P)) hP hp (tbl_len ..) (fun a ha => by
    obtain ⟨q,_,rfl⟩:=tbl_mem ha; exact in_emod hp _) R (Nat.le_refl R)
  refine ⟨_,_,_,_,_,K.H.cong fun i j hi hj => ?_⟩
  rw [cl_tbl _ hi hj,dc_div hj,dc_mod hj,em_refl]
theorem pow_le {P a b:Nat} (hP:Prm P) (h:P ^ a ≤ P ^ b):a ≤ b:=(Nat.pow_le_pow_iff_right hP.1).1 h
noncomputable def kB (P R C:Nat) (A:Mx):Nat → Bool:=fun n => by classical exact decide (∀ i,i < R → apX C A (vec P n) i % P=0)
theorem kB_iff (n:Nat):kB P R C A n=true ↔ ∀ i,i < R → apX C A (vec P n) i % P=0:=by unfold kB; simp
theorem Rk.kc (hP:Prm P) (H:Rk P R C r A):P ^ r * cntN (P ^ C) (kB P R C A)=P ^ C:=by
  obtain ⟨_,_,_,_,H⟩:=H
  exact H.kcnt hP fun n _ => kB_iff n
theorem Rk.le_cols (hP:Prm P) (H:Rk P R C r A):r ≤ C:=by
  have h:=H.kc hP
  have p0:0 < P:=by have:=hP.1; omega
  refine pow_le hP ?_
  have:0 < cntN (P ^ C) (kB P R C A):=by
    rcases Nat.eq_zero_or_pos (cntN (P ^ C) (kB P R C A)) with e|e
    · rw [e,Nat.mul_zero] at h; have:=Nat.pow_pos (n:=C) p0; omega
    · exact e
  rw [← h]; exact Nat.le_mul_of_pos_right _ this
theorem apX_mul (K C:Nat) (A B:Mx) (x:Nat → Int) (i:Nat):apX C (mulX K A B) x i=apX K A (apX C B x) i:=by
  unfold apX mulX
  rw [sumN_congr fun k _ => (sumN_mul C (A i k) (fun j => B k j * x j)).symm,sumN_swap]
  refine sumN_congr fun j _ => ?_
  rw [← sumN_mulr]
  exact sumN_congr fun k _ => by rw [Int.mul_assoc]
end
section
variable {P n r:Nat} {A B:Mx} {rw cw:Nat → Nat} {c u:Mx}
theorem Lp_id:∀ n,Lp n idX=1
  | 0 => rfl
  | n + 1 => by
    rw [Lp_succ]
    have:sumN (n + 1) (fun k => sg k * idX 0 k * Lp n (mnr idX k))=sumN (n + 1) (fun k => if k=0 then (fun _ => (1:Int)) k else 0):=sumN_congr fun k hk => by
      by_cases e:k=0
      · subst e
        rw [if_pos rfl,sg_zero,show idX 0 0=1 from rfl]
        have:Lp n (mnr idX 0)=Lp n idX:=Lp_congr n fun i j _ _ => by
          show (if skip 0 j=i + 1 then _ else _)=if j=i then _ else _
          rw [show skip 0 j=j + 1 from rfl]
          by_cases e:j=i
          · rw [if_pos (by omega),if_pos e]
          · rw [if_neg (by omega),if_neg e]
        rw [this,Lp_id n]; rfl
      · rw [if_neg e,show idX 0 k=0 from if_neg e,Int.mul_zero,Int.zero_mul]
    rw [this,sumN_one _ (by omega)]
theorem Cp.lp (H:Cp P n n r A rw cw c u):Lp n A % P=pdX n r cw u % P:=by
  rw [H.det (Lp_alt P n),Lp_id,Int.mul_one]
theorem Lp_mulX (hP:Prm P) (hp:Md P) (n:Nat) (A B:Mx):Lp n (mulX n A B) % P=Lp n A * Lp n B % P:=by
  obtain ⟨r,_,_,_,_,H⟩:=rk_ex hP hp n n A
  have h1:=H.det (Lp_mul_alt P n B)
  have e:Lp n (mulX n idX B)=Lp n B:=Lp_congr n fun i j hi hj => by
    unfold mulX
    rw [← sumN_one (fun k => B k j) hi]
    refine sumN_congr fun k _ => ?_
    unfold idX
    by_cases e:k=i
    · rw [if_pos e,if_pos e,Int.one_mul]
    · rw [if_neg e,if_neg e,Int.zero_mul]
  rw [e] at h1
  rw [h1]
  exact em_mul H.lp.symm rfl
end
end Go.Proofs.Ytmalpmnmknpphaa.TM
namespace Go.Proofs.Ytmalpmnmknpphaa.TM
open Go Go.RowKit
def rwC (c:CupT) (k:Nat):Nat:=(c.1.getD k 0).toNat
def cwC (c:CupT) (k:Nat):Nat:=(c.2.1.getD k 0).toNat
def ccC (c:CupT):Mx:=fun i k => (c.2.2.1.getD i []).getD k 0
def uuC (c:CupT):Mx:=fun k j => (c.2.2.2.getD k []).getD j 0
abbrev CpC (P R C:Nat) (A:Mx) (c:CupT):Prop:=Cp P R C c.1.length A (rwC c) (cwC c) (ccC c) (uuC c)
theorem pad_get (r:Nat) (x:List Int) (k:Nat):(padF r x).getD k 0=x.getD k 0:=by
  unfold padF
  rw [List.getD_eq_getElem?_getD,List.getD_eq_getElem?_getD]
  by_cases h:k < x.length
  · rw [List.getElem?_append_left h]
  · rw [List.getElem?_append_right (by omega),List.getElem?_eq_none (l:=x) (by omega),List.getElem?_replicate]
    split <;> rfl
theorem tkCup_Cp {P R C:Nat} {l:List Int} (hP:Prm P) (M:Mt P R C l) (hin:∀ a ∈ l,In P a):CpC P R C (cl C l) (tkCup P C R l):=by
  have K:=tkN_C hP M.hp M.len hin R (Nat.le_refl R)
  have e1:(tkCup P C R l).1.length=(tkN P C l R).us.length:=K.I.rl
  have e2:ccC (tkCup P C R l)=cF (tkN P C l R):=by
    funext i k
    show (((tkN P C l R).cs.map (padF (tkN P C l R).us.length)).getD i []).getD k 0=(csF (tkN P C l R) i).getD k 0
    unfold csF
    by_cases h:i < (tkN P C l R).cs.length
    · rw [List.getD_eq_getElem?_getD (l:=List.map _ _),List.getElem?_map,List.getElem?_eq_getElem h,Option.map_some,Option.getD_some,pad_get,List.getD_eq_getElem?_getD (l:=(tkN P C l R).cs),List.getElem?_eq_getElem h]; rfl
    · rw [List.getD_eq_getElem?_getD (l:=List.map _ _),List.getElem?_map,List.getElem?_eq_none (by omega),List.getD_eq_getElem?_getD (l:=(tkN P C l R).cs),List.getElem?_eq_none (by omega)]; rfl
  unfold CpC
  rw [e1,e2]
  exact K.H
section
variable {P R C:Nat} {A:Mx} {c:CupT}
end
end Go.Proofs.Ytmalpmnmknpphaa.TM
namespace Go.Proofs.Ytmalpmnmknpphaa.TM
open Go Go.RowKit
theorem timesM_ap {p:Int} {R C:Nat} {l x:List Int} (hl:l.length=R * C) (hx:x.length=C) {i:Nat} (hi:i < R):(timesM p R C l x).getD i 0=apX C (cl C l) (fun j => x.getD j 0) i % p:=timesM_get hl hx hi
theorem in_mod {p a:Int} (h:In p a):a % p=a:=Int.emod_eq_of_lt h.1 h.2
theorem list_ext0 {a b:List Int} {n:Nat} (ha:a.length=n) (hb:b.length=n) (h:∀ i,i < n → a.getD i 0=b.getD i 0):a=b:=by
  rw [tbl_of ha,tbl_of hb]; exact tbl_congr h
section
variable {P R C:Nat} {l b:List Int}
structure RowV (P R C:Nat) (l:List Int) (c:CupT) (i:Nat) (y:List Int):Prop where
  len:y.length=R
  inn:∀ a ∈ y,In P a
  one:y.getD i 0=1
  sup:∀ m,m < R → m ≠ i → (∀ k,k < c.1.length → m ≠ rwC c k) → y.getD m 0=0
  zero:∀ j,j < C → sumN R (fun m => y.getD m 0 * cl C l m j) % P=0
theorem RowV.left {c:CupT} {i:Nat} {y:List Int} (hp:Md P) (V:RowV P R C l c i y) (hl:l.length=R * C):leftM P y R C l=zeroV C :=
  list_ext0 (leftM_len ..) (zeroV_len C) fun k hk => by rw [leftM_get V.len hk,V.zero k hk]; exact (show (zeroV C).getD k 0=0 from tbl_getD _ hk).symm
end
end Go.Proofs.Ytmalpmnmknpphaa.TM
namespace Go.Proofs.Ytmalpmnmknpphaa.TM
open Go Go.RowKit
theorem prm7:Prm 7:=⟨by decide,fun a h0 h1 => by
  have:a=1 ∨ a=2 ∨ a=3 ∨ a=4 ∨ a=5 ∨ a=6:=by omega
  rcases this with rfl|rfl|rfl|rfl|rfl|rfl <;> decide⟩
end Go.Proofs.Ytmalpmnmknpphaa.TM
namespace Go.Proofs.Ytmalpmnmknpphaa.TM
open Go Go.RowKit
theorem len_ok {P R C:Nat} {l:List Int} (M:Mt P R C l):l.length ≤ maxLen:=by have:=M.len; have:=rc_bd M.r2 M.c2; rw [mx_len]; omega
theorem timesR_in {P R C:Nat} {l x:List Int} (M:Mt P R C l) (hx:∀ a ∈ x,In P a) (hl:x.length=C):timesR P R C l x=(timesM P R C l x,0):=by
  unfold timesR
  rw [mat_mk M,(has_iff _ _).2 ⟨fun a ha => (hx a ha).2,M.hp.1,M.hp.2⟩,decide_eq_true (show (x.length:Int)=C by omega)]; rfl
theorem w64_of_in {P:Int} (hp:Md P) {l:List Int} (h:∀ a ∈ l,In P a):W64s l:=fun a ha => in_w64 hp (h a ha)
theorem times_of {P R C:Nat} {l x:List Int} (M:Mt P R C l) (hin:∀ a ∈ l,In P a) (hx:∀ a ∈ x,In P a) (hl:x.length=C):CallsP Try.prog 57 [u64 P,matP R C l,lu x] (.tup [lu (timesM P R C l x),i64 0]):=by
  have h:=times_walk P R C l x (len_ok M) (by rw [hl,mx_len]; have:=M.c2; omega) (w64_of_in M.hp hin) (w64_of_in M.hp hx)
  rw [timesR_in M hx hl] at h; exact h
end Go.Proofs.Ytmalpmnmknpphaa.TM
namespace Go.Proofs.Ytmalpmnmknpphaa.TM
open Go Go.RowKit
attribute [local irreducible] K W WOps Effs Xg Xo Xr Xdg Xdo Xdr Xif CallsP CallR
theorem take_nextP {α:Type} {a b:List α} {j:Nat} (h1:j < a.length) (h2:j < b.length) (h:a.take j=b.take j) (e:a[j]=b[j]):a.take (j + 1)=b.take (j + 1):=by
  rw [List.take_succ_eq_append_getElem h1,List.take_succ_eq_append_getElem h2,h,e]
theorem same6_walk (a b:List Int) (hl:a.length ≤ maxLen):CallsP Try.prog 93 [li a,li b] (bl (decide (a=b))):=by
  rw [mx_len] at hl
  by_cases c0:a.length=b.length
  · have c0':(a.length:Int)=(b.length:Int):=by omega
    refine X_startP (n:=26) (m:=2) (rs:=[.tmp 4]) Try.func93 rfl rfl rfl rfl (by decide) fun base => ?_
    repeat (first|refine X_opc rfl ?_|refine X_dopc rfl ?_|refine ⟨(by show drawK _ _=true; kernel_rfl:drawX _ _ _),?_⟩|exact (by show drawK _ _=true; kernel_rfl:drawX _ _ _)|simp -dsimp (maxSteps:=20000000) (disch:=omega) only [simx,zzC,zzB,tys,ite_self,opnL,callB,callX,readsB,stepOp,nilCmp,ofVal,opBuiltin,opLen,PV.sk,scalBin,scalUn,intBin,opLoad,natOf,opConvert,opField,cellsP,oneP,Value.oneCell',opStore,toIV,scalT,scalA,scalC,boxesA,boxesC,zipB_none,zipB_mx,isZ,opZip,zeroP,opAppendZ,opMakeMap,opLookup,mboxB,opUpdate,↓reduceIte,Nat.reduceSub,Nat.reduceEqDiff,Nat.reduceAdd,Nat.reduceMul,Nat.reduceLT,Nat.reduceLeDiff,Int.reduceToNat,Int.reduceLE,Int.reduceLT,Int.reduceNeg,reduceCtorEq,gos,Int.reduceAdd,Int.reduceSub,Int.reduceMul,Int.reduceEq,c0'])
    refine X_loopH [0,1,5] [] (0) (a.length) (fun j => a.take j=b.take j) (fun j => [(5,i64 j)]) (fun j => Heap.none) ?_ ?_ ?_ ?_ ?_ (by decide) ?_
    · exact (fgt_nil)
    · ((simp -dsimp (disch:=omega) only [simx,zzB,tys,ite_self,opnL,callB,callX,readsB,stepOp,nilCmp,ofVal,opBuiltin,opLen,PV.sk,scalBin,scalUn,intBin,opLoad,natOf,opConvert,opField,cellsP,oneP,Value.oneCell',opStore,toIV,scalT,scalA,scalC,boxesA,boxesC,zipB_none,zipB_mx,isZ,opZip,zeroP,opAppendZ,opMakeMap,opLookup,mboxB,opUpdate,↓reduceIte,Nat.reduceSub,Nat.reduceEqDiff,Nat.reduceAdd,Nat.reduceMul,Nat.reduceLT,Nat.reduceLeDiff,Int.reduceToNat,Int.reduceLE,Int.reduceLT,Int.reduceNeg,reduceCtorEq,gos,Int.reduceAdd,Int.reduceSub,Int.reduceMul,Int.reduceEq]) <;> first|rfl|simp)
    · exact drop_nil _
    · omega
    · rfl
    · intro j hj hf
      by_cases c:j < a.length
      · have c':j < b.length:=by omega
        have g1:a[j]?=some a[j]:=List.getElem?_eq_getElem c
        have g2:b[j]?=some b[j]:=List.getElem?_eq_getElem c'
        by_cases e:a[j]=b[j]
        · have nx:=take_nextP c c' hf e
          repeat (first|refine X_opc rfl ?_|refine X_dopc rfl ?_|refine ⟨(by show drawK _ _=true; kernel_rfl:drawX _ _ _),?_⟩|exact (by show drawK _ _=true; kernel_rfl:drawX _ _ _)|simp -dsimp (maxSteps:=20000000) (disch:=omega) only [simx,zzC,zzB,tys,ite_self,opnL,callB,callX,readsB,stepOp,nilCmp,ofVal,opBuiltin,opLen,PV.sk,scalBin,scalUn,intBin,opLoad,natOf,opConvert,opField,cellsP,oneP,Value.oneCell',opStore,toIV,scalT,scalA,scalC,boxesA,boxesC,zipB_none,zipB_mx,isZ,opZip,zeroP,opAppendZ,opMakeMap,opLookup,mboxB,opUpdate,↓reduceIte,Nat.reduceSub,Nat.reduceEqDiff,Nat.reduceAdd,Nat.reduceMul,Nat.reduceLT,Nat.reduceLeDiff,Int.reduceToNat,Int.reduceLE,Int.reduceLT,Int.reduceNeg,reduceCtorEq,gos,Int.reduceAdd,Int.reduceSub,Int.reduceMul,Int.reduceEq,c,c',g1,g2,e])
          exact ⟨c,(fgt_nil),nx,rfl,drop_nil _⟩
        · have ne:¬ a=b:=fun h => e (by subst h; rfl)
          rw [decide_eq_false ne]
          repeat (first|refine X_opc rfl ?_|refine X_dopc rfl ?_|refine ⟨(by show drawK _ _=true; kernel_rfl:drawX _ _ _),?_⟩|exact (by show drawK _ _=true; kernel_rfl:drawX _ _ _)|simp -dsimp (maxSteps:=20000000) (disch:=omega) only [simx,zzC,zzB,tys,ite_self,opnL,callB,callX,readsB,stepOp,nilCmp,ofVal,opBuiltin,opLen,PV.sk,scalBin,scalUn,intBin,opLoad,natOf,opConvert,opField,cellsP,oneP,Value.oneCell',opStore,toIV,scalT,scalA,scalC,boxesA,boxesC,zipB_none,zipB_mx,isZ,opZip,zeroP,opAppendZ,opMakeMap,opLookup,mboxB,opUpdate,↓reduceIte,Nat.reduceSub,Nat.reduceEqDiff,Nat.reduceAdd,Nat.reduceMul,Nat.reduceLT,Nat.reduceLeDiff,Int.reduceToNat,Int.reduceLE,Int.reduceLT,Int.reduceNeg,reduceCtorEq,zzR,gos,Int.reduceAdd,Int.reduceSub,Int.reduceMul,Int.reduceEq,c,c',g1,g2,e])
      · have hj:j=a.length:=by omega
        subst hj
        have e:a=b:=by rw [List.take_length,c0,List.take_length] at hf; exact hf
        rw [decide_eq_true e]
        repeat (first|refine X_opc rfl ?_|refine X_dopc rfl ?_|refine ⟨(by show drawK _ _=true; kernel_rfl:drawX _ _ _),?_⟩|exact (by show drawK _ _=true; kernel_rfl:drawX _ _ _)|simp -dsimp (maxSteps:=20000000) (disch:=omega) only [simx,zzC,zzB,tys,ite_self,opnL,callB,callX,readsB,stepOp,nilCmp,ofVal,opBuiltin,opLen,PV.sk,scalBin,scalUn,intBin,opLoad,natOf,opConvert,opField,cellsP,oneP,Value.oneCell',opStore,toIV,scalT,scalA,scalC,boxesA,boxesC,zipB_none,zipB_mx,isZ,opZip,zeroP,opAppendZ,opMakeMap,opLookup,mboxB,opUpdate,↓reduceIte,Nat.reduceSub,Nat.reduceEqDiff,Nat.reduceAdd,Nat.reduceMul,Nat.reduceLT,Nat.reduceLeDiff,Int.reduceToNat,Int.reduceLE,Int.reduceLT,Int.reduceNeg,reduceCtorEq,zzR,gos,Int.reduceAdd,Int.reduceSub,Int.reduceMul,Int.reduceEq])
  · have ne:¬ a=b:=fun h => c0 (by rw [h])
    have c0':¬ (a.length:Int)=(b.length:Int):=by omega
    rw [decide_eq_false ne]
    refine X_startP (n:=26) (m:=2) (rs:=[.tmp 4]) Try.func93 rfl rfl rfl rfl (by decide) fun base => ?_
    repeat (first|refine X_opc rfl ?_|refine X_dopc rfl ?_|refine ⟨(by show drawK _ _=true; kernel_rfl:drawX _ _ _),?_⟩|exact (by show drawK _ _=true; kernel_rfl:drawX _ _ _)|simp -dsimp (maxSteps:=20000000) (disch:=omega) only [simx,zzC,zzB,tys,ite_self,opnL,callB,callX,readsB,stepOp,nilCmp,ofVal,opBuiltin,opLen,PV.sk,scalBin,scalUn,intBin,opLoad,natOf,opConvert,opField,cellsP,oneP,Value.oneCell',opStore,toIV,scalT,scalA,scalC,boxesA,boxesC,zipB_none,zipB_mx,isZ,opZip,zeroP,opAppendZ,opMakeMap,opLookup,mboxB,opUpdate,↓reduceIte,Nat.reduceSub,Nat.reduceEqDiff,Nat.reduceAdd,Nat.reduceMul,Nat.reduceLT,Nat.reduceLeDiff,Int.reduceToNat,Int.reduceLE,Int.reduceLT,Int.reduceNeg,reduceCtorEq,zzR,gos,Int.reduceAdd,Int.reduceSub,Int.reduceMul,Int.reduceEq,c0'])
theorem same1_walk (a b:List Int) (hl:a.length ≤ maxLen):CallsP Try.prog 45 [lu a,lu b] (bl (decide (a=b))):=by
  rw [mx_len] at hl
  by_cases c0:a.length=b.length
  · have c0':(a.length:Int)=(b.length:Int):=by omega
    refine X_startP (n:=26) (m:=2) (rs:=[.tmp 4]) Try.func45 rfl rfl rfl rfl (by decide) fun base => ?_
    repeat (first|refine X_opc rfl ?_|refine X_dopc rfl ?_|refine ⟨(by show drawK _ _=true; kernel_rfl:drawX _ _ _),?_⟩|exact (by show drawK _ _=true; kernel_rfl:drawX _ _ _)|simp -dsimp (maxSteps:=20000000) (disch:=omega) only [simx,zzC,zzB,tys,ite_self,opnL,callB,callX,readsB,stepOp,nilCmp,ofVal,opBuiltin,opLen,PV.sk,scalBin,scalUn,intBin,opLoad,natOf,opConvert,opField,cellsP,oneP,Value.oneCell',opStore,toIV,scalT,scalA,scalC,boxesA,boxesC,zipB_none,zipB_mx,isZ,opZip,zeroP,opAppendZ,opMakeMap,opLookup,mboxB,opUpdate,↓reduceIte,Nat.reduceSub,Nat.reduceEqDiff,Nat.reduceAdd,Nat.reduceMul,Nat.reduceLT,Nat.reduceLeDiff,Int.reduceToNat,Int.reduceLE,Int.reduceLT,Int.reduceNeg,reduceCtorEq,gos,Int.reduceAdd,Int.reduceSub,Int.reduceMul,Int.reduceEq,c0'])
    refine X_loopH [0,1,5] [] (0) (a.length) (fun j => a.take j=b.take j) (fun j => [(5,i64 j)]) (fun j => Heap.none) ?_ ?_ ?_ ?_ ?_ (by decide) ?_
    · exact (fgt_nil)
    · ((simp -dsimp (disch:=omega) only [simx,zzB,tys,ite_self,opnL,callB,callX,readsB,stepOp,nilCmp,ofVal,opBuiltin,opLen,PV.sk,scalBin,scalUn,intBin,opLoad,natOf,opConvert,opField,cellsP,oneP,Value.oneCell',opStore,toIV,scalT,scalA,scalC,boxesA,boxesC,zipB_none,zipB_mx,isZ,opZip,zeroP,opAppendZ,opMakeMap,opLookup,mboxB,opUpdate,↓reduceIte,Nat.reduceSub,Nat.reduceEqDiff,Nat.reduceAdd,Nat.reduceMul,Nat.reduceLT,Nat.reduceLeDiff,Int.reduceToNat,Int.reduceLE,Int.reduceLT,Int.reduceNeg,reduceCtorEq,gos,Int.reduceAdd,Int.reduceSub,Int.reduceMul,Int.reduceEq]) <;> first|rfl|simp)
    · exact drop_nil _
    · omega
    · rfl
    · intro j hj hf
      by_cases c:j < a.length
      · have c':j < b.length:=by omega
        have g1:a[j]?=some a[j]:=List.getElem?_eq_getElem c
        have g2:b[j]?=some b[j]:=List.getElem?_eq_getElem c'
        by_cases e:a[j]=b[j]
        · have nx:=take_nextP c c' hf e
          repeat (first|refine X_opc rfl ?_|refine X_dopc rfl ?_|refine ⟨(by show drawK _ _=true; kernel_rfl:drawX _ _ _),?_⟩|exact (by show drawK _ _=true; kernel_rfl:drawX _ _ _)|simp -dsimp (maxSteps:=20000000) (disch:=omega) only [simx,zzC,zzB,tys,ite_self,opnL,callB,callX,readsB,stepOp,nilCmp,ofVal,opBuiltin,opLen,PV.sk,scalBin,scalUn,intBin,opLoad,natOf,opConvert,opField,cellsP,oneP,Value.oneCell',opStore,toIV,scalT,scalA,scalC,boxesA,boxesC,zipB_none,zipB_mx,isZ,opZip,zeroP,opAppendZ,opMakeMap,opLookup,mboxB,opUpdate,↓reduceIte,Nat.reduceSub,Nat.reduceEqDiff,Nat.reduceAdd,Nat.reduceMul,Nat.reduceLT,Nat.reduceLeDiff,Int.reduceToNat,Int.reduceLE,Int.reduceLT,Int.reduceNeg,reduceCtorEq,gos,Int.reduceAdd,Int.reduceSub,Int.reduceMul,Int.reduceEq,c,c',g1,g2,e])
          exact ⟨c,(fgt_nil),nx,rfl,drop_nil _⟩
        · have ne:¬ a=b:=fun h => e (by subst h; rfl)
          rw [decide_eq_false ne]
          repeat (first|refine X_opc rfl ?_|refine X_dopc rfl ?_|refine ⟨(by show drawK _ _=true; kernel_rfl:drawX _ _ _),?_⟩|exact (by show drawK _ _=true; kernel_rfl:drawX _ _ _)|simp -dsimp (maxSteps:=20000000) (disch:=omega) only [simx,zzC,zzB,tys,ite_self,opnL,callB,callX,readsB,stepOp,nilCmp,ofVal,opBuiltin,opLen,PV.sk,scalBin,scalUn,intBin,opLoad,natOf,opConvert,opField,cellsP,oneP,Value.oneCell',opStore,toIV,scalT,scalA,scalC,boxesA,boxesC,zipB_none,zipB_mx,isZ,opZip,zeroP,opAppendZ,opMakeMap,opLookup,mboxB,opUpdate,↓reduceIte,Nat.reduceSub,Nat.reduceEqDiff,Nat.reduceAdd,Nat.reduceMul,Nat.reduceLT,Nat.reduceLeDiff,Int.reduceToNat,Int.reduceLE,Int.reduceLT,Int.reduceNeg,reduceCtorEq,zzR,gos,Int.reduceAdd,Int.reduceSub,Int.reduceMul,Int.reduceEq,c,c',g1,g2,e])
      · have hj:j=a.length:=by omega
        subst hj
        have e:a=b:=by rw [List.take_length,c0,List.take_length] at hf; exact hf
        rw [decide_eq_true e]
        repeat (first|refine X_opc rfl ?_|refine X_dopc rfl ?_|refine ⟨(by show drawK _ _=true; kernel_rfl:drawX _ _ _),?_⟩|exact (by show drawK _ _=true; kernel_rfl:drawX _ _ _)|simp -dsimp (maxSteps:=20000000) (disch:=omega) only [simx,zzC,zzB,tys,ite_self,opnL,callB,callX,readsB,stepOp,nilCmp,ofVal,opBuiltin,opLen,PV.sk,scalBin,scalUn,intBin,opLoad,natOf,opConvert,opField,cellsP,oneP,Value.oneCell',opStore,toIV,scalT,scalA,scalC,boxesA,boxesC,zipB_none,zipB_mx,isZ,opZip,zeroP,opAppendZ,opMakeMap,opLookup,mboxB,opUpdate,↓reduceIte,Nat.reduceSub,Nat.reduceEqDiff,Nat.reduceAdd,Nat.reduceMul,Nat.reduceLT,Nat.reduceLeDiff,Int.reduceToNat,Int.reduceLE,Int.reduceLT,Int.reduceNeg,reduceCtorEq,zzR,gos,Int.reduceAdd,Int.reduceSub,Int.reduceMul,Int.reduceEq])
  · have ne:¬ a=b:=fun h => c0 (by rw [h])
    have c0':¬ (a.length:Int)=(b.length:Int):=by omega
    rw [decide_eq_false ne]
    refine X_startP (n:=26) (m:=2) (rs:=[.tmp 4]) Try.func45 rfl rfl rfl rfl (by decide) fun base => ?_
    repeat (first|refine X_opc rfl ?_|refine X_dopc rfl ?_|refine ⟨(by show drawK _ _=true; kernel_rfl:drawX _ _ _),?_⟩|exact (by show drawK _ _=true; kernel_rfl:drawX _ _ _)|simp -dsimp (maxSteps:=20000000) (disch:=omega) only [simx,zzC,zzB,tys,ite_self,opnL,callB,callX,readsB,stepOp,nilCmp,ofVal,opBuiltin,opLen,PV.sk,scalBin,scalUn,intBin,opLoad,natOf,opConvert,opField,cellsP,oneP,Value.oneCell',opStore,toIV,scalT,scalA,scalC,boxesA,boxesC,zipB_none,zipB_mx,isZ,opZip,zeroP,opAppendZ,opMakeMap,opLookup,mboxB,opUpdate,↓reduceIte,Nat.reduceSub,Nat.reduceEqDiff,Nat.reduceAdd,Nat.reduceMul,Nat.reduceLT,Nat.reduceLeDiff,Int.reduceToNat,Int.reduceLE,Int.reduceLT,Int.reduceNeg,reduceCtorEq,zzR,gos,Int.reduceAdd,Int.reduceSub,Int.reduceMul,Int.reduceEq,c0'])
end Go.Proofs.Ytmalpmnmknpphaa.TM
namespace Go.Proofs.Ytmalpmnmknpphaa.TM
open Go Go.RowKit
def sF (l:List Int):Nat → Bool
  | 0 => true
  | k + 1 => if l.getD (k + 1) 0 < l.getD k 0 then false else sF l k
def begB (r:Nat) (b k v:List Int):Bool:=decide (b.length=r + 1) && (decide (b.getD 0 0=0) && (decide (b.getD r 0=k.length) && (sF b r && decide (k.length=v.length))))
end Go.Proofs.Ytmalpmnmknpphaa.TM
namespace Go.Proofs.Ytmalpmnmknpphaa.TM
open Go Go.RowKit
theorem sF_adj {l:List Int}:∀ {n:Nat},sF l n=true → ∀ i,i < n → l.getD i 0 ≤ l.getD (i + 1) 0
  | 0,_,i,hi => by omega
  | n + 1,h,i,hi => by
    rw [sF] at h
    by_cases c:l.getD (n + 1) 0 < l.getD n 0
    · rw [if_pos c] at h; cases h
    · rw [if_neg c] at h
      by_cases e:i=n
      · subst e; omega
      · exact sF_adj h i (by omega)
theorem sF_lo {l:List Int} {n:Nat} (h:sF l n=true):∀ i,i ≤ n → l.getD 0 0 ≤ l.getD i 0
  | 0,_ => Int.le_refl _
  | i + 1,hi => Int.le_trans (sF_lo h i (by omega)) (sF_adj h i (by omega))
theorem sF_hi {l:List Int} {n:Nat} (h:sF l n=true):∀ d i,i + d=n → l.getD i 0 ≤ l.getD n 0
  | 0, i, hi => by have : i = n := by omega
                   subst this; exact Int.le_refl _
  | d + 1,i,hi => Int.le_trans (sF_adj h i (by omega)) (sF_hi h d (i + 1) (by omega))
def segI (b k:List Int) (i:Nat):List Int:=(k.drop (b.getD i 0).toNat).take ((b.getD (i + 1) 0).toNat - (b.getD i 0).toNat)
theorem beg_facts {r:Nat} {b k v:List Int} (h:begB r b k v=true) (i:Nat) (hi:i < r):∃ x y:Nat,b[i]?=some (x:Int) ∧ b[i + 1]?=some (y:Int) ∧ i < b.length ∧ i + 1 < b.length ∧ x ≤ y ∧ y ≤ k.length ∧ segI b k i=(k.drop x).take (y - x):=by
  simp only [begB,Bool.and_eq_true,decide_eq_true_eq] at h
  obtain ⟨h1,h2,h3,h4,h5⟩:=h
  have a1:=sF_adj h4 i hi
  have a2:=sF_lo h4 i (by omega)
  have a3:=sF_hi h4 (r - (i + 1)) (i + 1) (by omega)
  rw [h2] at a2
  rw [h3] at a3
  have l1:i < b.length:=by omega
  have l2:i + 1 < b.length:=by omega
  obtain ⟨x,hx⟩:=Int.eq_ofNat_of_zero_le a2
  obtain ⟨y,hy⟩:=Int.eq_ofNat_of_zero_le (Int.le_trans a2 a1)
  refine ⟨x,y,?_,?_,l1,l2,by omega,by omega,?_⟩
  · rw [List.getElem?_eq_getElem l1,← hx,List.getD_eq_getElem?_getD,List.getElem?_eq_getElem l1]; rfl
  · rw [List.getElem?_eq_getElem l2,← hy,List.getD_eq_getElem?_getD,List.getElem?_eq_getElem l2]; rfl
  · unfold segI; rw [hx,hy]; rfl
end Go.Proofs.Ytmalpmnmknpphaa.TM
namespace Go.Proofs.Ytmalpmnmknpphaa.TM
open Go Go.RowKit
theorem rowP_pos (s:Name) (z:Nat) (cs:List IV) {n:Nat} (h:0 < n):rowP s z n cs=.view s 0 z n cs.length:=by
  obtain ⟨m,rfl⟩:∃ m,n=m + 1:=⟨n - 1,by omega⟩
  rfl
theorem rowH_pos (h:Heap) (s:Name) (cs:List IV) {n:Nat} (hn:0 < n):rowH h s n cs=h.put s (.row false cs):=by
  obtain ⟨m,rfl⟩:∃ m,n=m + 1:=⟨n - 1,by omega⟩
  rfl
theorem risF_all:∀ (l:List Int) (last most:Int),risF last l most=true → ∀ c ∈ l,last < c ∧ c < most
  | [],_,_,_,c,hc => by simp at hc
  | a::l,last,most,h,c,hc => by
    rw [risF] at h
    by_cases e:a ≤ last ∨ most ≤ a
    · rw [if_pos e] at h; cases h
    · rw [if_neg e] at h
      rcases List.mem_cons.1 hc with rfl|hc
      · omega
      · have:=risF_all l a most h c hc; omega
theorem risF_drop:∀ (l:List Int) (last most:Int),risF last l most=true → ∀ i j,i < j → (hj:j < l.length) → l.getD i 0 < l.getD j 0
  | [],_,_,_,i,j,_,hj => by simp at hj
  | a::l,last,most,h,i,j,hij,hj => by
    rw [risF] at h
    by_cases e:a ≤ last ∨ most ≤ a
    · rw [if_pos e] at h; cases h
    · rw [if_neg e] at h
      obtain ⟨m,rfl⟩:∃ m,j=m + 1:=⟨j - 1,by omega⟩
      have hm:m < l.length:=by simpa using hj
      have:=risF_all l a most h (l.getD m 0) (by rw [List.getD_eq_getElem?_getD,List.getElem?_eq_getElem hm]; exact List.getElem_mem hm)
      cases i with
      | zero => simpa using this.1
      | succ i => simpa using risF_drop l a most h i m (by omega) hm
structure Sp (p:Int) (R C:Nat) (b k v:List Int):Prop where
  hp:Md p
  r1:1 ≤ R
  r2:R ≤ 64
  c1:1 ≤ C
  c2:C ≤ 64
  beg:begB R b k v=true
  has:∀ a ∈ v,a < p
  nz:(0:Int) ∉ v
  ris:∀ i,i < R → risF (-1) (segI b k i) C=true
theorem Sp.vlen {p:Int} {R C:Nat} {b k v:List Int} (h:Sp p R C b k v):k.length=v.length:=by
  have:=h.beg
  simp only [begB,Bool.and_eq_true,decide_eq_true_eq] at this
  exact this.2.2.2.2
theorem Sp.row {p:Int} {R C:Nat} {b k v:List Int} (h:Sp p R C b k v) {i:Nat} (hi:i < R) :
    ∃ x y:Nat,b[i]?=some (x:Int) ∧ b[i + 1]?=some (y:Int) ∧ i < b.length ∧ i + 1 < b.length ∧ x ≤ y ∧ y ≤ k.length ∧ y ≤ v.length ∧ segI b k i=(k.drop x).take (y - x) ∧ segI b v i=(v.drop x).take (y - x) ∧ (segI b k i).length=y - x ∧ (segI b v i).length=y - x ∧
      (∀ c ∈ segI b k i,0 ≤ c ∧ c < C) ∧ y - x ≤ C:=by
  obtain ⟨x,y,g1,g2,l1,l2,xy,yk,sg⟩:=beg_facts h.beg i hi
  have hv:=h.vlen
  have sv:segI b v i=(v.drop x).take (y - x):=by
    unfold segI
    rw [List.getD_eq_getElem?_getD,List.getD_eq_getElem?_getD,g1,g2]; rfl
  have ha:∀ c ∈ segI b k i,0 ≤ c ∧ c < C:=by
    intro c hc
    have:=risF_all _ _ _ (h.ris i hi) c hc
    omega
  have lk:(segI b k i).length=y - x:=by rw [sg,List.length_take,List.length_drop]; omega
  refine ⟨x,y,g1,g2,l1,l2,xy,yk,by omega,sg,sv,lk,by rw [sv,List.length_take,List.length_drop]; omega,ha,?_⟩
  have up:∀ j,j < (segI b k i).length → (j:Int) ≤ (segI b k i).getD j 0:=by
    intro j
    induction j with
    | zero =>
      intro hj
      have:=ha _ (by rw [List.getD_eq_getElem?_getD,List.getElem?_eq_getElem hj]; exact List.getElem_mem hj:(segI b k i).getD 0 0 ∈ segI b k i)
      simpa using this.1
    | succ j ih =>
      intro hj
      have h1:=ih (by omega)
      have h2:=risF_drop _ _ _ (h.ris i hi) j (j + 1) (by omega) hj
      omega
  rw [← lk]
  by_cases e:(segI b k i).length=0
  · omega
  · have h1:=up ((segI b k i).length - 1) (by omega)
    have h2:=ha ((segI b k i).getD ((segI b k i).length - 1) 0) (by rw [List.getD_eq_getElem?_getD,List.getElem?_eq_getElem (show (segI b k i).length - 1 < (segI b k i).length by omega)]; exact List.getElem_mem _)
    omega
end Go.Proofs.Ytmalpmnmknpphaa.TM
