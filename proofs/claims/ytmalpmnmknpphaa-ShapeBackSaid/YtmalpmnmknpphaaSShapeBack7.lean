/- What is proved of functions, and plain facts, part 7. Conditions: none. -/
import Derived.Test.YtmalpmnmknpphaaSShapeBack6
set_option linter.defProp false
set_option linter.unusedSectionVars false
set_option linter.unusedSimpArgs false
set_option linter.unusedVariables false
namespace Go.Proofs.Ytmalpmnmknpphaa.TM
open Go Go.RowKit
attribute [local irreducible] K W WOps Effs Xg Xo Xr Xdg Xdo Xdr Xif CallsP CallR
theorem growI_walk {h:Heap} {base:Name} (n:Nat) (h0:0 < n) (hn:n ≤ 4398046511104) (hh:h ((5,5)::base)=none) :
    CallR Try.prog base 128 [.i (.v (.slice none 0 0)),i64 n] h (.view ((5,5)::base) 0 1 0 n) (h.put ((5,5)::base) (.row false ((zeroRow [.int .i64 0] n).map .v))):=by
  have h1:¬ (n:Int) < 0:=by omega
  have h2:(0:Int) < n:=by omega
  refine X_startR (n:=27) (m:=2) (rs:=[.tmp 4]) Try.func128 rfl rfl rfl rfl (by decide) ?_
  have e1:(n:Int) - (0 - ((0:Nat):Int))=n:=by omega
  have b1:n * 8 ≤ 140737488355328:=by omega
  have b2:(n:Int) ≤ 140737488355328:=by omega
  repeat (first|refine X_opc rfl ?_|refine X_dopc rfl ?_|refine ⟨(by show drawK _ _=true; kernel_rfl:drawX _ _ _),?_⟩|exact (by show drawK _ _=true; kernel_rfl:drawX _ _ _)|simp -dsimp (maxSteps:=20000000) (disch:=omega) only [simx,zzC,zzB,tys,ite_self,opnL,callB,callX,readsB,stepOp,nilCmp,ofVal,opBuiltin,opLen,PV.sk,scalBin,scalUn,intBin,opLoad,natOf,opConvert,opField,cellsP,oneP,Value.oneCell',opStore,toIV,scalT,scalA,scalC,boxesA,boxesC,zipB_none,zipB_mx,isZ,opZip,zeroP,opAppendZ,opMakeMap,opLookup,mboxB,opUpdate,↓reduceIte,Nat.reduceSub,Nat.reduceEqDiff,Nat.reduceAdd,Nat.reduceMul,Nat.reduceLT,Nat.reduceLeDiff,Int.reduceToNat,Int.reduceLE,Int.reduceLT,Int.reduceNeg,reduceCtorEq,zzR,gos,Int.reduceAdd,Int.reduceSub,Int.reduceMul,Int.reduceEq,h1,h2,hh,e1,b1,b2,Int.toNat_natCast,SK.len,Nat.zero_le,Option.isNone_none,Option.map_some])
theorem growI_zero {h:Heap} {base:Name}:CallR Try.prog base 128 [.i (.v (.slice none 0 0)),i64 0] h (.i (.v (.slice none 0 0))) h:=by
  refine X_startR (n:=27) (m:=2) (rs:=[.tmp 4]) Try.func128 rfl rfl rfl rfl (by decide) ?_
  repeat (first|refine X_opc rfl ?_|refine X_dopc rfl ?_|refine ⟨(by show drawK _ _=true; kernel_rfl:drawX _ _ _),?_⟩|exact (by show drawK _ _=true; kernel_rfl:drawX _ _ _)|simp -dsimp (maxSteps:=20000000) (disch:=omega) only [simx,zzC,zzB,tys,ite_self,opnL,callB,callX,readsB,stepOp,nilCmp,ofVal,opBuiltin,opLen,PV.sk,scalBin,scalUn,intBin,opLoad,natOf,opConvert,opField,cellsP,oneP,Value.oneCell',opStore,toIV,scalT,scalA,scalC,boxesA,boxesC,zipB_none,zipB_mx,isZ,opZip,zeroP,opAppendZ,opMakeMap,opLookup,mboxB,opUpdate,↓reduceIte,Nat.reduceSub,Nat.reduceEqDiff,Nat.reduceAdd,Nat.reduceMul,Nat.reduceLT,Nat.reduceLeDiff,Int.reduceToNat,Int.reduceLE,Int.reduceLT,Int.reduceNeg,reduceCtorEq,zzR,gos,Int.reduceAdd,Int.reduceSub,Int.reduceMul,Int.reduceEq])
theorem concatI_walk (L:List (List IV)) (hL:L.length ≤ 4398046511104) (hF:L.flatten.length ≤ 4398046511104):CallsP Try.prog 97 [llL L] (.i (ivN L.flatten)):=by
  refine X_startP (n:=36) (m:=1) (rs:=[.tmp 2]) Try.func97 rfl rfl rfl rfl (by decide) fun base => ?_
  repeat (first|refine X_opc rfl ?_|refine X_dopc rfl ?_|refine ⟨(by show drawK _ _=true; kernel_rfl:drawX _ _ _),?_⟩|exact (by show drawK _ _=true; kernel_rfl:drawX _ _ _)|simp -dsimp (maxSteps:=20000000) (disch:=omega) only [simx,zzC,zzB,tys,ite_self,opnL,callB,callX,readsB,stepOp,nilCmp,ofVal,opBuiltin,opLen,PV.sk,scalBin,scalUn,intBin,opLoad,natOf,opConvert,opField,cellsP,oneP,Value.oneCell',opStore,toIV,scalT,scalA,scalC,boxesA,boxesC,zipB_none,zipB_mx,isZ,opZip,zeroP,opAppendZ,opMakeMap,opLookup,mboxB,opUpdate,↓reduceIte,Nat.reduceSub,Nat.reduceEqDiff,Nat.reduceAdd,Nat.reduceMul,Nat.reduceLT,Nat.reduceLeDiff,Int.reduceToNat,Int.reduceLE,Int.reduceLT,Int.reduceNeg,reduceCtorEq,gos,Int.reduceAdd,Int.reduceSub,Int.reduceMul,Int.reduceEq])
  have fl:=flatL_le L
  refine X_loopH [0,3,9,10,11] [] (0) (L.length) (fun j => True) (fun j => [(3,i64 ((L.take j).flatten.length:Nat)),(11,i64 j)]) (fun j => Heap.none) ?_ ?_ ?_ ?_ ?_ (by decide) ?_
  · exact (fgt_nil)
  · ((simp -dsimp (disch:=omega) only [simx,zzB,tys,ite_self,opnL,callB,callX,readsB,stepOp,nilCmp,ofVal,opBuiltin,opLen,PV.sk,scalBin,scalUn,intBin,opLoad,natOf,opConvert,opField,cellsP,oneP,Value.oneCell',opStore,toIV,scalT,scalA,scalC,boxesA,boxesC,zipB_none,zipB_mx,isZ,opZip,zeroP,opAppendZ,opMakeMap,opLookup,mboxB,opUpdate,↓reduceIte,Nat.reduceSub,Nat.reduceEqDiff,Nat.reduceAdd,Nat.reduceMul,Nat.reduceLT,Nat.reduceLeDiff,Int.reduceToNat,Int.reduceLE,Int.reduceLT,Int.reduceNeg,reduceCtorEq,gos,Int.reduceAdd,Int.reduceSub,Int.reduceMul,Int.reduceEq]) <;> first|rfl|simp [rowP])
  · exact drop_nil _
  · omega
  · trivial
  · intro j hj _
    have f1:=fl j
    by_cases cj:j < L.length
    · have g1:L[j]?=some L[j]:=List.getElem?_eq_getElem cj
      have fx:=flatL_next cj
      have f2:=fl (j + 1)
      generalize L[j]=r at g1 fx
      generalize (L.take j).flatten=F at fx f1
      rw [fx,List.length_append] at f2
      have h1:¬ ((F.length:Int) + (r.length:Int)) < 0:=by omega
      repeat (first|refine X_opc rfl ?_|refine X_dopc rfl ?_|refine ⟨(by show drawK _ _=true; kernel_rfl:drawX _ _ _),?_⟩|exact (by show drawK _ _=true; kernel_rfl:drawX _ _ _)|simp -dsimp (maxSteps:=20000000) (disch:=omega) only [simx,zzC,zzB,tys,ite_self,opnL,callB,callX,readsB,stepOp,nilCmp,ofVal,opBuiltin,opLen,PV.sk,scalBin,scalUn,intBin,opLoad,natOf,opConvert,opField,cellsP,oneP,Value.oneCell',opStore,toIV,scalT,scalA,scalC,boxesA,boxesC,zipB_none,zipB_mx,isZ,opZip,zeroP,opAppendZ,opMakeMap,opLookup,mboxB,opUpdate,↓reduceIte,Nat.reduceSub,Nat.reduceEqDiff,Nat.reduceAdd,Nat.reduceMul,Nat.reduceLT,Nat.reduceLeDiff,Int.reduceToNat,Int.reduceLE,Int.reduceLT,Int.reduceNeg,reduceCtorEq,gos,Int.reduceAdd,Int.reduceSub,Int.reduceMul,Int.reduceEq,cj,g1,h1])
      refine ⟨cj,(fgt_nil),⟨?_,rfl⟩,drop_nil _⟩
      rw [fx,List.length_append]; simp
    · have hj:j=L.length:=by omega
      subst hj
      rw [List.take_length]
      repeat (first|refine X_opc rfl ?_|refine X_dopc rfl ?_|refine ⟨(by show drawK _ _=true; kernel_rfl:drawX _ _ _),?_⟩|exact (by show drawK _ _=true; kernel_rfl:drawX _ _ _)|simp -dsimp (maxSteps:=20000000) (disch:=omega) only [simx,zzC,zzB,tys,ite_self,opnL,callB,callX,readsB,stepOp,nilCmp,ofVal,opBuiltin,opLen,PV.sk,scalBin,scalUn,intBin,opLoad,natOf,opConvert,opField,cellsP,oneP,Value.oneCell',opStore,toIV,scalT,scalA,scalC,boxesA,boxesC,zipB_none,zipB_mx,isZ,opZip,zeroP,opAppendZ,opMakeMap,opLookup,mboxB,opUpdate,↓reduceIte,Nat.reduceSub,Nat.reduceEqDiff,Nat.reduceAdd,Nat.reduceMul,Nat.reduceLT,Nat.reduceLeDiff,Int.reduceToNat,Int.reduceLE,Int.reduceLT,Int.reduceNeg,reduceCtorEq,gos,Int.reduceAdd,Int.reduceSub,Int.reduceMul,Int.reduceEq])
      generalize hFl:L.flatten=F at hF
      have sub0:∀ j (hj:j < L.length),L[j].length ≤ F.length:=fun j hj => by
        have h1:=flatL_next hj
        have h2:=fl (j + 1)
        rw [h1,List.length_append,hFl] at h2
        omega
      by_cases hF0:F.length=0
      · have hFn:F=[]:=List.eq_nil_of_length_eq_zero hF0
        subst hFn
        refine X_call_sh rfl (by simp only [tys]) rfl growI_zero ?_
        repeat (first|refine X_opc rfl ?_|refine X_dopc rfl ?_|refine ⟨(by show drawK _ _=true; kernel_rfl:drawX _ _ _),?_⟩|exact (by show drawK _ _=true; kernel_rfl:drawX _ _ _)|simp -dsimp (maxSteps:=20000000) (disch:=omega) only [simx,zzC,zzB,tys,ite_self,opnL,callB,callX,readsB,stepOp,nilCmp,ofVal,opBuiltin,opLen,PV.sk,scalBin,scalUn,intBin,opLoad,natOf,opConvert,opField,cellsP,oneP,Value.oneCell',opStore,toIV,scalT,scalA,scalC,boxesA,boxesC,zipB_none,zipB_mx,isZ,opZip,zeroP,opAppendZ,opMakeMap,opLookup,mboxB,opUpdate,↓reduceIte,Nat.reduceSub,Nat.reduceEqDiff,Nat.reduceAdd,Nat.reduceMul,Nat.reduceLT,Nat.reduceLeDiff,Int.reduceToNat,Int.reduceLE,Int.reduceLT,Int.reduceNeg,reduceCtorEq,gos,Int.reduceAdd,Int.reduceSub,Int.reduceMul,Int.reduceEq])
        refine X_loopH [6,25,26,27] [] (0) (L.length) (fun j => True) (fun j => [(6,.i (.v (.slice none 0 0))),(27,i64 j)]) (fun j => Heap.none) ?_ ?_ ?_ ?_ ?_ (by decide) ?_
        · exact (fgt_nil)
        · ((simp -dsimp (disch:=omega) only [simx,zzB,tys,ite_self,opnL,callB,callX,readsB,stepOp,nilCmp,ofVal,opBuiltin,opLen,PV.sk,scalBin,scalUn,intBin,opLoad,natOf,opConvert,opField,cellsP,oneP,Value.oneCell',opStore,toIV,scalT,scalA,scalC,boxesA,boxesC,zipB_none,zipB_mx,isZ,opZip,zeroP,opAppendZ,opMakeMap,opLookup,mboxB,opUpdate,↓reduceIte,Nat.reduceSub,Nat.reduceEqDiff,Nat.reduceAdd,Nat.reduceMul,Nat.reduceLT,Nat.reduceLeDiff,Int.reduceToNat,Int.reduceLE,Int.reduceLT,Int.reduceNeg,reduceCtorEq,gos,Int.reduceAdd,Int.reduceSub,Int.reduceMul,Int.reduceEq]) <;> first|rfl|simp [rowP])
        · exact drop_nil _
        · omega
        · trivial
        · intro j hj _
          by_cases cj:j < L.length
          · have g1:L[j]?=some L[j]:=List.getElem?_eq_getElem cj
            have g2:=sub0 j cj
            generalize L[j]=r at g1 g2
            have hr:r=[]:=List.eq_nil_of_length_eq_zero (by simpa using g2)
            subst hr
            repeat (first|refine X_opc rfl ?_|refine X_dopc rfl ?_|refine ⟨(by show drawK _ _=true; kernel_rfl:drawX _ _ _),?_⟩|exact (by show drawK _ _=true; kernel_rfl:drawX _ _ _)|simp -dsimp (maxSteps:=20000000) (disch:=omega) only [simx,zzC,zzB,tys,ite_self,opnL,callB,callX,readsB,stepOp,nilCmp,ofVal,opBuiltin,opLen,PV.sk,scalBin,scalUn,intBin,opLoad,natOf,opConvert,opField,cellsP,oneP,Value.oneCell',opStore,toIV,scalT,scalA,scalC,boxesA,boxesC,zipB_none,zipB_mx,isZ,opZip,zeroP,opAppendZ,opMakeMap,opLookup,mboxB,opUpdate,↓reduceIte,Nat.reduceSub,Nat.reduceEqDiff,Nat.reduceAdd,Nat.reduceMul,Nat.reduceLT,Nat.reduceLeDiff,Int.reduceToNat,Int.reduceLE,Int.reduceLT,Int.reduceNeg,reduceCtorEq,gos,Int.reduceAdd,Int.reduceSub,Int.reduceMul,Int.reduceEq,cj,g1])
            refine X_append_e0 3 [.int .i64 0] (by simp only [tys]) (by simp only [tys]) rfl ?_
            repeat (first|refine X_opc rfl ?_|refine X_dopc rfl ?_|refine ⟨(by show drawK _ _=true; kernel_rfl:drawX _ _ _),?_⟩|exact (by show drawK _ _=true; kernel_rfl:drawX _ _ _)|simp -dsimp (maxSteps:=20000000) (disch:=omega) only [simx,zzC,zzB,tys,ite_self,opnL,callB,callX,readsB,stepOp,nilCmp,ofVal,opBuiltin,opLen,PV.sk,scalBin,scalUn,intBin,opLoad,natOf,opConvert,opField,cellsP,oneP,Value.oneCell',opStore,toIV,scalT,scalA,scalC,boxesA,boxesC,zipB_none,zipB_mx,isZ,opZip,zeroP,opAppendZ,opMakeMap,opLookup,mboxB,opUpdate,↓reduceIte,Nat.reduceSub,Nat.reduceEqDiff,Nat.reduceAdd,Nat.reduceMul,Nat.reduceLT,Nat.reduceLeDiff,Int.reduceToNat,Int.reduceLE,Int.reduceLT,Int.reduceNeg,reduceCtorEq,gos,Int.reduceAdd,Int.reduceSub,Int.reduceMul,Int.reduceEq])
            exact ⟨cj,(fgt_nil),rfl,drop_nil _⟩
          · have hj:j=L.length:=by omega
            subst hj
            repeat (first|refine X_opc rfl ?_|refine X_dopc rfl ?_|refine ⟨(by show drawK _ _=true; kernel_rfl:drawX _ _ _),?_⟩|exact (by show drawK _ _=true; kernel_rfl:drawX _ _ _)|simp -dsimp (maxSteps:=20000000) (disch:=omega) only [simx,zzC,zzB,tys,ite_self,opnL,callB,callX,readsB,stepOp,nilCmp,ofVal,opBuiltin,opLen,PV.sk,scalBin,scalUn,intBin,opLoad,natOf,opConvert,opField,cellsP,oneP,Value.oneCell',opStore,toIV,scalT,scalA,scalC,boxesA,boxesC,zipB_none,zipB_mx,isZ,opZip,zeroP,opAppendZ,opMakeMap,opLookup,mboxB,opUpdate,↓reduceIte,Nat.reduceSub,Nat.reduceEqDiff,Nat.reduceAdd,Nat.reduceMul,Nat.reduceLT,Nat.reduceLeDiff,Int.reduceToNat,Int.reduceLE,Int.reduceLT,Int.reduceNeg,reduceCtorEq,zzR,gos,Int.reduceAdd,Int.reduceSub,Int.reduceMul,Int.reduceEq])
            rfl
      · have e0:0 < F.length:=by omega
        refine X_call_sh rfl (by simp only [tys]) rfl (growI_walk F.length e0 hF rfl) ?_
        have zl:=zeros_len F.length .i64
        generalize (zeroRow [Value.int .i64 0] F.length).map IV.v=z at zl
        repeat (first|refine X_opc rfl ?_|refine X_dopc rfl ?_|refine ⟨(by show drawK _ _=true; kernel_rfl:drawX _ _ _),?_⟩|exact (by show drawK _ _=true; kernel_rfl:drawX _ _ _)|simp -dsimp (maxSteps:=20000000) (disch:=omega) only [simx,zzC,zzB,tys,ite_self,opnL,callB,callX,readsB,stepOp,nilCmp,ofVal,opBuiltin,opLen,PV.sk,scalBin,scalUn,intBin,opLoad,natOf,opConvert,opField,cellsP,oneP,Value.oneCell',opStore,toIV,scalT,scalA,scalC,boxesA,boxesC,zipB_none,zipB_mx,isZ,opZip,zeroP,opAppendZ,opMakeMap,opLookup,mboxB,opUpdate,↓reduceIte,Nat.reduceSub,Nat.reduceEqDiff,Nat.reduceAdd,Nat.reduceMul,Nat.reduceLT,Nat.reduceLeDiff,Int.reduceToNat,Int.reduceLE,Int.reduceLT,Int.reduceNeg,reduceCtorEq,gos,Int.reduceAdd,Int.reduceSub,Int.reduceMul,Int.reduceEq])
        refine X_loopH [6,25,26,27] [] (0) (L.length) (fun j => True) (fun j => [(6,.view ((5,5)::(9,1)::base) 0 1 (L.take j).flatten.length F.length),(27,i64 j)]) (fun j => Heap.none.put ((5,5)::(9,1)::base) (.row false (roomC F.length z (L.take j).flatten))) ?_ ?_ ?_ ?_ ?_ (by decide) ?_
        · exact (fgt_nil)
        · ((simp -dsimp (disch:=omega) only [simx,zzB,tys,ite_self,opnL,callB,callX,readsB,stepOp,nilCmp,ofVal,opBuiltin,opLen,PV.sk,scalBin,scalUn,intBin,opLoad,natOf,opConvert,opField,cellsP,oneP,Value.oneCell',opStore,toIV,scalT,scalA,scalC,boxesA,boxesC,zipB_none,zipB_mx,isZ,opZip,zeroP,opAppendZ,opMakeMap,opLookup,mboxB,opUpdate,↓reduceIte,Nat.reduceSub,Nat.reduceEqDiff,Nat.reduceAdd,Nat.reduceMul,Nat.reduceLT,Nat.reduceLeDiff,Int.reduceToNat,Int.reduceLE,Int.reduceLT,Int.reduceNeg,reduceCtorEq,gos,Int.reduceAdd,Int.reduceSub,Int.reduceMul,Int.reduceEq]) <;> first|rfl|simp [rowP])
        · rw [drop_nil]; rfl
        · omega
        · trivial
        · intro j hj _
          by_cases cj:j < L.length
          · have g1:L[j]?=some L[j]:=List.getElem?_eq_getElem cj
            have fx:=flatL_next cj
            have f2:=fl (j + 1)
            generalize L[j]=r at g1 fx
            rw [fx] at f2
            rw [hFl] at f2
            generalize (L.take j).flatten=G at fx f2 ⊢
            rw [List.length_append] at f2
            have rl:=roomC_len (N:=F.length) (l:=G) zl (by omega)
            by_cases hr:r.length=0
            · have hr:r=[]:=List.eq_nil_of_length_eq_zero hr
              subst hr
              rw [List.append_nil] at fx
              repeat (first|refine X_opc rfl ?_|refine X_dopc rfl ?_|refine ⟨(by show drawK _ _=true; kernel_rfl:drawX _ _ _),?_⟩|exact (by show drawK _ _=true; kernel_rfl:drawX _ _ _)|simp -dsimp (maxSteps:=20000000) (disch:=omega) only [simx,zzC,zzB,tys,ite_self,opnL,callB,callX,readsB,stepOp,nilCmp,ofVal,opBuiltin,opLen,PV.sk,scalBin,scalUn,intBin,opLoad,natOf,opConvert,opField,cellsP,oneP,Value.oneCell',opStore,toIV,scalT,scalA,scalC,boxesA,boxesC,zipB_none,zipB_mx,isZ,opZip,zeroP,opAppendZ,opMakeMap,opLookup,mboxB,opUpdate,↓reduceIte,Nat.reduceSub,Nat.reduceEqDiff,Nat.reduceAdd,Nat.reduceMul,Nat.reduceLT,Nat.reduceLeDiff,Int.reduceToNat,Int.reduceLE,Int.reduceLT,Int.reduceNeg,reduceCtorEq,gos,Int.reduceAdd,Int.reduceSub,Int.reduceMul,Int.reduceEq,cj,g1])
              refine X_append_e1 3 [.int .i64 0] (by simp only [tys]) (by simp only [tys]) rfl (by simp only [tys]; omega) (by rw [mx_len]; omega) ?_
              repeat (first|refine X_opc rfl ?_|refine X_dopc rfl ?_|refine ⟨(by show drawK _ _=true; kernel_rfl:drawX _ _ _),?_⟩|exact (by show drawK _ _=true; kernel_rfl:drawX _ _ _)|simp -dsimp (maxSteps:=20000000) (disch:=omega) only [simx,zzC,zzB,tys,ite_self,opnL,callB,callX,readsB,stepOp,nilCmp,ofVal,opBuiltin,opLen,PV.sk,scalBin,scalUn,intBin,opLoad,natOf,opConvert,opField,cellsP,oneP,Value.oneCell',opStore,toIV,scalT,scalA,scalC,boxesA,boxesC,zipB_none,zipB_mx,isZ,opZip,zeroP,opAppendZ,opMakeMap,opLookup,mboxB,opUpdate,↓reduceIte,Nat.reduceSub,Nat.reduceEqDiff,Nat.reduceAdd,Nat.reduceMul,Nat.reduceLT,Nat.reduceLeDiff,Int.reduceToNat,Int.reduceLE,Int.reduceLT,Int.reduceNeg,reduceCtorEq,gos,Int.reduceAdd,Int.reduceSub,Int.reduceMul,Int.reduceEq])
              refine ⟨cj,(fgt_nil),⟨by rw [fx],rfl⟩,by rw [fx]; exact drop_nil _⟩
            · repeat (first|refine X_opc rfl ?_|refine X_dopc rfl ?_|refine ⟨(by show drawK _ _=true; kernel_rfl:drawX _ _ _),?_⟩|exact (by show drawK _ _=true; kernel_rfl:drawX _ _ _)|simp -dsimp (maxSteps:=20000000) (disch:=omega) only [simx,zzC,zzB,tys,ite_self,opnL,callB,callX,readsB,stepOp,nilCmp,ofVal,opBuiltin,opLen,PV.sk,scalBin,scalUn,intBin,opLoad,natOf,opConvert,opField,cellsP,oneP,Value.oneCell',opStore,toIV,scalT,scalA,scalC,boxesA,boxesC,zipB_none,zipB_mx,isZ,opZip,zeroP,opAppendZ,opMakeMap,opLookup,mboxB,opUpdate,↓reduceIte,Nat.reduceSub,Nat.reduceEqDiff,Nat.reduceAdd,Nat.reduceMul,Nat.reduceLT,Nat.reduceLeDiff,Int.reduceToNat,Int.reduceLE,Int.reduceLT,Int.reduceNeg,reduceCtorEq,gos,Int.reduceAdd,Int.reduceSub,Int.reduceMul,Int.reduceEq,cj,g1])
              refine X_append_room 3 [.int .i64 0] r (by simp only [tys]) (by simp only [tys]) rfl (by simp [Heap.put_at]) rl (by omega) rfl (by omega) (by simp only [tys]; omega) (by rw [mx_len]; omega) ?_
              rw [roomC_app zl (by omega)]
              repeat (first|refine X_opc rfl ?_|refine X_dopc rfl ?_|refine ⟨(by show drawK _ _=true; kernel_rfl:drawX _ _ _),?_⟩|exact (by show drawK _ _=true; kernel_rfl:drawX _ _ _)|simp -dsimp (maxSteps:=20000000) (disch:=omega) only [simx,zzC,zzB,tys,ite_self,opnL,callB,callX,readsB,stepOp,nilCmp,ofVal,opBuiltin,opLen,PV.sk,scalBin,scalUn,intBin,opLoad,natOf,opConvert,opField,cellsP,oneP,Value.oneCell',opStore,toIV,scalT,scalA,scalC,boxesA,boxesC,zipB_none,zipB_mx,isZ,opZip,zeroP,opAppendZ,opMakeMap,opLookup,mboxB,opUpdate,↓reduceIte,Nat.reduceSub,Nat.reduceEqDiff,Nat.reduceAdd,Nat.reduceMul,Nat.reduceLT,Nat.reduceLeDiff,Int.reduceToNat,Int.reduceLE,Int.reduceLT,Int.reduceNeg,reduceCtorEq,gos,Int.reduceAdd,Int.reduceSub,Int.reduceMul,Int.reduceEq])
              refine ⟨cj,(fgt_nil),⟨by rw [fx,List.length_append],rfl⟩,?_⟩
              rw [fx]
              funext c
              simp (maxSteps:=20000000) only [Heap.drop_at,rowH_app,Heap.put_at,Heap.none_at,List.mem_cons,List.not_mem_nil,or_false]
              by_cases e0:c=(5,5)::(9,1)::base
              · subst e0; simp []
              simp [e0]
          · have hj:j=L.length:=by omega
            subst hj
            rw [List.take_length,hFl]
            have rz:roomC F.length z F=F:=by unfold roomC; rw [List.drop_eq_nil_of_le (by omega),List.append_nil]
            rw [rz]
            have e2:F.take F.length=F:=List.take_length
            repeat (first|refine X_opc rfl ?_|refine X_dopc rfl ?_|refine ⟨(by show drawK _ _=true; kernel_rfl:drawX _ _ _),?_⟩|exact (by show drawK _ _=true; kernel_rfl:drawX _ _ _)|simp -dsimp (maxSteps:=20000000) (disch:=omega) only [simx,zzC,zzB,tys,ite_self,opnL,callB,callX,readsB,stepOp,nilCmp,ofVal,opBuiltin,opLen,PV.sk,scalBin,scalUn,intBin,opLoad,natOf,opConvert,opField,cellsP,oneP,Value.oneCell',opStore,toIV,scalT,scalA,scalC,boxesA,boxesC,zipB_none,zipB_mx,isZ,opZip,zeroP,opAppendZ,opMakeMap,opLookup,mboxB,opUpdate,↓reduceIte,Nat.reduceSub,Nat.reduceEqDiff,Nat.reduceAdd,Nat.reduceMul,Nat.reduceLT,Nat.reduceLeDiff,Int.reduceToNat,Int.reduceLE,Int.reduceLT,Int.reduceNeg,reduceCtorEq,zzR,gos,Int.reduceAdd,Int.reduceSub,Int.reduceMul,Int.reduceEq,e2])
end Go.Proofs.Ytmalpmnmknpphaa.TM
namespace Go.Proofs.Ytmalpmnmknpphaa.TM
open Go Go.RowKit
attribute [local irreducible] K W WOps Effs Xg Xo Xr Xdg Xdo Xdr Xif CallsP CallR
theorem clone13_walk {l:List Int} (hn:l.length ≤ 65536):CallsP Try.prog 127 [lu l] (lu l):=by
  rcases Nat.eq_zero_or_pos l.length with h|h
  · obtain rfl:l=[]:=List.eq_nil_of_length_eq_zero h
    exact cloneE_walk
  · have h1:¬ l.length=0:=by omega
    have e2:(l.map iu).take l.length=l.map iu:=List.take_of_length_le (by rw [List.length_map]; exact Nat.le_refl _)
    refine X_startP (n:=8) (m:=1) (rs:=[.tmp 2]) Try.func127 rfl rfl rfl rfl (by decide) fun base => ?_
    repeat (first|refine X_opc rfl ?_|refine X_dopc rfl ?_|refine ⟨(by show drawK _ _=true; kernel_rfl:drawX _ _ _),?_⟩|exact (by show drawK _ _=true; kernel_rfl:drawX _ _ _)|simp -dsimp (maxSteps:=20000000) (disch:=omega) only [simx,zzC,zzB,tys,ite_self,opnL,callB,callX,readsB,stepOp,nilCmp,ofVal,opBuiltin,opLen,PV.sk,scalBin,scalUn,intBin,opLoad,natOf,opConvert,opField,cellsP,oneP,Value.oneCell',opStore,toIV,scalT,scalA,scalC,boxesA,boxesC,zipB_none,zipB_mx,isZ,opZip,zeroP,opAppendZ,opMakeMap,opLookup,mboxB,opUpdate,↓reduceIte,Nat.reduceSub,Nat.reduceEqDiff,Nat.reduceAdd,Nat.reduceMul,Nat.reduceLT,Nat.reduceLeDiff,Int.reduceToNat,Int.reduceLE,Int.reduceLT,Int.reduceNeg,reduceCtorEq,gos,Int.reduceAdd,Int.reduceSub,Int.reduceMul,Int.reduceEq,h1,h])
    refine X_app_full (cs:=[]) 22 [.int .u64 0] (l.map iu) (by simp only [tys]) (by simp only [tys]) rfl (by simp [Heap.put_at]) rfl h (by simp) (by simp only [tys]; omega) (by rw [mx_len]; omega) ?_
    repeat (first|refine X_opc rfl ?_|refine X_dopc rfl ?_|refine ⟨(by show drawK _ _=true; kernel_rfl:drawX _ _ _),?_⟩|exact (by show drawK _ _=true; kernel_rfl:drawX _ _ _)|simp -dsimp (maxSteps:=20000000) (disch:=omega) only [simx,zzC,zzB,tys,ite_self,opnL,callB,callX,readsB,stepOp,nilCmp,ofVal,opBuiltin,opLen,PV.sk,scalBin,scalUn,intBin,opLoad,natOf,opConvert,opField,cellsP,oneP,Value.oneCell',opStore,toIV,scalT,scalA,scalC,boxesA,boxesC,zipB_none,zipB_mx,isZ,opZip,zeroP,opAppendZ,opMakeMap,opLookup,mboxB,opUpdate,↓reduceIte,Nat.reduceSub,Nat.reduceEqDiff,Nat.reduceAdd,Nat.reduceMul,Nat.reduceLT,Nat.reduceLeDiff,Int.reduceToNat,Int.reduceLE,Int.reduceLT,Int.reduceNeg,reduceCtorEq,zzR,gos,Int.reduceAdd,Int.reduceSub,Int.reduceMul,Int.reduceEq,Nat.zero_add,List.nil_append,List.length_map,e2])
theorem next_walk {h:Heap} {base b:Name} {m n:Nat} {xs:List IV} (hb:h b=some (.var [.i (.l m xs)])) (hx:xs.length=m) (hn:n ≤ m) (hm:m ≤ 65536) :
    CallR Try.prog base 126 [.ref b 0 1,i64 n] h (.i (.l n (xs.take n))) (h.put b (.var [.i (.l (m - n) (xs.drop n))])):=by
  have e1:(xs.drop n).take (m - n)=xs.drop n:=List.take_of_length_le (by rw [List.length_drop]; omega)
  have nn:n ≤ n:=Nat.le_refl n
  have mm:m ≤ m:=Nat.le_refl m
  refine X_startR (n:=23) (m:=2) (rs:=[.tmp 4]) Try.func126 rfl rfl rfl rfl (by decide) ?_
  repeat (first|refine X_opc rfl ?_|refine X_dopc rfl ?_|refine ⟨(by show drawK _ _=true; kernel_rfl:drawX _ _ _),?_⟩|exact (by show drawK _ _=true; kernel_rfl:drawX _ _ _)|simp -dsimp (maxSteps:=20000000) (disch:=omega) only [simx,zzC,zzB,tys,ite_self,opnL,callB,callX,readsB,stepOp,nilCmp,ofVal,opBuiltin,opLen,PV.sk,scalBin,scalUn,intBin,opLoad,natOf,opConvert,opField,cellsP,oneP,Value.oneCell',opStore,toIV,scalT,scalA,scalC,boxesA,boxesC,zipB_none,zipB_mx,isZ,opZip,zeroP,opAppendZ,opMakeMap,opLookup,mboxB,opUpdate,↓reduceIte,Nat.reduceSub,Nat.reduceEqDiff,Nat.reduceAdd,Nat.reduceMul,Nat.reduceLT,Nat.reduceLeDiff,Int.reduceToNat,Int.reduceLE,Int.reduceLT,Int.reduceNeg,reduceCtorEq,zzR,gos,Int.reduceAdd,Int.reduceSub,Int.reduceMul,Int.reduceEq,hb,hx,hn,nn,mm,e1,Nat.zero_le,Nat.sub_zero,List.drop_zero,SK.len])
def wrapL (l:List Int):List Int:=l.map IntKind.i64.wrap
set_option maxHeartbeats 4000000 in
theorem places_walk {h:Heap} {base b:Name} {m n:Nat} {l:List Int} (hb:h b=some (.var [.i (.l m (l.map iu))])) (hx:l.length=m) (hn:n ≤ m) (hm:m ≤ 65536) (n1:h ((5,3)::base)=none) (n2:h ((5,4)::base)=none) (nv:noVar ((5,3)::base) h) (hne:b ≠ (5,3)::base) (hne2:b ≠ (5,4)::base) :
    CallR Try.prog base 95 [.ref b 0 1,i64 n] h (rowP ((5,4)::base) 1 n ((wrapL (l.take n)).map ii)) (rowH (h.put b (.var [.i (.l (m - n) ((l.drop n).map iu))])) ((5,4)::base) n ((wrapL (l.take n)).map ii)):=by
  have q:=fun bs => next_walk (base:=bs) hb (by rw [List.length_map]; exact hx) hn hm
  rw [← List.map_take,← List.map_drop] at q
  have tl:(l.take n).length=n:=by rw [List.length_take]; omega
  have wl:(wrapL (l.take n)).length=n:=by unfold wrapL; rw [List.length_map]; exact tl
  have nv2:noVar ((5,3)::base) (h.put b (.var [.i (.l (m - n) ((l.drop n).map iu))])):=noVar_var nv (by simp [refsL,refsP])
  have m1:(h.put b (.var [.i (.l (m - n) ((l.drop n).map iu))])) ((5,3)::base)=none:=by rw [Heap.put_at,if_neg (Ne.symm hne)]; exact n1
  have m2:(h.put b (.var [.i (.l (m - n) ((l.drop n).map iu))])) ((5,4)::base)=none:=by rw [Heap.put_at,if_neg (Ne.symm hne2)]; exact n2
  obtain ⟨F,hF⟩:∃ F:Nat → Int,F=fun j => (wrapL (l.take n)).getD j 0:=⟨_,rfl⟩
  have Ft:tbl n F=wrapL (l.take n):=by
    rw [hF]; exact tbl_of wl |>.symm
  have Fj:∀ j,j < n → F j=IntKind.i64.wrap ((l.take n).getD j 0):=fun j hj => by
    rw [hF]
    show (wrapL (l.take n)).getD j 0=_
    unfold wrapL
    rw [List.getD_eq_getElem?_getD,List.getElem?_map,getD_at' (d:=0) (show j < (l.take n).length by omega)]; rfl
  have gj:∀ j,j < n → ((l.take n).map iu)[j]?=some (iu ((l.take n).getD j 0)):=fun j hj => by rw [List.getElem?_map,getD_some tl hj]; rfl
  rw [← Ft]
  clear Ft hF wl hb nv n2
  generalize h.put b (.var [.i (.l (m - n) ((l.drop n).map iu))])=h1 at *
  generalize l.take n=X at *
  refine X_startR (n:=23) (m:=2) (rs:=[.tmp 4]) Try.func95 rfl rfl rfl rfl (by decide) ?_
  repeat (first|refine X_opc rfl ?_|refine X_dopc rfl ?_|refine ⟨(by show drawK _ _=true; kernel_rfl:drawX _ _ _),?_⟩|exact (by show drawK _ _=true; kernel_rfl:drawX _ _ _)|simp -dsimp (maxSteps:=20000000) (disch:=omega) only [simx,zzC,zzB,tys,ite_self,opnL,callB,callX,readsB,stepOp,nilCmp,ofVal,opBuiltin,opLen,PV.sk,scalBin,scalUn,intBin,opLoad,natOf,opConvert,opField,cellsP,oneP,Value.oneCell',opStore,toIV,scalT,scalA,scalC,boxesA,boxesC,zipB_none,zipB_mx,isZ,opZip,zeroP,opAppendZ,opMakeMap,opLookup,mboxB,opUpdate,↓reduceIte,Nat.reduceSub,Nat.reduceEqDiff,Nat.reduceAdd,Nat.reduceMul,Nat.reduceLT,Nat.reduceLeDiff,Int.reduceToNat,Int.reduceLE,Int.reduceLT,Int.reduceNeg,reduceCtorEq,gos,Int.reduceAdd,Int.reduceSub,Int.reduceMul,Int.reduceEq])
  refine X_call_sh rfl (by simp only [tys]) rfl (q _) ?_
  repeat (first|refine X_opc rfl ?_|refine X_dopc rfl ?_|refine ⟨(by show drawK _ _=true; kernel_rfl:drawX _ _ _),?_⟩|exact (by show drawK _ _=true; kernel_rfl:drawX _ _ _)|simp -dsimp (maxSteps:=20000000) (disch:=omega) only [simx,zzC,zzB,tys,ite_self,opnL,callB,callX,readsB,stepOp,nilCmp,ofVal,opBuiltin,opLen,PV.sk,scalBin,scalUn,intBin,opLoad,natOf,opConvert,opField,cellsP,oneP,Value.oneCell',opStore,toIV,scalT,scalA,scalC,boxesA,boxesC,zipB_none,zipB_mx,isZ,opZip,zeroP,opAppendZ,opMakeMap,opLookup,mboxB,opUpdate,↓reduceIte,Nat.reduceSub,Nat.reduceEqDiff,Nat.reduceAdd,Nat.reduceMul,Nat.reduceLT,Nat.reduceLeDiff,Int.reduceToNat,Int.reduceLE,Int.reduceLT,Int.reduceNeg,reduceCtorEq,gos,Int.reduceAdd,Int.reduceSub,Int.reduceMul,Int.reduceEq,SK.len])
  refine X_loopH [5,10,11,12] [(5,3)::base] (0) (n) (fun j => True) (fun j => [(5,rowP ((5,4)::base) 1 j ((tbl j F).map ii)),(12,i64 j)]) (fun j => rowH h1 ((5,4)::base) j ((tbl j F).map ii)) ?_ ?_ ?_ ?_ ?_ (by decide) ?_
  · exact fgt_cons n1 (by simp -dsimp only [simx,zzC,zzB,tys,ite_self,opnL,notIn_cons,notIn_nil] <;> simp [refsP,mem_refs_rowP]) nv2 fgt_nil
  · ((simp -dsimp (disch:=omega) only [simx,zzB,tys,ite_self,opnL,callB,callX,readsB,stepOp,nilCmp,ofVal,opBuiltin,opLen,PV.sk,scalBin,scalUn,intBin,opLoad,natOf,opConvert,opField,cellsP,oneP,Value.oneCell',opStore,toIV,scalT,scalA,scalC,boxesA,boxesC,zipB_none,zipB_mx,isZ,opZip,zeroP,opAppendZ,opMakeMap,opLookup,mboxB,opUpdate,↓reduceIte,Nat.reduceSub,Nat.reduceEqDiff,Nat.reduceAdd,Nat.reduceMul,Nat.reduceLT,Nat.reduceLeDiff,Int.reduceToNat,Int.reduceLE,Int.reduceLT,Int.reduceNeg,reduceCtorEq,gos,Int.reduceAdd,Int.reduceSub,Int.reduceMul,Int.reduceEq]) <;> first|rfl|simp [rowP])
  · funext c
    rw [Heap.drop_at,rowH_zero]
    split
    · rename_i e
      rw [List.mem_singleton.1 e]; exact m1.symm
    · rfl
  · omega
  · trivial
  · intro j hj _
    by_cases cj:j < n
    · have t1:=tbl_succ j F
      have l1:=tbl_len j F
      have g1:=gj j cj
      have f1:=Fj j cj
      clear gj Fj q
      generalize F j=s at f1 t1
      generalize X.getD j 0=x at g1 f1
      repeat (first|refine X_opc rfl ?_|refine X_dopc rfl ?_|refine ⟨(by show drawK _ _=true; kernel_rfl:drawX _ _ _),?_⟩|exact (by show drawK _ _=true; kernel_rfl:drawX _ _ _)|simp -dsimp (maxSteps:=20000000) (disch:=omega) only [simx,zzC,zzB,tys,ite_self,opnL,callB,callX,readsB,stepOp,nilCmp,ofVal,opBuiltin,opLen,PV.sk,scalBin,scalUn,intBin,opLoad,natOf,opConvert,opField,cellsP,oneP,Value.oneCell',opStore,toIV,scalT,scalA,scalC,boxesA,boxesC,zipB_none,zipB_mx,isZ,opZip,zeroP,opAppendZ,opMakeMap,opLookup,mboxB,opUpdate,↓reduceIte,Nat.reduceSub,Nat.reduceEqDiff,Nat.reduceAdd,Nat.reduceMul,Nat.reduceLT,Nat.reduceLeDiff,Int.reduceToNat,Int.reduceLE,Int.reduceLT,Int.reduceNeg,reduceCtorEq,gos,Int.reduceAdd,Int.reduceSub,Int.reduceMul,Int.reduceEq,cj,g1,m1,SK.len,List.length_map])
      rw [← f1]
      refine X_append_one 3 [.int .i64 0] [ii s] (by simp only [tys]) (by simp only [tys]) rfl (by decide) (by rw [List.length_map,l1,Nat.mul_one]) (by simp [Heap.put_at,rowH_app,m2]) (by simp [Heap.put_at]; rfl) rfl (by simp only [tys]; omega) (by rw [mx_len]; omega) ?_
      repeat (first|refine X_opc rfl ?_|refine X_dopc rfl ?_|refine ⟨(by show drawK _ _=true; kernel_rfl:drawX _ _ _),?_⟩|exact (by show drawK _ _=true; kernel_rfl:drawX _ _ _)|simp -dsimp (maxSteps:=20000000) (disch:=omega) only [simx,zzC,zzB,tys,ite_self,opnL,callB,callX,readsB,stepOp,nilCmp,ofVal,opBuiltin,opLen,PV.sk,scalBin,scalUn,intBin,opLoad,natOf,opConvert,opField,cellsP,oneP,Value.oneCell',opStore,toIV,scalT,scalA,scalC,boxesA,boxesC,zipB_none,zipB_mx,isZ,opZip,zeroP,opAppendZ,opMakeMap,opLookup,mboxB,opUpdate,↓reduceIte,Nat.reduceSub,Nat.reduceEqDiff,Nat.reduceAdd,Nat.reduceMul,Nat.reduceLT,Nat.reduceLeDiff,Int.reduceToNat,Int.reduceLE,Int.reduceLT,Int.reduceNeg,reduceCtorEq,gos,Int.reduceAdd,Int.reduceSub,Int.reduceMul,Int.reduceEq,cj])
      refine ⟨cj,fgt_cons n1 (by simp -dsimp only [simx,zzC,zzB,tys,ite_self,opnL,notIn_cons,notIn_nil] <;> simp [refsP,mem_refs_rowP]) (by repeat (first|exact nv2|refine noVar_row ?_|refine noVar_rowH ?_)) fgt_nil,?_,?_⟩
      · rw [t1]; simp
      · funext c
        simp (maxSteps:=20000000) only [Heap.drop_at,rowH_app,Heap.put_at,Heap.none_at,List.mem_cons,List.not_mem_nil,or_false]
        by_cases e0:c=(5,3)::base
        · subst e0; simp [t1,m1,m2]
        by_cases e1:c=(5,4)::base
        · subst e1; simp [t1,m1,m2]
        simp [e0,e1,t1,m1,m2]
    · obtain rfl:n=j:=by omega
      repeat (first|refine X_opc rfl ?_|refine X_dopc rfl ?_|refine ⟨(by show drawK _ _=true; kernel_rfl:drawX _ _ _),?_⟩|exact (by show drawK _ _=true; kernel_rfl:drawX _ _ _)|simp -dsimp (maxSteps:=20000000) (disch:=omega) only [simx,zzC,zzB,tys,ite_self,opnL,callB,callX,readsB,stepOp,nilCmp,ofVal,opBuiltin,opLen,PV.sk,scalBin,scalUn,intBin,opLoad,natOf,opConvert,opField,cellsP,oneP,Value.oneCell',opStore,toIV,scalT,scalA,scalC,boxesA,boxesC,zipB_none,zipB_mx,isZ,opZip,zeroP,opAppendZ,opMakeMap,opLookup,mboxB,opUpdate,↓reduceIte,Nat.reduceSub,Nat.reduceEqDiff,Nat.reduceAdd,Nat.reduceMul,Nat.reduceLT,Nat.reduceLeDiff,Int.reduceToNat,Int.reduceLE,Int.reduceLT,Int.reduceNeg,reduceCtorEq,zzR,gos,Int.reduceAdd,Int.reduceSub,Int.reduceMul,Int.reduceEq])
def cutR (l:List Int) (each many:Nat):List (List Int):=(List.range many).map fun j => (l.drop (j * each)).take each
theorem cutR_next (l:List Int) (each j:Nat):cutR l each (j + 1)=cutR l each j ++ [(l.drop (j * each)).take each]:=by
  unfold cutR; rw [List.range_succ,List.map_append]; rfl
theorem cutR_len (l:List Int) (each many:Nat):(cutR l each many).length=many:=by simp [cutR]
abbrev lrow (u:List Int):IV:=.l u.length (u.map iu)
set_option maxHeartbeats 4000000 in
theorem rows13_walk {h:Heap} {base b:Name} {m many each:Nat} {l:List Int} (hb:h b=some (.var [.i (.l m (l.map iu))])) (hx:l.length=m) (hn:many * each ≤ m) (hm:m ≤ 65536) (hmany:many ≤ 64) (n1:h ((4,5)::base)=none) (n2:h ((4,6)::base)=none) (nv:noVar ((4,5)::base) h) (hne:b ≠ (4,5)::base) (hne2:b ≠ (4,6)::base) :
    CallR Try.prog base 96 [.ref b 0 1,i64 many,i64 each] h (rowP ((4,6)::base) 1 many ((cutR l each many).map lrow)) (rowH (h.put b (.var [.i (.l (m - many * each) ((l.drop (many * each)).map iu))])) ((4,6)::base) many ((cutR l each many).map lrow)):=by
  refine X_startR (n:=20) (m:=3) (rs:=[.tmp 6]) Try.func96 rfl rfl rfl rfl (by decide) ?_
  repeat (first|refine X_opc rfl ?_|refine X_dopc rfl ?_|refine ⟨(by show drawK _ _=true; kernel_rfl:drawX _ _ _),?_⟩|exact (by show drawK _ _=true; kernel_rfl:drawX _ _ _)|simp -dsimp (maxSteps:=20000000) (disch:=omega) only [simx,zzC,zzB,tys,ite_self,opnL,callB,callX,readsB,stepOp,nilCmp,ofVal,opBuiltin,opLen,PV.sk,scalBin,scalUn,intBin,opLoad,natOf,opConvert,opField,cellsP,oneP,Value.oneCell',opStore,toIV,scalT,scalA,scalC,boxesA,boxesC,zipB_none,zipB_mx,isZ,opZip,zeroP,opAppendZ,opMakeMap,opLookup,mboxB,opUpdate,↓reduceIte,Nat.reduceSub,Nat.reduceEqDiff,Nat.reduceAdd,Nat.reduceMul,Nat.reduceLT,Nat.reduceLeDiff,Int.reduceToNat,Int.reduceLE,Int.reduceLT,Int.reduceNeg,reduceCtorEq,gos,Int.reduceAdd,Int.reduceSub,Int.reduceMul,Int.reduceEq])
  refine X_loopH [0,2,7,8,9] [(4,5)::base] (0) (many) (fun j => True) (fun j => [(7,rowP ((4,6)::base) 1 j ((cutR l each j).map lrow)),(9,i64 j)]) (fun j => rowH (h.put b (.var [.i (.l (m - j * each) ((l.drop (j * each)).map iu))])) ((4,6)::base) j ((cutR l each j).map lrow)) ?_ ?_ ?_ ?_ ?_ (by decide) ?_
  · exact fgt_cons n1 (by simp -dsimp only [simx,zzC,zzB,tys,ite_self,opnL,notIn_cons,notIn_nil] <;> simp [refsP,mem_refs_rowP,Ne.symm hne]) nv fgt_nil
  · ((simp -dsimp (disch:=omega) only [simx,zzB,tys,ite_self,opnL,callB,callX,readsB,stepOp,nilCmp,ofVal,opBuiltin,opLen,PV.sk,scalBin,scalUn,intBin,opLoad,natOf,opConvert,opField,cellsP,oneP,Value.oneCell',opStore,toIV,scalT,scalA,scalC,boxesA,boxesC,zipB_none,zipB_mx,isZ,opZip,zeroP,opAppendZ,opMakeMap,opLookup,mboxB,opUpdate,↓reduceIte,Nat.reduceSub,Nat.reduceEqDiff,Nat.reduceAdd,Nat.reduceMul,Nat.reduceLT,Nat.reduceLeDiff,Int.reduceToNat,Int.reduceLE,Int.reduceLT,Int.reduceNeg,reduceCtorEq,gos,Int.reduceAdd,Int.reduceSub,Int.reduceMul,Int.reduceEq]) <;> first|rfl|simp [rowP])
  · funext c
    rw [Heap.drop_at,rowH_zero]
    split
    · rename_i e
      rw [List.mem_singleton.1 e,Heap.put_at,if_neg (Ne.symm hne)]; exact n1.symm
    · rw [Heap.put_at]
      split
      · rename_i e; rw [e,hb]; simp
      · rfl
  · omega
  · trivial
  · intro j hj _
    by_cases cj:j < many
    · have jb:j * each + each ≤ many * each:=by have:=Nat.mul_le_mul_right each (show j + 1 ≤ many by omega); rw [Nat.succ_mul] at this; exact this
      have sm:(j + 1) * each=j * each + each:=Nat.succ_mul j each
      have cn:=cutR_next l each j
      have cl':=cutR_len l each j
      have dl:(l.drop (j * each)).length=m - j * each:=by rw [List.length_drop]; omega
      have tl:((l.drop (j * each)).take each).length=each:=by rw [List.length_take]; omega
      have dd:(l.drop (j * each)).drop each=l.drop ((j + 1) * each):=by rw [List.drop_drop,sm]
      have sub:m - j * each - each=m - (j + 1) * each:=by omega
      have q:=fun (bs:Name) (h2:Heap) (hb2:h2 b=some (.var [.i (.l (m - j * each) ((l.drop (j * each)).map iu))])) => next_walk (base:=bs) (n:=each) hb2 (by rw [List.length_map]; exact dl) (by omega) (by omega)
      rw [← List.map_take,← List.map_drop,dd,sub] at q
      have cw:=clone13_walk (l:=(l.drop (j * each)).take each) (by omega)
      rw [show lu ((l.drop (j * each)).take each)=.i (.l each (((l.drop (j * each)).take each).map iu)) by rw [lu,tl]] at cw
      have lr:lrow ((l.drop (j * each)).take each)=.l each (((l.drop (j * each)).take each).map iu):=by rw [lrow,tl]
      generalize (l.drop (j * each)).take each=X at *
      generalize hY:(l.drop ((j + 1) * each)).map iu=Y at *
      generalize (l.drop (j * each)).map iu=Z at *
      generalize hm2:m - (j + 1) * each=m2 at *
      generalize m - j * each=m1 at *
      have nb:rowH (h.put b (.var [.i (.l m1 Z)])) ((4,6)::base) j ((cutR l each j).map lrow) b=some (.var [.i (.l m1 Z)]):=by rw [rowH_ne _ _ _ hne2,Heap.put_at,if_pos rfl]
      repeat (first|refine X_opc rfl ?_|refine X_dopc rfl ?_|refine ⟨(by show drawK _ _=true; kernel_rfl:drawX _ _ _),?_⟩|exact (by show drawK _ _=true; kernel_rfl:drawX _ _ _)|simp -dsimp (maxSteps:=20000000) (disch:=omega) only [simx,zzC,zzB,tys,ite_self,opnL,callB,callX,readsB,stepOp,nilCmp,ofVal,opBuiltin,opLen,PV.sk,scalBin,scalUn,intBin,opLoad,natOf,opConvert,opField,cellsP,oneP,Value.oneCell',opStore,toIV,scalT,scalA,scalC,boxesA,boxesC,zipB_none,zipB_mx,isZ,opZip,zeroP,opAppendZ,opMakeMap,opLookup,mboxB,opUpdate,↓reduceIte,Nat.reduceSub,Nat.reduceEqDiff,Nat.reduceAdd,Nat.reduceMul,Nat.reduceLT,Nat.reduceLeDiff,Int.reduceToNat,Int.reduceLE,Int.reduceLT,Int.reduceNeg,reduceCtorEq,gos,Int.reduceAdd,Int.reduceSub,Int.reduceMul,Int.reduceEq,cj])
      refine X_call_sh rfl (by simp only [tys]) rfl (q _ _ nb) ?_
      have hs1:¬ (4,5)::base=b:=fun e => hne e.symm
      repeat (first|((first|refine X_call_fn2 rfl (by simp only [tys]) ?_|refine X_dcall_fn2 rfl (by simp only [tys]) ?_); apply Exists.intro; apply And.intro; (focus (simp -dsimp only [simx,zzC,zzB,tys,ite_self,opnL,callB,callX,readsB,stepOp,nilCmp,ofVal,opBuiltin,opLen,PV.sk,scalBin,scalUn,intBin,opLoad,natOf,opConvert,opField,cellsP,oneP,Value.oneCell',opStore,toIV,scalT,scalA,scalC,boxesA,boxesC,zipB_none,zipB_mx,isZ,opZip,zeroP,opAppendZ,opMakeMap,opLookup,mboxB,opUpdate,↓reduceIte,Nat.reduceSub,Nat.reduceEqDiff,Nat.reduceAdd,Nat.reduceMul,Nat.reduceLT,Nat.reduceLeDiff,Int.reduceToNat,Int.reduceLE,Int.reduceLT,Int.reduceNeg,reduceCtorEq,zzL,if_true,if_false] <;> rfl)); apply Exists.intro; apply And.intro; (focus (first|exact cw)))|refine X_opc rfl ?_|refine X_dopc rfl ?_|refine ⟨(by show drawK _ _=true; kernel_rfl:drawX _ _ _),?_⟩|exact (by show drawK _ _=true; kernel_rfl:drawX _ _ _)|simp -dsimp (maxSteps:=20000000) (disch:=omega) only [simx,zzC,zzB,tys,ite_self,opnL,callB,callX,readsB,stepOp,nilCmp,ofVal,opBuiltin,opLen,PV.sk,scalBin,scalUn,intBin,opLoad,natOf,opConvert,opField,cellsP,oneP,Value.oneCell',opStore,toIV,scalT,scalA,scalC,boxesA,boxesC,zipB_none,zipB_mx,isZ,opZip,zeroP,opAppendZ,opMakeMap,opLookup,mboxB,opUpdate,↓reduceIte,Nat.reduceSub,Nat.reduceEqDiff,Nat.reduceAdd,Nat.reduceMul,Nat.reduceLT,Nat.reduceLeDiff,Int.reduceToNat,Int.reduceLE,Int.reduceLT,Int.reduceNeg,reduceCtorEq,gos,Int.reduceAdd,Int.reduceSub,Int.reduceMul,Int.reduceEq,n1,hs1])
      refine X_append_one 23 [.slice none 0 0] [IV.l each (X.map iu)] (by simp only [tys]) (by simp only [tys]) rfl (by decide) (by rw [List.length_map,cl',Nat.mul_one]) (by simp [Heap.put_at,rowH_app,n2,Ne.symm hne2]) (by simp [Heap.put_at]; rfl) rfl (by simp only [tys]; omega) (by rw [mx_len]; omega) ?_
      repeat (first|refine X_opc rfl ?_|refine X_dopc rfl ?_|refine ⟨(by show drawK _ _=true; kernel_rfl:drawX _ _ _),?_⟩|exact (by show drawK _ _=true; kernel_rfl:drawX _ _ _)|simp -dsimp (maxSteps:=20000000) (disch:=omega) only [simx,zzC,zzB,tys,ite_self,opnL,callB,callX,readsB,stepOp,nilCmp,ofVal,opBuiltin,opLen,PV.sk,scalBin,scalUn,intBin,opLoad,natOf,opConvert,opField,cellsP,oneP,Value.oneCell',opStore,toIV,scalT,scalA,scalC,boxesA,boxesC,zipB_none,zipB_mx,isZ,opZip,zeroP,opAppendZ,opMakeMap,opLookup,mboxB,opUpdate,↓reduceIte,Nat.reduceSub,Nat.reduceEqDiff,Nat.reduceAdd,Nat.reduceMul,Nat.reduceLT,Nat.reduceLeDiff,Int.reduceToNat,Int.reduceLE,Int.reduceLT,Int.reduceNeg,reduceCtorEq,gos,Int.reduceAdd,Int.reduceSub,Int.reduceMul,Int.reduceEq,cj])
      refine ⟨cj,fgt_cons n1 (by simp -dsimp only [simx,zzC,zzB,tys,ite_self,opnL,notIn_cons,notIn_nil] <;> simp [refsP,mem_refs_rowP,Ne.symm hne]) (by repeat (first|exact nv|refine noVar_row ?_|refine noVar_rowH ?_|refine noVar_var ?_ (by simp [refsL,refsP]))) fgt_nil,?_,?_⟩
      · rw [cn,List.map_append,← lr]; simp
      · rw [cn,List.map_append]
        simp only [List.map_cons,List.map_nil,lr]
        rw [hm2,hY]
        funext c
        simp only [Heap.drop_at,rowH_app,Heap.put_at,List.mem_cons,List.not_mem_nil,or_false]
        by_cases e0:c=(4,5)::base
        · subst e0; simp [Ne.symm hne,n1]
        by_cases e1:c=(4,6)::base
        · subst e1; simp
        by_cases e2:c=b
        · subst e2; simp [e0,e1]
        simp [e0,e1,e2]
    · obtain rfl:many=j:=by omega
      repeat (first|refine X_opc rfl ?_|refine X_dopc rfl ?_|refine ⟨(by show drawK _ _=true; kernel_rfl:drawX _ _ _),?_⟩|exact (by show drawK _ _=true; kernel_rfl:drawX _ _ _)|simp -dsimp (maxSteps:=20000000) (disch:=omega) only [simx,zzC,zzB,tys,ite_self,opnL,callB,callX,readsB,stepOp,nilCmp,ofVal,opBuiltin,opLen,PV.sk,scalBin,scalUn,intBin,opLoad,natOf,opConvert,opField,cellsP,oneP,Value.oneCell',opStore,toIV,scalT,scalA,scalC,boxesA,boxesC,zipB_none,zipB_mx,isZ,opZip,zeroP,opAppendZ,opMakeMap,opLookup,mboxB,opUpdate,↓reduceIte,Nat.reduceSub,Nat.reduceEqDiff,Nat.reduceAdd,Nat.reduceMul,Nat.reduceLT,Nat.reduceLeDiff,Int.reduceToNat,Int.reduceLE,Int.reduceLT,Int.reduceNeg,reduceCtorEq,zzR,gos,Int.reduceAdd,Int.reduceSub,Int.reduceMul,Int.reduceEq])
def ofC (l:List Int) (r R C:Nat):CupT:=(wrapL (l.take r),wrapL ((l.drop r).take r),cutR (l.drop (2 * r)) r R,cutR (l.drop (2 * r + R * r)) C r)
end Go.Proofs.Ytmalpmnmknpphaa.TM
namespace Go.Proofs.Ytmalpmnmknpphaa.TM
open Go Go.RowKit
attribute [local irreducible] K W WOps Effs Xg Xo Xr Xdg Xdo Xdr Xif CallsP CallR
def dtN (p:Int) (c:CupT):Nat → Int
  | 0 => 1
  | j + 1 => dtN p c j * (c.2.2.2.getD j []).getD (c.2.1.getD j 0).toNat 0 % p
theorem dtN_in {p:Int} (hp:Md p) (c:CupT):∀ j,In p (dtN p c j)
  | 0 => ⟨by show (0:Int) ≤ 1; decide,by have:=hp.1; show (1:Int) < p; omega⟩
  | j + 1 => in_emod hp _
theorem dtN_eq (p:Int) (c:CupT):∀ j,dtN p c j % p=prodN j (fun k => uuC c k (cwC c k)) % p
  | 0 => rfl
  | j + 1 => by rw [dtN,em_refl,prodN]; exact em_mul (dtN_eq p c j) rfl
theorem cols_ord {P R:Nat} {A:Mx} {c:CupT} (h1:1 ≤ R) (h2:R ≤ 64) (hw:CupW P R R c) (H:CpC P R R A c) (hr:c.1.length=R):orderB c.2.1=true ∧ sgnR c.2.1=sgnI (fun k => (cwC c k:Int)) R:=by
  have e:c.2.1=tbl R (fun k => (cwC c k:Int)):=by
    rw [← hr]
    refine (tbl_of hw.ql).trans (tbl_congr fun k hk => ?_)
    have:=hw.qb _ (getD_mm (l:=c.2.1) (d:=0) (i:=k) (by rw [hw.ql]; exact hk))
    unfold cwC; omega
  have i1:InjN (fun k => (cwC c k:Int)) R:=fun i j hi hj he => H.cdis (by omega) (by omega) (by have:(cwC c i:Int)=cwC c j:=he; omega)
  have i2:InN (fun k => (cwC c k:Int)) R:=fun i hi => ⟨by show (0:Int) ≤ (cwC c i:Int); omega,by have:=H.clt i (by omega); show (cwC c i:Int) < R; omega⟩
  have o:=ord_tbl h1 h2 i1 i2
  rw [e]
  exact ⟨(orderB_iff _).2 o,sgn_tbl o⟩
end Go.Proofs.Ytmalpmnmknpphaa.TM
namespace Go.Proofs.Ytmalpmnmknpphaa.TM
open Go Go.RowKit
section
variable {P R C:Nat} {l b:List Int}
theorem CpC.rle_c {A:Mx} {c:CupT} (H:CpC P R C A c):c.1.length ≤ C :=
  pigeon C c.1.length (cwC c) (fun i hi => H.clt i hi) (fun i j hij hj he => by have:=H.cdis (by omega) hj he; omega)
end
end Go.Proofs.Ytmalpmnmknpphaa.TM
namespace Go.Proofs.Ytmalpmnmknpphaa.TM
open Go Go.RowKit
theorem apX_cong {p:Int} {C:Nat} {A B:Mx} {x:Nat → Int} {i:Nat} (h:∀ j,j < C → A i j % p=B i j % p):apX C A x i % p=apX C B x i % p:=sumN_mod fun j hj => em_mul (h j hj) rfl
theorem apX_id {C:Nat} {x:Nat → Int} {i:Nat} (hi:i < C):apX C idX x i=x i:=by
  unfold apX
  rw [← sumN_one x hi]
  refine sumN_congr fun j _ => ?_
  unfold idX
  by_cases e:j=i
  · rw [if_pos e,if_pos e,Int.one_mul]
  · rw [if_neg e,if_neg e,Int.zero_mul]
def InvX (P R:Nat) (A U:Mx):Prop:=∀ i j,i < R → j < R → mulX R A U i j % P=idX i j % P
def InjX (P R:Nat) (A:Mx):Prop:=∀ x:Nat → Int,(∀ i,i < R → apX R A x i % P=0) → ∀ j,j < R → x j % P=0
section
variable {P R:Nat} {A B U V:Mx}
theorem InvX.ap (h:InvX P R A U) (x:Nat → Int) {i:Nat} (hi:i < R):apX R A (apX R U x) i % P=x i % P:=by
  rw [← apX_mul,apX_cong (B:=idX) (fun j hj => h i j hi hj),apX_id hi]
theorem InvX.left (h:InvX P R A U) (hI:InjX P R A):InvX P R U A:=fun k j hk hj => by
  refine emod_sub0.2 (hI (fun k => mulX R U A k j - idX k j) (fun i hi => ?_) k hk)
  rw [apX_sub]
  refine emod_sub0.1 ?_
  have h1:apX R A (fun j_1 => mulX R U A j_1 j) i % P=A i j % P:=h.ap (fun m => A m j) hi
  rw [h1]
  have h2:apX R A (fun m => idX m j) i=A i j:=by
    unfold apX
    rw [← sumN_one (fun m => A i m) hj]
    refine sumN_congr fun m _ => ?_
    show A i m * (if j=m then 1 else 0)=if m=j then A i m else 0
    by_cases e:m=j
    · rw [if_pos e.symm,if_pos e,Int.mul_one]
    · rw [if_neg (fun h => e h.symm),if_neg e,Int.mul_zero]
  rw [h2]
theorem InvX.mul (h:InvX P R A U) (k:InvX P R B V):InvX P R (mulX R A B) (mulX R V U):=fun i j hi hj => by
  have e:mulX R (mulX R A B) (mulX R V U) i j=apX R A (apX R B (apX R V (fun k => U k j))) i:=by
    show apX R (mulX R A B) (apX R V (fun k => U k j)) i=_
    rw [apX_mul]
  rw [e]
  exact (apX_mod (fun m hm => k.ap (fun k => U k j) hm) i).trans (h i j hi hj)
theorem InvX.cong {A' U':Mx} (h:InvX P R A U) (ha:∀ i j,i < R → j < R → A' i j % P=A i j % P) (hu:∀ i j,i < R → j < R → U' i j % P=U i j % P):InvX P R A' U':=fun i j hi hj => by
  rw [← h i j hi hj]
  exact sumN_mod fun k hk => em_mul (ha i k hi hk) (hu k j hk hj)
theorem InvX.lp (hP:Prm P) (hp:Md P) (h:InvX P R A U):Lp R A * Lp R U % P=1:=by
  rw [← Lp_mulX hP hp,Lp_mod R h,Lp_id]
  exact Int.emod_eq_of_lt (by decide) (by have:=hp.1; omega)
end
section
variable {P R:Nat} {l:List Int}
end
end Go.Proofs.Ytmalpmnmknpphaa.TM
namespace Go.Proofs.Ytmalpmnmknpphaa.TM
open Go Go.RowKit
theorem has_in13 {P:Nat} (hp:Md P) {x:List Int} (h:∀ a ∈ x,In P a):HasB P x=true:=(has_iff _ _).2 ⟨fun a ha => (h a ha).2,hp.1,hp.2⟩
def mkA (c:CupT):Mx:=fun i j => sumN c.1.length (fun k => ccC c i k * uuC c k j)
section
variable {P R C:Nat} {c:CupT}
theorem cup_has {A:Mx} (hP:Prm P) (hp:Md P) (hR:1 ≤ R ∧ R ≤ 64) (hC:1 ≤ C ∧ C ≤ 64) (W:CupW P R C c) (H:CpC P R C A c):hasP P R C c:=by
  have rk:=H.rle
  have ck:c.1.length ≤ C:=CpC.rle_c H
  have rq:∀ k,k < c.1.length → c.1.getD k 0=((rwC c k:Nat):Int):=fun k hk => by
    have:=W.rb _ (getD_mm (l:=c.1) (d:=0) hk)
    unfold rwC; omega
  have cq:∀ k,k < c.1.length → c.2.1.getD k 0=((cwC c k:Nat):Int):=fun k hk => by
    have:=W.qb _ (getD_mm (l:=c.2.1) (d:=0) (i:=k) (by rw [W.ql]; exact hk))
    unfold cwC; omega
  have uin:∀ k j,k < c.1.length → j < C → In P (uuC c k j):=fun k j hk hj => by
    obtain ⟨a,b⟩:=W.ur (c.2.2.2.getD k []) (getD_mm (by have:=W.ul; omega))
    exact getD_of b (by omega)
  have cin:∀ i k,i < R → k < c.1.length → In P (ccC c i k):=fun i k hi hk => by
    obtain ⟨a,b⟩:=W.cr (c.2.2.1.getD i []) (getD_mm (by have:=W.cl; omega))
    exact getD_of b (by omega)
  have one:(1:Int) % P=1:=Int.emod_eq_of_lt (by decide) (by have:=hp.1; omega)
  refine ⟨by omega,by omega,⟨fun j hj => ?_,fun j hj => ?_,W.ql.symm,by omega,by omega⟩,⟨by have:=W.ul; omega,fun u hu => by have:=(W.ur u hu).1; omega⟩,⟨by have:=W.cl; omega,fun u hu => by have:=(W.cr u hu).1; omega⟩,?_,?_,fun k hk => ⟨?_,?_⟩⟩
  · have h1:=H.rlt j hj
    refine ⟨?_,by rw [rq j hj]; omega⟩
    cases j with
    | zero => rw [show lastV c.1 0=-1 from rfl,rq 0 hj]; omega
    | succ j =>
      have h2:=H.rinc j (j + 1) (by omega) hj
      rw [show lastV c.1 (j + 1)=c.1.getD j 0 from rfl,rq (j + 1) hj,rq j (by omega)]
      omega
  · have hj':j < c.1.length:=by rw [← W.ql]; exact hj
    have h1:=H.clt j hj'
    refine ⟨by rw [cq j hj']; omega,by rw [cq j hj']; omega,fun hm => ?_⟩
    obtain ⟨i,hi,e⟩:=List.mem_take_iff_getElem.1 hm
    have e2:c.2.1.getD i 0=c.2.1.getD j 0:=by
      rw [← e,List.getD_eq_getElem?_getD,List.getElem?_eq_getElem (show i < c.2.1.length by omega)]; rfl
    rw [cq i (by omega),cq j hj'] at e2
    have:=H.cdis (j:=i) (k:=j) (by omega) hj' (by omega)
    omega
  · exact has_in13 hp fun a ha => by
      obtain ⟨u,hu,ha⟩:=List.mem_flatten.1 ha
      exact (W.ur u hu).2 a ha
  · exact has_in13 hp fun a ha => by
      obtain ⟨u,hu,ha⟩:=List.mem_flatten.1 ha
      exact (W.cr u hu).2 a ha
  · unfold restB
    have ul:=(W.ur (c.2.2.2.getD k []) (getD_mm (by have:=W.ul; omega))).1
    have hck:=H.clt k hk
    simp only [Bool.and_eq_true,Bool.not_eq_true',decide_eq_false_iff_not]
    refine ⟨(zerB_iff _).2 fun j hj => ?_,(badC_iff _ _ _).2 fun a ha => ?_,W.nz k hk⟩
    · rw [List.length_take] at hj
      rw [List.getD_eq_getElem?_getD,List.getElem?_take,if_pos (by omega),← List.getD_eq_getElem?_getD]
      have h1:=H.uh k hk j (by unfold cwC; omega)
      rwa [in_mod (uin k j hk (by unfold cwC at hck; omega))] at h1
    · obtain ⟨i,hi,e⟩:=List.mem_take_iff_getElem.1 ha
      have e2:a=c.2.1.getD i 0:=by
        rw [← e,List.getD_eq_getElem?_getD,List.getElem?_eq_getElem (show i < c.2.1.length by omega)]; rfl
      have h1:=H.uz i k (by omega) hk
      rw [in_mod (uin k _ hk (H.clt i (by omega)))] at h1
      rw [e2]; exact h1
  · refine partB_iff.2 ⟨fun q hq => ?_,?_⟩
    · have h1:=H.cz k hk q hq
      rwa [in_mod (cin q k (by have:=H.rlt k hk; unfold rwC at this; omega) hk)] at h1
    · have h1:=H.c1 k hk
      rwa [in_mod (cin _ k (H.rlt k hk) hk)] at h1
end
section
variable {P R C:Nat} {c:CupT}
end
end Go.Proofs.Ytmalpmnmknpphaa.TM
namespace Go.Proofs.Ytmalpmnmknpphaa.TM
open Go Go.RowKit
attribute [local irreducible] K W WOps Effs Xg Xo Xr Xdg Xdo Xdr Xif CallsP CallR
set_option maxHeartbeats 4000000 in
theorem det13_of {P R:Nat} {c:CupT} (hP:Prm P) (hp:Md P) (r1:1 ≤ R) (r2:R ≤ 64) (hw:CupW P R R c) (H:CpC P R R (mkA c) c) (hh:CallsP Try.prog 39 [u64 P,cupQ c,i64 R,i64 R] (bl true)) :
    CallsP Try.prog 49 [u64 P,cupQ c,i64 R] (.tup [u64 (Lp R (mkA c) % P),i64 0]):=by
  have hl:=H.lp
  have co:=fun h => cols_ord r1 r2 hw H h
  rw [hl]
  unfold pdX
  clear hl H
  have di:=dtN_in hp c
  have de:=dtN_eq P c R
  generalize hG:prodN R (fun k => uuC c k (cwC c k))=G at de ⊢
  generalize hS:sgnI (fun k => (cwC c k:Int)) R=S at co ⊢
  have s1:S=1 ∨ S=-1:=by rw [← hS]; exact sgnI_one _ _
  clear hG hS
  obtain ⟨rw0,cw,cc,uu⟩:=c
  have rle:=hw.rle
  have ul:=hw.ul
  have ql:=hw.ql
  simp only at rle ul ql co ⊢
  by_cases hr:rw0.length=R
  case neg =>
    rw [if_neg hr,Int.zero_emod]
    have h1:(rw0.length:Int) < R:=by omega
    refine X_startP (n:=62) (m:=3) (rs:=[.tmp 6,.tmp 7]) Try.func49 rfl rfl rfl rfl (by decide) fun base => ?_
    repeat (first|((first|refine X_call_fn2 rfl (by simp only [tys]) ?_|refine X_dcall_fn2 rfl (by simp only [tys]) ?_); apply Exists.intro; apply And.intro; (focus (simp -dsimp only [simx,zzC,zzB,tys,ite_self,opnL,callB,callX,readsB,stepOp,nilCmp,ofVal,opBuiltin,opLen,PV.sk,scalBin,scalUn,intBin,opLoad,natOf,opConvert,opField,cellsP,oneP,Value.oneCell',opStore,toIV,scalT,scalA,scalC,boxesA,boxesC,zipB_none,zipB_mx,isZ,opZip,zeroP,opAppendZ,opMakeMap,opLookup,mboxB,opUpdate,↓reduceIte,Nat.reduceSub,Nat.reduceEqDiff,Nat.reduceAdd,Nat.reduceMul,Nat.reduceLT,Nat.reduceLeDiff,Int.reduceToNat,Int.reduceLE,Int.reduceLT,Int.reduceNeg,reduceCtorEq,zzL,if_true,if_false] <;> rfl)); apply Exists.intro; apply And.intro; (focus (first|exact hh)))|refine X_opc rfl ?_|refine X_dopc rfl ?_|refine ⟨(by show drawK _ _=true; kernel_rfl:drawX _ _ _),?_⟩|exact (by show drawK _ _=true; kernel_rfl:drawX _ _ _)|simp -dsimp (maxSteps:=20000000) (disch:=omega) only [simx,zzC,zzB,tys,ite_self,opnL,callB,callX,readsB,stepOp,nilCmp,ofVal,opBuiltin,opLen,PV.sk,scalBin,scalUn,intBin,opLoad,natOf,opConvert,opField,cellsP,oneP,Value.oneCell',opStore,toIV,scalT,scalA,scalC,boxesA,boxesC,zipB_none,zipB_mx,isZ,opZip,zeroP,opAppendZ,opMakeMap,opLookup,mboxB,opUpdate,↓reduceIte,Nat.reduceSub,Nat.reduceEqDiff,Nat.reduceAdd,Nat.reduceMul,Nat.reduceLT,Nat.reduceLeDiff,Int.reduceToNat,Int.reduceLE,Int.reduceLT,Int.reduceNeg,reduceCtorEq,zzR,gos,Int.reduceAdd,Int.reduceSub,Int.reduceMul,Int.reduceEq,SK.len,h1])
  rw [if_pos hr]
  obtain ⟨o1,o2⟩:=co hr
  have h1:¬ (rw0.length:Int) < R:=by omega
  have q2:=sign_walk cw (by rw [ql,mx_len]; omega)
  unfold signR at q2
  rw [if_pos o1,o2] at q2
  have q3:=Sub_in hp ⟨Int.le_refl 0,by have:=hp.1; omega⟩ (di R)
  have e3:(0 - dtN P (rw0,cw,cc,uu) R) % P=G * -1 % P:=by
    rw [em_sub (rfl:(0:Int) % P=0 % P) de]
    congr 1
    omega
  have e2:dtN P (rw0,cw,cc,uu) R=G * 1 % P:=by
    rw [Int.mul_one,← de,in_mod (di R)]
  rw [e3] at q3
  have ur:uu.length=R:=by omega
  refine X_startP (n:=62) (m:=3) (rs:=[.tmp 6,.tmp 7]) Try.func49 rfl rfl rfl rfl (by decide) fun base => ?_
  repeat (first|((first|refine X_call_fn2 rfl (by simp only [tys]) ?_|refine X_dcall_fn2 rfl (by simp only [tys]) ?_); apply Exists.intro; apply And.intro; (focus (simp -dsimp only [simx,zzC,zzB,tys,ite_self,opnL,callB,callX,readsB,stepOp,nilCmp,ofVal,opBuiltin,opLen,PV.sk,scalBin,scalUn,intBin,opLoad,natOf,opConvert,opField,cellsP,oneP,Value.oneCell',opStore,toIV,scalT,scalA,scalC,boxesA,boxesC,zipB_none,zipB_mx,isZ,opZip,zeroP,opAppendZ,opMakeMap,opLookup,mboxB,opUpdate,↓reduceIte,Nat.reduceSub,Nat.reduceEqDiff,Nat.reduceAdd,Nat.reduceMul,Nat.reduceLT,Nat.reduceLeDiff,Int.reduceToNat,Int.reduceLE,Int.reduceLT,Int.reduceNeg,reduceCtorEq,zzL,if_true,if_false] <;> rfl)); apply Exists.intro; apply And.intro; (focus (first|exact hh)))|refine X_opc rfl ?_|refine X_dopc rfl ?_|refine ⟨(by show drawK _ _=true; kernel_rfl:drawX _ _ _),?_⟩|exact (by show drawK _ _=true; kernel_rfl:drawX _ _ _)|simp -dsimp (maxSteps:=20000000) (disch:=omega) only [simx,zzC,zzB,tys,ite_self,opnL,callB,callX,readsB,stepOp,nilCmp,ofVal,opBuiltin,opLen,PV.sk,scalBin,scalUn,intBin,opLoad,natOf,opConvert,opField,cellsP,oneP,Value.oneCell',opStore,toIV,scalT,scalA,scalC,boxesA,boxesC,zipB_none,zipB_mx,isZ,opZip,zeroP,opAppendZ,opMakeMap,opLookup,mboxB,opUpdate,↓reduceIte,Nat.reduceSub,Nat.reduceEqDiff,Nat.reduceAdd,Nat.reduceMul,Nat.reduceLT,Nat.reduceLeDiff,Int.reduceToNat,Int.reduceLE,Int.reduceLT,Int.reduceNeg,reduceCtorEq,gos,Int.reduceAdd,Int.reduceSub,Int.reduceMul,Int.reduceEq,SK.len,h1,ur])
  refine X_loopH [0,4,8,25,26,27] [] (0) (R) (fun j => True) (fun j => [(8,u64 (dtN P (rw0,cw,cc,uu) j)),(27,i64 j)]) (fun j => Heap.none.put ((0,0)::base) (.var [li rw0,li cw,llP cc,llP uu])) ?_ ?_ ?_ ?_ ?_ (by decide) ?_
  · exact (fgt_nil)
  · ((simp -dsimp (disch:=omega) only [simx,zzB,tys,ite_self,opnL,callB,callX,readsB,stepOp,nilCmp,ofVal,opBuiltin,opLen,PV.sk,scalBin,scalUn,intBin,opLoad,natOf,opConvert,opField,cellsP,oneP,Value.oneCell',opStore,toIV,scalT,scalA,scalC,boxesA,boxesC,zipB_none,zipB_mx,isZ,opZip,zeroP,opAppendZ,opMakeMap,opLookup,mboxB,opUpdate,↓reduceIte,Nat.reduceSub,Nat.reduceEqDiff,Nat.reduceAdd,Nat.reduceMul,Nat.reduceLT,Nat.reduceLeDiff,Int.reduceToNat,Int.reduceLE,Int.reduceLT,Int.reduceNeg,reduceCtorEq,gos,Int.reduceAdd,Int.reduceSub,Int.reduceMul,Int.reduceEq]) <;> first|rfl|simp [dtN])
  · exact drop_nil _
  · omega
  · trivial
  · intro j hj _
    by_cases cj:j < R
    · have hq:=hw.qb (cw.getD j 0) (getD_mm (by simp only; omega))
      obtain ⟨q,hqe⟩:∃ q:Nat,cw.getD j 0=q:=⟨(cw.getD j 0).toNat,by omega⟩
      obtain ⟨u1,u2⟩:=hw.ur (uu.getD j []) (getD_mm (by simp only; omega))
      have qC:q < R:=by omega
      have g1:(uu.map fun u => IV.l u.length (u.map iu))[j]?=some (.l R ((uu.getD j []).map iu)):=by rw [List.getElem?_map,getD_at' (d:=[]) (by omega),Option.map_some,u1]
      have g2:(cw.map ii)[j]?=some (ii (q:Int)):=by rw [List.getElem?_map,getD_at' (d:=0) (by omega),Option.map_some,hqe]
      have g3:((uu.getD j []).map iu)[q]?=some (iu ((uu.getD j []).getD q 0)):=by rw [List.getElem?_map,getD_some u1 qC]; rfl
      have m1:=Mul_in hp (di j) (getD_of u2 (i:=q) (by omega))
      have dn:dtN P (rw0,cw,cc,uu) (j + 1)=dtN P (rw0,cw,cc,uu) j * (uu.getD j []).getD q 0 % P:=by
        rw [dtN]; simp only [hqe,Int.toNat_natCast]
      rw [← dn] at m1
      obtain ⟨D1,hD1⟩:∃ D,dtN P (rw0,cw,cc,uu) (j + 1)=D:=⟨_,rfl⟩
      rw [hD1] at m1
      clear dn e2 e3 q3 di de
      generalize dtN P (rw0,cw,cc,uu) j=D0 at m1 ⊢
      obtain ⟨U,hU⟩:∃ U,uu.getD j []=U:=⟨_,rfl⟩
      rw [hU] at g1 g3 m1
      generalize U.getD q 0=x at g3 m1
      have cj2:j < cw.length:=by omega
      repeat (first|((first|refine X_call_fn2 rfl (by simp only [tys]) ?_|refine X_dcall_fn2 rfl (by simp only [tys]) ?_); apply Exists.intro; apply And.intro; (focus (simp -dsimp only [simx,zzC,zzB,tys,ite_self,opnL,callB,callX,readsB,stepOp,nilCmp,ofVal,opBuiltin,opLen,PV.sk,scalBin,scalUn,intBin,opLoad,natOf,opConvert,opField,cellsP,oneP,Value.oneCell',opStore,toIV,scalT,scalA,scalC,boxesA,boxesC,zipB_none,zipB_mx,isZ,opZip,zeroP,opAppendZ,opMakeMap,opLookup,mboxB,opUpdate,↓reduceIte,Nat.reduceSub,Nat.reduceEqDiff,Nat.reduceAdd,Nat.reduceMul,Nat.reduceLT,Nat.reduceLeDiff,Int.reduceToNat,Int.reduceLE,Int.reduceLT,Int.reduceNeg,reduceCtorEq,zzL,if_true,if_false] <;> rfl)); apply Exists.intro; apply And.intro; (focus (first|exact m1)))|refine X_opc rfl ?_|refine X_dopc rfl ?_|refine ⟨(by show drawK _ _=true; kernel_rfl:drawX _ _ _),?_⟩|exact (by show drawK _ _=true; kernel_rfl:drawX _ _ _)|simp -dsimp (maxSteps:=20000000) (disch:=omega) only [simx,zzC,zzB,tys,ite_self,opnL,callB,callX,readsB,stepOp,nilCmp,ofVal,opBuiltin,opLen,PV.sk,scalBin,scalUn,intBin,opLoad,natOf,opConvert,opField,cellsP,oneP,Value.oneCell',opStore,toIV,scalT,scalA,scalC,boxesA,boxesC,zipB_none,zipB_mx,isZ,opZip,zeroP,opAppendZ,opMakeMap,opLookup,mboxB,opUpdate,↓reduceIte,Nat.reduceSub,Nat.reduceEqDiff,Nat.reduceAdd,Nat.reduceMul,Nat.reduceLT,Nat.reduceLeDiff,Int.reduceToNat,Int.reduceLE,Int.reduceLT,Int.reduceNeg,reduceCtorEq,gos,Int.reduceAdd,Int.reduceSub,Int.reduceMul,Int.reduceEq,cj,cj2,ur,g1,g2,g3,qC,hr,SK.len,List.length_map])
      refine ⟨cj,(fgt_nil),?_,drop_nil _⟩
      rw [hD1]
      exact ⟨rfl,rfl⟩
    · have ej:R=j:=by omega
      subst ej
      clear de di
      generalize dtN P (rw0,cw,cc,uu) R=D at e2 e3 q3 ⊢
      rcases s1 with rfl|rfl
      · subst e2
        repeat (first|((first|refine X_call_fn2 rfl (by simp only [tys]) ?_|refine X_dcall_fn2 rfl (by simp only [tys]) ?_); apply Exists.intro; apply And.intro; (focus (simp -dsimp only [simx,zzC,zzB,tys,ite_self,opnL,callB,callX,readsB,stepOp,nilCmp,ofVal,opBuiltin,opLen,PV.sk,scalBin,scalUn,intBin,opLoad,natOf,opConvert,opField,cellsP,oneP,Value.oneCell',opStore,toIV,scalT,scalA,scalC,boxesA,boxesC,zipB_none,zipB_mx,isZ,opZip,zeroP,opAppendZ,opMakeMap,opLookup,mboxB,opUpdate,↓reduceIte,Nat.reduceSub,Nat.reduceEqDiff,Nat.reduceAdd,Nat.reduceMul,Nat.reduceLT,Nat.reduceLeDiff,Int.reduceToNat,Int.reduceLE,Int.reduceLT,Int.reduceNeg,reduceCtorEq,zzL,if_true,if_false] <;> rfl)); apply Exists.intro; apply And.intro; (focus (first|exact q2)))|refine X_opc rfl ?_|refine X_dopc rfl ?_|refine ⟨(by show drawK _ _=true; kernel_rfl:drawX _ _ _),?_⟩|exact (by show drawK _ _=true; kernel_rfl:drawX _ _ _)|simp -dsimp (maxSteps:=20000000) (disch:=omega) only [simx,zzC,zzB,tys,ite_self,opnL,callB,callX,readsB,stepOp,nilCmp,ofVal,opBuiltin,opLen,PV.sk,scalBin,scalUn,intBin,opLoad,natOf,opConvert,opField,cellsP,oneP,Value.oneCell',opStore,toIV,scalT,scalA,scalC,boxesA,boxesC,zipB_none,zipB_mx,isZ,opZip,zeroP,opAppendZ,opMakeMap,opLookup,mboxB,opUpdate,↓reduceIte,Nat.reduceSub,Nat.reduceEqDiff,Nat.reduceAdd,Nat.reduceMul,Nat.reduceLT,Nat.reduceLeDiff,Int.reduceToNat,Int.reduceLE,Int.reduceLT,Int.reduceNeg,reduceCtorEq,zzR,gos,Int.reduceAdd,Int.reduceSub,Int.reduceMul,Int.reduceEq,SK.len])
      · repeat (first|((first|refine X_call_fn2 rfl (by simp only [tys]) ?_|refine X_dcall_fn2 rfl (by simp only [tys]) ?_); apply Exists.intro; apply And.intro; (focus (simp -dsimp only [simx,zzC,zzB,tys,ite_self,opnL,callB,callX,readsB,stepOp,nilCmp,ofVal,opBuiltin,opLen,PV.sk,scalBin,scalUn,intBin,opLoad,natOf,opConvert,opField,cellsP,oneP,Value.oneCell',opStore,toIV,scalT,scalA,scalC,boxesA,boxesC,zipB_none,zipB_mx,isZ,opZip,zeroP,opAppendZ,opMakeMap,opLookup,mboxB,opUpdate,↓reduceIte,Nat.reduceSub,Nat.reduceEqDiff,Nat.reduceAdd,Nat.reduceMul,Nat.reduceLT,Nat.reduceLeDiff,Int.reduceToNat,Int.reduceLE,Int.reduceLT,Int.reduceNeg,reduceCtorEq,zzL,if_true,if_false] <;> rfl)); apply Exists.intro; apply And.intro; (focus (first|exact q2|exact q3)))|refine X_opc rfl ?_|refine X_dopc rfl ?_|refine ⟨(by show drawK _ _=true; kernel_rfl:drawX _ _ _),?_⟩|exact (by show drawK _ _=true; kernel_rfl:drawX _ _ _)|simp -dsimp (maxSteps:=20000000) (disch:=omega) only [simx,zzC,zzB,tys,ite_self,opnL,callB,callX,readsB,stepOp,nilCmp,ofVal,opBuiltin,opLen,PV.sk,scalBin,scalUn,intBin,opLoad,natOf,opConvert,opField,cellsP,oneP,Value.oneCell',opStore,toIV,scalT,scalA,scalC,boxesA,boxesC,zipB_none,zipB_mx,isZ,opZip,zeroP,opAppendZ,opMakeMap,opLookup,mboxB,opUpdate,↓reduceIte,Nat.reduceSub,Nat.reduceEqDiff,Nat.reduceAdd,Nat.reduceMul,Nat.reduceLT,Nat.reduceLeDiff,Int.reduceToNat,Int.reduceLE,Int.reduceLT,Int.reduceNeg,reduceCtorEq,zzR,gos,Int.reduceAdd,Int.reduceSub,Int.reduceMul,Int.reduceEq,SK.len])
end Go.Proofs.Ytmalpmnmknpphaa.TM
namespace Go.Proofs.Ytmalpmnmknpphaa.TM
open Go Go.RowKit
attribute [local irreducible] K W WOps Effs Xg Xo Xr Xdg Xdo Xdr Xif CallsP CallR
def hdN (c:CupT) (j:Nat):Int:=if j=0 then c.1.length else IntKind.u64.wrap ((c.1 ++ c.2.1).getD (j - 1) 0)
def numL (c:CupT):List Int:=tbl ((c.1 ++ c.2.1).length + 1) (hdN c) ++ c.2.2.1.flatten ++ c.2.2.2.flatten
theorem concatI13_walk {a b:List Int} (ha:a.length ≤ 4096) (hb:b.length ≤ 4096):CallsP Try.prog 97 [.i (.l 2 [.l a.length (a.map ii),.l b.length (b.map ii)])] (li (a ++ b)):=by
  have h:=concatI_walk [a.map ii,b.map ii] (by simp) (by simp; omega)
  simpa [llL,ivN,li,List.map_append] using h
set_option maxHeartbeats 4000000 in
theorem numbers_walk {c:CupT} (h1:c.1.length ≤ 100) (h2:c.2.1.length ≤ 100) (h3:c.2.2.1.length ≤ 100) (h4:c.2.2.2.length ≤ 100) (h5:c.2.2.1.flatten.length ≤ 100000) (h6:c.2.2.2.flatten.length ≤ 100000):CallsP Try.prog 44 [cupQ c] (lu (numL c)):=by
  have q1:=concatI13_walk (a:=c.1) (b:=c.2.1) (by omega) (by omega)
  have q2:=concat13_walk (L:=c.2.2.1) (by omega) (by omega)
  have q3:=concat13_walk (L:=c.2.2.2) (by omega) (by omega)
  have q4:=concat13_walk (L:=[tbl ((c.1 ++ c.2.1).length + 1) (hdN c),c.2.2.1.flatten,c.2.2.2.flatten]) (by simp) (by
    simp only [List.flatten_cons,List.flatten_nil,List.length_append,List.append_nil,tbl_len]
    omega)
  rw [show [tbl ((c.1 ++ c.2.1).length + 1) (hdN c),c.2.2.1.flatten,c.2.2.2.flatten].flatten=numL c by unfold numL; simp] at q4
  have w0:IntKind.u64.wrap (c.1.length:Int)=c.1.length:=uw_of (by omega) (by omega)
  have f0:hdN c 0=c.1.length:=rfl
  have fk:∀ k,hdN c (k + 1)=IntKind.u64.wrap ((c.1 ++ c.2.1).getD k 0):=fun k => rfl
  have nl:(c.1 ++ c.2.1).length ≤ 200:=by rw [List.length_append]; omega
  generalize numL c=Z at q4 ⊢
  obtain ⟨F,hF⟩:∃ F,F=hdN c:=⟨_,rfl⟩
  rw [← hF] at q4 f0 fk
  clear hF h5 h6
  obtain ⟨rws,cls,cc,uu⟩:=c
  simp only at q1 q2 q3 q4 w0 f0 fk nl h1 h2 h3 h4 ⊢
  generalize rws ++ cls=X at q1 q4 fk nl
  generalize cc.flatten=cf at q2 q4
  generalize uu.flatten=uf at q3 q4
  have xj:∀ j,j < X.length → (X.map ii)[j]?=some (ii (X.getD j 0)):=fun j hj => by rw [List.getElem?_map,getD_some rfl hj]; rfl
  have t0:tbl 1 F=[(rws.length:Int)]:=by rw [tbl_succ,f0]; rfl
  refine X_startP (n:=37) (m:=1) (rs:=[.tmp 2]) Try.func44 rfl rfl rfl rfl (by decide) fun base => ?_
  repeat (first|((first|refine X_call_fn2 rfl (by simp only [tys]) ?_|refine X_dcall_fn2 rfl (by simp only [tys]) ?_); apply Exists.intro; apply And.intro; (focus (simp -dsimp only [simx,zzC,zzB,tys,ite_self,opnL,callB,callX,readsB,stepOp,nilCmp,ofVal,opBuiltin,opLen,PV.sk,scalBin,scalUn,intBin,opLoad,natOf,opConvert,opField,cellsP,oneP,Value.oneCell',opStore,toIV,scalT,scalA,scalC,boxesA,boxesC,zipB_none,zipB_mx,isZ,opZip,zeroP,opAppendZ,opMakeMap,opLookup,mboxB,opUpdate,↓reduceIte,Nat.reduceSub,Nat.reduceEqDiff,Nat.reduceAdd,Nat.reduceMul,Nat.reduceLT,Nat.reduceLeDiff,Int.reduceToNat,Int.reduceLE,Int.reduceLT,Int.reduceNeg,reduceCtorEq,zzL,if_true,if_false] <;> rfl)); apply Exists.intro; apply And.intro; (focus (first|exact q1)))|refine X_opc rfl ?_|refine X_dopc rfl ?_|refine ⟨(by show drawK _ _=true; kernel_rfl:drawX _ _ _),?_⟩|exact (by show drawK _ _=true; kernel_rfl:drawX _ _ _)|simp -dsimp (maxSteps:=20000000) (disch:=omega) only [simx,zzC,zzB,tys,ite_self,opnL,callB,callX,readsB,stepOp,nilCmp,ofVal,opBuiltin,opLen,PV.sk,scalBin,scalUn,intBin,opLoad,natOf,opConvert,opField,cellsP,oneP,Value.oneCell',opStore,toIV,scalT,scalA,scalC,boxesA,boxesC,zipB_none,zipB_mx,isZ,opZip,zeroP,opAppendZ,opMakeMap,opLookup,mboxB,opUpdate,↓reduceIte,Nat.reduceSub,Nat.reduceEqDiff,Nat.reduceAdd,Nat.reduceMul,Nat.reduceLT,Nat.reduceLeDiff,Int.reduceToNat,Int.reduceLE,Int.reduceLT,Int.reduceNeg,reduceCtorEq,gos,Int.reduceAdd,Int.reduceSub,Int.reduceMul,Int.reduceEq,w0,SK.len])
  refine X_loopH [1,3,16,17,18] [(2,4)::base,(5,3)::base] (0) (X.length) (fun j => True) (fun j => [(3,.view ((1,4)::base) 0 1 (j + 1) (j + 1)),(18,i64 j)]) (fun j => (Heap.none.put ((0,0)::base) (.var [li rws,li cls,llP cc,llP uu])).put ((1,4)::base) (.row false ((tbl (j + 1) F).map iu))) ?_ ?_ ?_ ?_ ?_ (by decide) ?_
  · exact (fgt_cons (by simp only [Heap.none_at]) (by (simp -dsimp only [zzB,tys,ite_self,opnL,callB,callX,readsB,stepOp,nilCmp,ofVal,opBuiltin,opLen,PV.sk,scalBin,scalUn,intBin,opLoad,natOf,opConvert,opField,cellsP,oneP,Value.oneCell',opStore,toIV,scalT,scalA,scalC,boxesA,boxesC,zipB_none,zipB_mx,isZ,opZip,zeroP,opAppendZ,opMakeMap,opLookup,mboxB,opUpdate,↓reduceIte,Nat.reduceSub,Nat.reduceEqDiff,Nat.reduceAdd,Nat.reduceMul,Nat.reduceLT,Nat.reduceLeDiff,Int.reduceToNat,Int.reduceLE,Int.reduceLT,Int.reduceNeg,reduceCtorEq,notIn_cons,notIn_nil]) <;> simp [refsL,refsP,mem_refs_rowP]) (by repeat (first|exact noVar_none _|refine noVar_row ?_|refine noVar_map ?_|refine noVar_rowH ?_|refine noVar_var ?_ (by simp [refsL,refsP,mem_refs_rowP]))) (fgt_cons (by simp only [Heap.none_at]) (by (simp -dsimp only [zzB,tys,ite_self,opnL,callB,callX,readsB,stepOp,nilCmp,ofVal,opBuiltin,opLen,PV.sk,scalBin,scalUn,intBin,opLoad,natOf,opConvert,opField,cellsP,oneP,Value.oneCell',opStore,toIV,scalT,scalA,scalC,boxesA,boxesC,zipB_none,zipB_mx,isZ,opZip,zeroP,opAppendZ,opMakeMap,opLookup,mboxB,opUpdate,↓reduceIte,Nat.reduceSub,Nat.reduceEqDiff,Nat.reduceAdd,Nat.reduceMul,Nat.reduceLT,Nat.reduceLeDiff,Int.reduceToNat,Int.reduceLE,Int.reduceLT,Int.reduceNeg,reduceCtorEq,notIn_cons,notIn_nil]) <;> simp [refsL,refsP,mem_refs_rowP]) (by repeat (first|exact noVar_none _|refine noVar_row ?_|refine noVar_map ?_|refine noVar_rowH ?_|refine noVar_var ?_ (by simp [refsL,refsP,mem_refs_rowP]))) (fgt_nil)))
  · ((simp -dsimp (disch:=omega) only [simx,zzB,tys,ite_self,opnL,callB,callX,readsB,stepOp,nilCmp,ofVal,opBuiltin,opLen,PV.sk,scalBin,scalUn,intBin,opLoad,natOf,opConvert,opField,cellsP,oneP,Value.oneCell',opStore,toIV,scalT,scalA,scalC,boxesA,boxesC,zipB_none,zipB_mx,isZ,opZip,zeroP,opAppendZ,opMakeMap,opLookup,mboxB,opUpdate,↓reduceIte,Nat.reduceSub,Nat.reduceEqDiff,Nat.reduceAdd,Nat.reduceMul,Nat.reduceLT,Nat.reduceLeDiff,Int.reduceToNat,Int.reduceLE,Int.reduceLT,Int.reduceNeg,reduceCtorEq,gos,Int.reduceAdd,Int.reduceSub,Int.reduceMul,Int.reduceEq]) <;> first|rfl|simp)
  · rw [t0]
    funext c
    simp (maxSteps:=20000000) only [Heap.drop_at,rowH_app,Heap.put_at,Heap.none_at,List.mem_cons,List.not_mem_nil,or_false]
    by_cases e0:c=(0,0)::base
    · subst e0; simp []
    by_cases e1:c=(1,4)::base
    · subst e1; simp []
    by_cases e2:c=(2,4)::base
    · subst e2; simp []
    by_cases e3:c=(5,3)::base
    · subst e3; simp []
    simp [e0,e1,e2,e3]
  · omega
  · trivial
  · intro j hj _
    by_cases cj:j < X.length
    · have g1:=xj j cj
      have f1:=fk j
      have t1:=tbl_succ (j + 1) F
      have l1:=tbl_len (j + 1) F
      clear xj fk q4 t0
      generalize F (j + 1)=s at f1 t1
      generalize X.getD j 0=x at g1 f1
      repeat (first|refine X_opc rfl ?_|refine X_dopc rfl ?_|refine ⟨(by show drawK _ _=true; kernel_rfl:drawX _ _ _),?_⟩|exact (by show drawK _ _=true; kernel_rfl:drawX _ _ _)|simp -dsimp (maxSteps:=20000000) (disch:=omega) only [simx,zzC,zzB,tys,ite_self,opnL,callB,callX,readsB,stepOp,nilCmp,ofVal,opBuiltin,opLen,PV.sk,scalBin,scalUn,intBin,opLoad,natOf,opConvert,opField,cellsP,oneP,Value.oneCell',opStore,toIV,scalT,scalA,scalC,boxesA,boxesC,zipB_none,zipB_mx,isZ,opZip,zeroP,opAppendZ,opMakeMap,opLookup,mboxB,opUpdate,↓reduceIte,Nat.reduceSub,Nat.reduceEqDiff,Nat.reduceAdd,Nat.reduceMul,Nat.reduceLT,Nat.reduceLeDiff,Int.reduceToNat,Int.reduceLE,Int.reduceLT,Int.reduceNeg,reduceCtorEq,gos,Int.reduceAdd,Int.reduceSub,Int.reduceMul,Int.reduceEq,cj,g1,SK.len,List.length_map])
      rw [← f1]
      refine X_append_own (cs:=(tbl (j + 1) F).map iu) (b:=(1,4)::base) (bx:=(5,3)::base) 22 [.int .u64 0] [iu s] (by simp only [tys]) (by simp only [tys]) rfl (by decide) (by simp [Heap.put_at]) (by rw [List.length_map,l1]) (by rw [List.length_map,l1,Nat.mul_one]) (by simp [Heap.put_at]; rfl) rfl (by simp only [tys]; omega) (by rw [mx_len]; omega) ?_
      repeat (first|refine X_opc rfl ?_|refine X_dopc rfl ?_|refine ⟨(by show drawK _ _=true; kernel_rfl:drawX _ _ _),?_⟩|exact (by show drawK _ _=true; kernel_rfl:drawX _ _ _)|simp -dsimp (maxSteps:=20000000) (disch:=omega) only [simx,zzC,zzB,tys,ite_self,opnL,callB,callX,readsB,stepOp,nilCmp,ofVal,opBuiltin,opLen,PV.sk,scalBin,scalUn,intBin,opLoad,natOf,opConvert,opField,cellsP,oneP,Value.oneCell',opStore,toIV,scalT,scalA,scalC,boxesA,boxesC,zipB_none,zipB_mx,isZ,opZip,zeroP,opAppendZ,opMakeMap,opLookup,mboxB,opUpdate,↓reduceIte,Nat.reduceSub,Nat.reduceEqDiff,Nat.reduceAdd,Nat.reduceMul,Nat.reduceLT,Nat.reduceLeDiff,Int.reduceToNat,Int.reduceLE,Int.reduceLT,Int.reduceNeg,reduceCtorEq,gos,Int.reduceAdd,Int.reduceSub,Int.reduceMul,Int.reduceEq,cj])
      refine ⟨cj,(fgt_cons (by simp only [Heap.none_at]) (by (simp -dsimp only [zzB,tys,ite_self,opnL,callB,callX,readsB,stepOp,nilCmp,ofVal,opBuiltin,opLen,PV.sk,scalBin,scalUn,intBin,opLoad,natOf,opConvert,opField,cellsP,oneP,Value.oneCell',opStore,toIV,scalT,scalA,scalC,boxesA,boxesC,zipB_none,zipB_mx,isZ,opZip,zeroP,opAppendZ,opMakeMap,opLookup,mboxB,opUpdate,↓reduceIte,Nat.reduceSub,Nat.reduceEqDiff,Nat.reduceAdd,Nat.reduceMul,Nat.reduceLT,Nat.reduceLeDiff,Int.reduceToNat,Int.reduceLE,Int.reduceLT,Int.reduceNeg,reduceCtorEq,notIn_cons,notIn_nil]) <;> simp [refsL,refsP,mem_refs_rowP]) (by repeat (first|exact noVar_none _|refine noVar_row ?_|refine noVar_map ?_|refine noVar_rowH ?_|refine noVar_var ?_ (by simp [refsL,refsP,mem_refs_rowP]))) (fgt_cons (by simp only [Heap.none_at]) (by (simp -dsimp only [zzB,tys,ite_self,opnL,callB,callX,readsB,stepOp,nilCmp,ofVal,opBuiltin,opLen,PV.sk,scalBin,scalUn,intBin,opLoad,natOf,opConvert,opField,cellsP,oneP,Value.oneCell',opStore,toIV,scalT,scalA,scalC,boxesA,boxesC,zipB_none,zipB_mx,isZ,opZip,zeroP,opAppendZ,opMakeMap,opLookup,mboxB,opUpdate,↓reduceIte,Nat.reduceSub,Nat.reduceEqDiff,Nat.reduceAdd,Nat.reduceMul,Nat.reduceLT,Nat.reduceLeDiff,Int.reduceToNat,Int.reduceLE,Int.reduceLT,Int.reduceNeg,reduceCtorEq,notIn_cons,notIn_nil]) <;> simp [refsL,refsP,mem_refs_rowP]) (by repeat (first|exact noVar_none _|refine noVar_row ?_|refine noVar_map ?_|refine noVar_rowH ?_|refine noVar_var ?_ (by simp [refsL,refsP,mem_refs_rowP]))) (fgt_nil))),?_,?_⟩
      · simp [l1]
      · funext c
        simp (maxSteps:=20000000) only [Heap.drop_at,rowH_app,Heap.put_at,Heap.none_at,List.mem_cons,List.not_mem_nil,or_false]
        by_cases e0:c=(0,0)::base
        · subst e0; simp [t1,List.map_append]
        by_cases e1:c=(1,4)::base
        · subst e1; simp [t1,List.map_append]
        by_cases e2:c=(2,4)::base
        · subst e2; simp [t1,List.map_append]
        by_cases e3:c=(5,3)::base
        · subst e3; simp [t1,List.map_append]
        simp [e0,e1,e2,e3,t1,List.map_append]
    · obtain rfl:X.length=j:=by omega
      have l1:=tbl_len (X.length + 1) F
      generalize tbl (X.length + 1) F=Y at q4 l1 ⊢
      rw [← l1]
      have tk:(Y.map iu).take Y.length=Y.map iu:=List.take_of_length_le (by rw [List.length_map]; exact Nat.le_refl _)
      repeat (first|((first|refine X_call_fn2 rfl (by simp only [tys]) ?_|refine X_dcall_fn2 rfl (by simp only [tys]) ?_); apply Exists.intro; apply And.intro; (focus (simp -dsimp only [simx,zzC,zzB,tys,ite_self,opnL,callB,callX,readsB,stepOp,nilCmp,ofVal,opBuiltin,opLen,PV.sk,scalBin,scalUn,intBin,opLoad,natOf,opConvert,opField,cellsP,oneP,Value.oneCell',opStore,toIV,scalT,scalA,scalC,boxesA,boxesC,zipB_none,zipB_mx,isZ,opZip,zeroP,opAppendZ,opMakeMap,opLookup,mboxB,opUpdate,↓reduceIte,Nat.reduceSub,Nat.reduceEqDiff,Nat.reduceAdd,Nat.reduceMul,Nat.reduceLT,Nat.reduceLeDiff,Int.reduceToNat,Int.reduceLE,Int.reduceLT,Int.reduceNeg,reduceCtorEq,zzL,if_true,if_false,tk,List.length_map] <;> rfl)); apply Exists.intro; apply And.intro; (focus (first|exact q2|exact q3|exact q4)))|refine X_opc rfl ?_|refine X_dopc rfl ?_|refine ⟨(by show drawK _ _=true; kernel_rfl:drawX _ _ _),?_⟩|exact (by show drawK _ _=true; kernel_rfl:drawX _ _ _)|simp -dsimp (maxSteps:=20000000) (disch:=omega) only [simx,zzC,zzB,tys,ite_self,opnL,callB,callX,readsB,stepOp,nilCmp,ofVal,opBuiltin,opLen,PV.sk,scalBin,scalUn,intBin,opLoad,natOf,opConvert,opField,cellsP,oneP,Value.oneCell',opStore,toIV,scalT,scalA,scalC,boxesA,boxesC,zipB_none,zipB_mx,isZ,opZip,zeroP,opAppendZ,opMakeMap,opLookup,mboxB,opUpdate,↓reduceIte,Nat.reduceSub,Nat.reduceEqDiff,Nat.reduceAdd,Nat.reduceMul,Nat.reduceLT,Nat.reduceLeDiff,Int.reduceToNat,Int.reduceLE,Int.reduceLT,Int.reduceNeg,reduceCtorEq,zzR,gos,Int.reduceAdd,Int.reduceSub,Int.reduceMul,Int.reduceEq,tk,SK.len,List.length_map])
set_option maxHeartbeats 4000000 in
theorem of13_walk {l L:List Int} {r R C:Nat} (h1:1 ≤ r) (h2:r ≤ 64) (hR:1 ≤ R ∧ R ≤ 64) (hC:1 ≤ C ∧ C ≤ 64) (hl:l.length=2 * r + R * r + r * C) (hL:L=(r:Int)::l):CallsP Try.prog 43 [lu L,i64 R,i64 C] (.tup [cupQ (ofC l r R C),i64 0]):=by
  have d1:=side13_walk (R:Int)
  rw [show (decide ((1:Int) ≤ R) && decide ((R:Int) ≤ 64))=true by simp; omega] at d1
  have d2:=side13_walk (C:Int)
  rw [show (decide ((1:Int) ≤ C) && decide ((C:Int) ≤ 64))=true by simp; omega] at d2
  have b1:R * r ≤ 64 * 64:=Nat.mul_le_mul hR.2 h2
  have b2:r * C ≤ 64 * 64:=Nat.mul_le_mul h2 hC.2
  have lL:(L.length:Int)=1 + 2 * (r:Int) + ((R * r:Nat):Int) + ((r * C:Nat):Int):=by rw [hL,List.length_cons]; omega
  have lL2:L.length=l.length + 1:=by rw [hL,List.length_cons]
  have gL:(L.map iu)[0]?=some (iu (r:Int)):=by rw [hL]; rfl
  have dL:(L.map iu).drop 1=l.map iu:=by rw [hL]; rfl
  have f0:IntKind.i64.wrap (r:Int)=r:=iw_of (by omega) (by omega)
  have f1:IntKind.i64.wrap ((R:Int) * (r:Int))=((R * r:Nat):Int):=by rw [← Int.natCast_mul]; exact iw_of (by omega) (by omega)
  have f2:IntKind.i64.wrap ((r:Int) * (C:Int))=((r * C:Nat):Int):=by rw [← Int.natCast_mul]; exact iw_of (by omega) (by omega)
  have L1:¬ (L.length:Int) < 1:=by omega
  have L0:0 < L.length:=by omega
  have L3:1 ≤ L.length:=by omega
  have L2:¬ (1 + 2 * (r:Int) + ((R * r:Nat):Int) + ((r * C:Nat):Int)) < 1:=by omega
  have rl:¬ (64:Int) < r:=by omega
  have dd1:(l.drop r).length=l.length - r:=List.length_drop
  have dd2:(l.drop (2 * r)).length=l.length - 2 * r:=List.length_drop
  have dd3:(l.drop (2 * r + R * r)).length=l.length - 2 * r - R * r:=by rw [List.length_drop]; omega
  have dr1:(l.drop r).drop r=l.drop (2 * r):=by rw [List.drop_drop]; congr 1; omega
  have dr2:(l.drop (2 * r)).drop (R * r)=l.drop (2 * r + R * r):=by rw [List.drop_drop]
  obtain ⟨n,hn⟩:∃ n,n=l.length:=⟨_,rfl⟩
  have llen:L.length - 1=n:=by omega
  have tkl:(l.map iu).take n=l.map iu:=List.take_of_length_le (by rw [List.length_map]; omega)
  have p1:=fun base (h:Heap) (b:Name) (hb:h b=some (.var [.i (.l n (l.map iu))])) => places_walk (base:=base) (n:=r) hb hn.symm (by omega) (by omega)
  have p2:=fun base (h:Heap) (b:Name) (hb:h b=some (.var [.i (.l (n - r) ((l.drop r).map iu))])) => places_walk (base:=base) (n:=r) hb (by omega) (by omega) (by omega)
  rw [dr1,show n - r - r=n - 2 * r by omega] at p2
  have p3:=fun base (h:Heap) (b:Name) (hb:h b=some (.var [.i (.l (n - 2 * r) ((l.drop (2 * r)).map iu))])) => rows13_walk (base:=base) (many:=R) (each:=r) hb (by omega) (by omega) (by omega) hR.2
  rw [dr2] at p3
  have p4:=fun base (h:Heap) (b:Name) (hb:h b=some (.var [.i (.l (n - 2 * r - R * r) ((l.drop (2 * r + R * r)).map iu))])) => rows13_walk (base:=base) (many:=r) (each:=C) hb (by omega) (by omega) (by omega) h2
  unfold ofC
  have e1:(wrapL (l.take r)).length=r:=by unfold wrapL; rw [List.length_map,List.length_take]; omega
  have e2:(wrapL ((l.drop r).take r)).length=r:=by unfold wrapL; rw [List.length_map,List.length_take]; omega
  have e3:=cutR_len (l.drop (2 * r)) r R
  have e4:=cutR_len (l.drop (2 * r + R * r)) C r
  generalize wrapL (l.take r)=w1 at *
  generalize wrapL ((l.drop r).take r)=w2 at *
  generalize cutR (l.drop (2 * r)) r R=w3 at *
  generalize cutR (l.drop (2 * r + R * r)) C r=w4 at *
  have t1:(w1.map ii).take r=w1.map ii:=List.take_of_length_le (by rw [List.length_map]; omega)
  have t2:(w2.map ii).take r=w2.map ii:=List.take_of_length_le (by rw [List.length_map]; omega)
  have t3:(w3.map lrow).take R=w3.map lrow:=List.take_of_length_le (by rw [List.length_map]; omega)
  have t4:(w4.map lrow).take r=w4.map lrow:=List.take_of_length_le (by rw [List.length_map]; omega)
  have rp1:=fun s z cs => rowP_pos s z cs (show 0 < r by omega)
  have rh1:=fun h s cs => rowH_pos h s cs (show 0 < r by omega)
  have rp2:=fun s z cs => rowP_pos s z cs (show 0 < R by omega)
  have rh2:=fun h s cs => rowH_pos h s cs (show 0 < R by omega)
  simp only [rp1,rh1] at p1 p2 p4
  simp only [rp2,rh2] at p3
  clear rp1 rh1 rp2 rh2
  refine X_startP (n:=73) (m:=3) (rs:=[.cell 6 55,.tmp 7]) Try.func43 rfl rfl rfl rfl (by decide) fun base => ?_
  repeat (first|((first|refine X_call_fn2 rfl (by simp only [tys]) ?_|refine X_dcall_fn2 rfl (by simp only [tys]) ?_); apply Exists.intro; apply And.intro; (focus (simp -dsimp only [simx,zzC,zzB,tys,ite_self,opnL,callB,callX,readsB,stepOp,nilCmp,ofVal,opBuiltin,opLen,PV.sk,scalBin,scalUn,intBin,opLoad,natOf,opConvert,opField,cellsP,oneP,Value.oneCell',opStore,toIV,scalT,scalA,scalC,boxesA,boxesC,zipB_none,zipB_mx,isZ,opZip,zeroP,opAppendZ,opMakeMap,opLookup,mboxB,opUpdate,↓reduceIte,Nat.reduceSub,Nat.reduceEqDiff,Nat.reduceAdd,Nat.reduceMul,Nat.reduceLT,Nat.reduceLeDiff,Int.reduceToNat,Int.reduceLE,Int.reduceLT,Int.reduceNeg,reduceCtorEq,zzL,if_true,if_false] <;> rfl)); apply Exists.intro; apply And.intro; (focus (first|exact d1|exact d2)))|refine X_opc rfl ?_|refine X_dopc rfl ?_|refine ⟨(by show drawK _ _=true; kernel_rfl:drawX _ _ _),?_⟩|exact (by show drawK _ _=true; kernel_rfl:drawX _ _ _)|simp -dsimp (maxSteps:=20000000) (disch:=omega) only [simx,zzC,zzB,tys,ite_self,opnL,callB,callX,readsB,stepOp,nilCmp,ofVal,opBuiltin,opLen,PV.sk,scalBin,scalUn,intBin,opLoad,natOf,opConvert,opField,cellsP,oneP,Value.oneCell',opStore,toIV,scalT,scalA,scalC,boxesA,boxesC,zipB_none,zipB_mx,isZ,opZip,zeroP,opAppendZ,opMakeMap,opLookup,mboxB,opUpdate,↓reduceIte,Nat.reduceSub,Nat.reduceEqDiff,Nat.reduceAdd,Nat.reduceMul,Nat.reduceLT,Nat.reduceLeDiff,Int.reduceToNat,Int.reduceLE,Int.reduceLT,Int.reduceNeg,reduceCtorEq,gos,Int.reduceAdd,Int.reduceSub,Int.reduceMul,Int.reduceEq,gL,dL,L0,L1,L2,L3,rl,f0,f1,f2,lL,llen,tkl,SK.len,List.length_map])
  refine X_call_sh rfl (by simp only [tys]) rfl (p1 _ _ ((6,3)::base) (by simp [Heap.put_at]) (by simp [Heap.put_at,Heap.none_at]) (by simp [Heap.put_at,Heap.none_at]) (by repeat (first|exact noVar_none _|refine noVar_row ?_|refine noVar_var ?_ (by simp [refsL,refsP]))) (by simp) (by simp)) ?_
  repeat (first|refine X_opc rfl ?_|refine X_dopc rfl ?_|refine ⟨(by show drawK _ _=true; kernel_rfl:drawX _ _ _),?_⟩|exact (by show drawK _ _=true; kernel_rfl:drawX _ _ _)|simp -dsimp (maxSteps:=20000000) (disch:=omega) only [simx,zzC,zzB,tys,ite_self,opnL,callB,callX,readsB,stepOp,nilCmp,ofVal,opBuiltin,opLen,PV.sk,scalBin,scalUn,intBin,opLoad,natOf,opConvert,opField,cellsP,oneP,Value.oneCell',opStore,toIV,scalT,scalA,scalC,boxesA,boxesC,zipB_none,zipB_mx,isZ,opZip,zeroP,opAppendZ,opMakeMap,opLookup,mboxB,opUpdate,↓reduceIte,Nat.reduceSub,Nat.reduceEqDiff,Nat.reduceAdd,Nat.reduceMul,Nat.reduceLT,Nat.reduceLeDiff,Int.reduceToNat,Int.reduceLE,Int.reduceLT,Int.reduceNeg,reduceCtorEq,gos,Int.reduceAdd,Int.reduceSub,Int.reduceMul,Int.reduceEq])
  refine X_call_sh rfl (by simp only [tys]) rfl (p2 _ _ ((6,3)::base) (by simp [Heap.put_at]) (by simp [Heap.put_at,Heap.none_at]) (by simp [Heap.put_at,Heap.none_at]) (by repeat (first|exact noVar_none _|refine noVar_row ?_|refine noVar_var ?_ (by simp [refsL,refsP]))) (by simp) (by simp)) ?_
  repeat (first|refine X_opc rfl ?_|refine X_dopc rfl ?_|refine ⟨(by show drawK _ _=true; kernel_rfl:drawX _ _ _),?_⟩|exact (by show drawK _ _=true; kernel_rfl:drawX _ _ _)|simp -dsimp (maxSteps:=20000000) (disch:=omega) only [simx,zzC,zzB,tys,ite_self,opnL,callB,callX,readsB,stepOp,nilCmp,ofVal,opBuiltin,opLen,PV.sk,scalBin,scalUn,intBin,opLoad,natOf,opConvert,opField,cellsP,oneP,Value.oneCell',opStore,toIV,scalT,scalA,scalC,boxesA,boxesC,zipB_none,zipB_mx,isZ,opZip,zeroP,opAppendZ,opMakeMap,opLookup,mboxB,opUpdate,↓reduceIte,Nat.reduceSub,Nat.reduceEqDiff,Nat.reduceAdd,Nat.reduceMul,Nat.reduceLT,Nat.reduceLeDiff,Int.reduceToNat,Int.reduceLE,Int.reduceLT,Int.reduceNeg,reduceCtorEq,gos,Int.reduceAdd,Int.reduceSub,Int.reduceMul,Int.reduceEq])
  refine X_call_sh rfl (by simp only [tys]) rfl (p3 _ _ ((6,3)::base) (by simp [Heap.put_at]) (by simp [Heap.put_at,Heap.none_at]) (by simp [Heap.put_at,Heap.none_at]) (by repeat (first|exact noVar_none _|refine noVar_row ?_|refine noVar_var ?_ (by simp [refsL,refsP]))) (by simp) (by simp)) ?_
  repeat (first|refine X_opc rfl ?_|refine X_dopc rfl ?_|refine ⟨(by show drawK _ _=true; kernel_rfl:drawX _ _ _),?_⟩|exact (by show drawK _ _=true; kernel_rfl:drawX _ _ _)|simp -dsimp (maxSteps:=20000000) (disch:=omega) only [simx,zzC,zzB,tys,ite_self,opnL,callB,callX,readsB,stepOp,nilCmp,ofVal,opBuiltin,opLen,PV.sk,scalBin,scalUn,intBin,opLoad,natOf,opConvert,opField,cellsP,oneP,Value.oneCell',opStore,toIV,scalT,scalA,scalC,boxesA,boxesC,zipB_none,zipB_mx,isZ,opZip,zeroP,opAppendZ,opMakeMap,opLookup,mboxB,opUpdate,↓reduceIte,Nat.reduceSub,Nat.reduceEqDiff,Nat.reduceAdd,Nat.reduceMul,Nat.reduceLT,Nat.reduceLeDiff,Int.reduceToNat,Int.reduceLE,Int.reduceLT,Int.reduceNeg,reduceCtorEq,gos,Int.reduceAdd,Int.reduceSub,Int.reduceMul,Int.reduceEq])
  refine X_call_sh rfl (by simp only [tys]) rfl (p4 _ _ ((6,3)::base) (by simp [Heap.put_at]) (by simp [Heap.put_at,Heap.none_at]) (by simp [Heap.put_at,Heap.none_at]) (by repeat (first|exact noVar_none _|refine noVar_row ?_|refine noVar_var ?_ (by simp [refsL,refsP]))) (by simp) (by simp)) ?_
  repeat (first|refine X_opc rfl ?_|refine X_dopc rfl ?_|refine ⟨(by show drawK _ _=true; kernel_rfl:drawX _ _ _),?_⟩|exact (by show drawK _ _=true; kernel_rfl:drawX _ _ _)|simp -dsimp (maxSteps:=20000000) (disch:=omega) only [simx,zzC,zzB,tys,ite_self,opnL,callB,callX,readsB,stepOp,nilCmp,ofVal,opBuiltin,opLen,PV.sk,scalBin,scalUn,intBin,opLoad,natOf,opConvert,opField,cellsP,oneP,Value.oneCell',opStore,toIV,scalT,scalA,scalC,boxesA,boxesC,zipB_none,zipB_mx,isZ,opZip,zeroP,opAppendZ,opMakeMap,opLookup,mboxB,opUpdate,↓reduceIte,Nat.reduceSub,Nat.reduceEqDiff,Nat.reduceAdd,Nat.reduceMul,Nat.reduceLT,Nat.reduceLeDiff,Int.reduceToNat,Int.reduceLE,Int.reduceLT,Int.reduceNeg,reduceCtorEq,zzR,gos,Int.reduceAdd,Int.reduceSub,Int.reduceMul,Int.reduceEq,t1,t2,t3,t4,e1,e2,e3,e4,List.length_map])
  show _=some (PV.tup [.agg [li w1,li w2,llP w3,llP w4],i64 0])
  rw [li,li,llP,llP,e1,e2,e3,e4]
set_option maxHeartbeats 4000000 in
set_option maxRecDepth 100000 in
theorem awake13_walk:CallsP Try.prog 37 [] (bl true):=by
  have p7:Prm 7:=prm7
  have M:Mt ((7:Nat):Int) (1:Nat) (2:Nat) [0,2]:=⟨⟨by decide,by decide⟩,by decide,by decide,by decide,by decide,rfl,by decide⟩
  have hi:∀ a ∈ [0,2],In ((7:Nat):Int) a:=by show ∀ x ∈ ([0,2]:List Int),0 ≤ x ∧ x < ((7:Nat):Int); decide
  have M5:Mt ((7:Nat):Int) (1:Nat) (1:Nat) [5]:=⟨⟨by decide,by decide⟩,by decide,by decide,by decide,by decide,rfl,by decide⟩
  have hi5:∀ a ∈ [5],In ((7:Nat):Int) a:=by show ∀ x ∈ ([5]:List Int),0 ≤ x ∧ x < ((7:Nat):Int); decide
  have t:tkCup ((7:Nat):Int) 2 1 [0,2]=([0],[1],[[1]],[[0,2]]):=by decide +kernel
  have t5:tkCup ((7:Nat):Int) 1 1 [5]=([0],[0],[[1]],[[5]]):=by decide +kernel
  have W:=tkCup_W p7 M hi
  have H:=tkCup_Cp p7 M hi
  have W5:=tkCup_W p7 M5 hi5
  have H5:=tkCup_Cp p7 M5 hi5
  rw [t] at W H
  rw [t5] at W5 H5
  obtain ⟨b,d1,hb⟩:=has13_walk (p:=((7:Nat):Int)) (R:=(1:Nat)) (C:=(2:Nat)) (c:=([0],[1],[[1]],[[0,2]])) (by decide) (by decide) (by decide) (by decide)
  obtain rfl:b=true:=hb.2 (cup_has p7 M.hp (by decide) (by decide) W H)
  obtain ⟨b5,d2,hb5⟩:=has13_walk (p:=((7:Nat):Int)) (R:=(1:Nat)) (C:=(1:Nat)) (c:=([0],[0],[[1]],[[5]])) (by decide) (by decide) (by decide) (by decide)
  obtain rfl:b5=true:=hb5.2 (cup_has p7 M5.hp (by decide) (by decide) W5 H5)
  have d3:=looks13_of M hi W d1 (x:=[3,4]) (by show ∀ x ∈ ([3,4]:List Int),0 ≤ x ∧ x < ((7:Nat):Int); decide) rfl
  rw [show decide (timesM ((7:Nat):Int) 1 2 [0,2] [3,4]=ctM ((7:Nat):Int) ([0],[1],[[1]],[[0,2]]) [3,4])=true by decide +kernel] at d3
  have H52:CpC 7 1 1 (mkA ([0],[0],[[1]],[[5]])) ([0],[0],[[1]],[[5]]):=Cp.cong H5 fun i j hi hj => H5.made i hi j hj
  have d4:=det13_of p7 M5.hp (by decide) (by decide) W5 H52 d2
  rw [show Lp 1 (mkA ([0],[0],[[1]],[[5]])) % ((7:Nat):Int)=5 by decide +kernel] at d4
  have d5:=numbers_walk (c:=([0],[1],[[1]],[[0,2]])) (by decide) (by decide) (by decide) (by decide) (by decide) (by decide)
  rw [show numL ([0],[1],[[1]],[[0,2]])=[1,0,1,1,0,2] by decide +kernel] at d5
  have d6:=of13_walk (l:=[0,1,1,0,2]) (L:=[1,0,1,1,0,2]) (r:=1) (R:=1) (C:=2) (by decide) (by decide) (by decide) (by decide) (by decide) rfl
  rw [show ofC [0,1,1,0,2] 1 1 2=([0],[1],[[1]],[[0,2]]) by decide +kernel] at d6
  have d7:=same1_walk [1,0,1,1,0,2] [1,0,1,1,0,2] (by decide)
  rw [decide_eq_true rfl] at d7
  have d8:=same13_walk ([0],[1],[[1]],[[0,2]]) ([0],[1],[[1]],[[0,2]]) (by decide) (by decide) (by decide) (by decide) (by decide) (by decide)
  rw [decide_eq_true rfl] at d8
  have d9:CallsP Try.prog 81 [cupQ ([0],[1],[[1]],[[0,2]]),i64 1,i64 2] (i64 5):=by
    have s1:=side13_walk 1
    rw [show (decide ((1:Int) ≤ 1) && decide ((1:Int) ≤ 64))=true by decide] at s1
    have s2:=side13_walk 2
    rw [show (decide ((1:Int) ≤ 2) && decide ((2:Int) ≤ 64))=true by decide] at s2
    have s3:=sized_walk (l:=[[0,2]]) 1 2 (by decide)
    rw [(sizedB_iff _ _ _).2 ⟨by decide,by decide⟩] at s3
    have s4:=sized_walk (l:=[[1]]) 1 1 (by decide)
    rw [(sizedB_iff _ _ _).2 ⟨by decide,by decide⟩] at s4
    refine X_startP (n:=46) (m:=3) (rs:=[.tmp 6]) Try.func81 rfl rfl rfl rfl (by decide) fun base => ?_
    repeat (first|((first|refine X_call_fn2 rfl (by simp only [tys]) ?_|refine X_dcall_fn2 rfl (by simp only [tys]) ?_); apply Exists.intro; apply And.intro; (focus (simp -dsimp only [simx,zzC,zzB,tys,ite_self,opnL,callB,callX,readsB,stepOp,nilCmp,ofVal,opBuiltin,opLen,PV.sk,scalBin,scalUn,intBin,opLoad,natOf,opConvert,opField,cellsP,oneP,Value.oneCell',opStore,toIV,scalT,scalA,scalC,boxesA,boxesC,zipB_none,zipB_mx,isZ,opZip,zeroP,opAppendZ,opMakeMap,opLookup,mboxB,opUpdate,↓reduceIte,Nat.reduceSub,Nat.reduceEqDiff,Nat.reduceAdd,Nat.reduceMul,Nat.reduceLT,Nat.reduceLeDiff,Int.reduceToNat,Int.reduceLE,Int.reduceLT,Int.reduceNeg,reduceCtorEq,zzL,if_true,if_false] <;> rfl)); apply Exists.intro; apply And.intro; (focus (first|exact s1|exact s2|exact s3|exact s4)))|refine X_opc rfl ?_|refine X_dopc rfl ?_|refine ⟨(by show drawK _ _=true; kernel_rfl:drawX _ _ _),?_⟩|exact (by show drawK _ _=true; kernel_rfl:drawX _ _ _)|simp -dsimp (maxSteps:=20000000) (disch:=omega) only [simx,zzC,zzB,tys,ite_self,opnL,callB,callX,readsB,stepOp,nilCmp,ofVal,opBuiltin,opLen,PV.sk,scalBin,scalUn,intBin,opLoad,natOf,opConvert,opField,cellsP,oneP,Value.oneCell',opStore,toIV,scalT,scalA,scalC,boxesA,boxesC,zipB_none,zipB_mx,isZ,opZip,zeroP,opAppendZ,opMakeMap,opLookup,mboxB,opUpdate,↓reduceIte,Nat.reduceSub,Nat.reduceEqDiff,Nat.reduceAdd,Nat.reduceMul,Nat.reduceLT,Nat.reduceLeDiff,Int.reduceToNat,Int.reduceLE,Int.reduceLT,Int.reduceNeg,reduceCtorEq,zzR,gos,Int.reduceAdd,Int.reduceSub,Int.reduceMul,Int.reduceEq,SK.len])
    rfl
  clear W H W5 H5 H52 M hi M5 hi5 t t5 hb hb5 p7
  refine X_startP (n:=80) (m:=0) (rs:=[.tmp 0]) Try.func37 rfl rfl rfl rfl (by decide) fun base => ?_
  repeat (first|((first|refine X_call_fn2 rfl (by simp only [tys]) ?_|refine X_dcall_fn2 rfl (by simp only [tys]) ?_); apply Exists.intro; apply And.intro; (focus (simp -dsimp only [simx,zzC,zzB,tys,ite_self,opnL,callB,callX,readsB,stepOp,nilCmp,ofVal,opBuiltin,opLen,PV.sk,scalBin,scalUn,intBin,opLoad,natOf,opConvert,opField,cellsP,oneP,Value.oneCell',opStore,toIV,scalT,scalA,scalC,boxesA,boxesC,zipB_none,zipB_mx,isZ,opZip,zeroP,opAppendZ,opMakeMap,opLookup,mboxB,opUpdate,↓reduceIte,Nat.reduceSub,Nat.reduceEqDiff,Nat.reduceAdd,Nat.reduceMul,Nat.reduceLT,Nat.reduceLeDiff,Int.reduceToNat,Int.reduceLE,Int.reduceLT,Int.reduceNeg,reduceCtorEq,zzL,if_true,if_false] <;> rfl)); apply Exists.intro; apply And.intro; (focus (first|exact d1|exact d2|exact d3|exact d4|exact d5|exact d6|exact d7|exact d8|exact d9)))|refine X_opc rfl ?_|refine X_dopc rfl ?_|refine ⟨(by show drawK _ _=true; kernel_rfl:drawX _ _ _),?_⟩|exact (by show drawK _ _=true; kernel_rfl:drawX _ _ _)|simp -dsimp (maxSteps:=20000000) (disch:=omega) only [simx,zzC,zzB,tys,ite_self,opnL,callB,callX,readsB,stepOp,nilCmp,ofVal,opBuiltin,opLen,PV.sk,scalBin,scalUn,intBin,opLoad,natOf,opConvert,opField,cellsP,oneP,Value.oneCell',opStore,toIV,scalT,scalA,scalC,boxesA,boxesC,zipB_none,zipB_mx,isZ,opZip,zeroP,opAppendZ,opMakeMap,opLookup,mboxB,opUpdate,↓reduceIte,Nat.reduceSub,Nat.reduceEqDiff,Nat.reduceAdd,Nat.reduceMul,Nat.reduceLT,Nat.reduceLeDiff,Int.reduceToNat,Int.reduceLE,Int.reduceLT,Int.reduceNeg,reduceCtorEq,zzR,gos,Int.reduceAdd,Int.reduceSub,Int.reduceMul,Int.reduceEq,SK.len])
end Go.Proofs.Ytmalpmnmknpphaa.TM
namespace Go.Proofs.Ytmalpmnmknpphaa.TM
open Go Go.RowKit
attribute [local irreducible] K W WOps Effs Xg Xo Xr Xdg Xdo Xdr Xif CallsP CallR
set_option maxHeartbeats 4000000 in
theorem of13_zero {l L:List Int} {r R C:Nat} (h1:r=0) (h2:r ≤ 64) (hR:1 ≤ R ∧ R ≤ 64) (hC:1 ≤ C ∧ C ≤ 64) (hl:l.length=2 * r + R * r + r * C) (hL:L=(r:Int)::l):CallsP Try.prog 43 [lu L,i64 R,i64 C] (.tup [cupQ (ofC l r R C),i64 0]):=by
  have d1:=side13_walk (R:Int)
  rw [show (decide ((1:Int) ≤ R) && decide ((R:Int) ≤ 64))=true by simp; omega] at d1
  have d2:=side13_walk (C:Int)
  rw [show (decide ((1:Int) ≤ C) && decide ((C:Int) ≤ 64))=true by simp; omega] at d2
  have b1:R * r ≤ 64 * 64:=Nat.mul_le_mul hR.2 h2
  have b2:r * C ≤ 64 * 64:=Nat.mul_le_mul h2 hC.2
  have lL:(L.length:Int)=1 + 2 * (r:Int) + ((R * r:Nat):Int) + ((r * C:Nat):Int):=by rw [hL,List.length_cons]; omega
  have lL2:L.length=l.length + 1:=by rw [hL,List.length_cons]
  have gL:(L.map iu)[0]?=some (iu (r:Int)):=by rw [hL]; rfl
  have dL:(L.map iu).drop 1=l.map iu:=by rw [hL]; rfl
  have f0:IntKind.i64.wrap (r:Int)=r:=iw_of (by omega) (by omega)
  have f1:IntKind.i64.wrap ((R:Int) * (r:Int))=((R * r:Nat):Int):=by rw [← Int.natCast_mul]; exact iw_of (by omega) (by omega)
  have f2:IntKind.i64.wrap ((r:Int) * (C:Int))=((r * C:Nat):Int):=by rw [← Int.natCast_mul]; exact iw_of (by omega) (by omega)
  have L1:¬ (L.length:Int) < 1:=by omega
  have L0:0 < L.length:=by omega
  have L3:1 ≤ L.length:=by omega
  have L2:¬ (1 + 2 * (r:Int) + ((R * r:Nat):Int) + ((r * C:Nat):Int)) < 1:=by omega
  have rl:¬ (64:Int) < r:=by omega
  have dd1:(l.drop r).length=l.length - r:=List.length_drop
  have dd2:(l.drop (2 * r)).length=l.length - 2 * r:=List.length_drop
  have dd3:(l.drop (2 * r + R * r)).length=l.length - 2 * r - R * r:=by rw [List.length_drop]; omega
  have dr1:(l.drop r).drop r=l.drop (2 * r):=by rw [List.drop_drop]; congr 1; omega
  have dr2:(l.drop (2 * r)).drop (R * r)=l.drop (2 * r + R * r):=by rw [List.drop_drop]
  obtain ⟨n,hn⟩:∃ n,n=l.length:=⟨_,rfl⟩
  have llen:L.length - 1=n:=by omega
  have tkl:(l.map iu).take n=l.map iu:=List.take_of_length_le (by rw [List.length_map]; omega)
  have p1:=fun base (h:Heap) (b:Name) (hb:h b=some (.var [.i (.l n (l.map iu))])) => places_walk (base:=base) (n:=r) hb hn.symm (by omega) (by omega)
  have p2:=fun base (h:Heap) (b:Name) (hb:h b=some (.var [.i (.l (n - r) ((l.drop r).map iu))])) => places_walk (base:=base) (n:=r) hb (by omega) (by omega) (by omega)
  rw [dr1,show n - r - r=n - 2 * r by omega] at p2
  have p3:=fun base (h:Heap) (b:Name) (hb:h b=some (.var [.i (.l (n - 2 * r) ((l.drop (2 * r)).map iu))])) => rows13_walk (base:=base) (many:=R) (each:=r) hb (by omega) (by omega) (by omega) hR.2
  rw [dr2] at p3
  have p4:=fun base (h:Heap) (b:Name) (hb:h b=some (.var [.i (.l (n - 2 * r - R * r) ((l.drop (2 * r + R * r)).map iu))])) => rows13_walk (base:=base) (many:=r) (each:=C) hb (by omega) (by omega) (by omega) h2
  unfold ofC
  have e1:(wrapL (l.take r)).length=r:=by unfold wrapL; rw [List.length_map,List.length_take]; omega
  have e2:(wrapL ((l.drop r).take r)).length=r:=by unfold wrapL; rw [List.length_map,List.length_take]; omega
  have e3:=cutR_len (l.drop (2 * r)) r R
  have e4:=cutR_len (l.drop (2 * r + R * r)) C r
  generalize wrapL (l.take r)=w1 at *
  generalize wrapL ((l.drop r).take r)=w2 at *
  generalize cutR (l.drop (2 * r)) r R=w3 at *
  generalize cutR (l.drop (2 * r + R * r)) C r=w4 at *
  have t1:(w1.map ii).take r=w1.map ii:=List.take_of_length_le (by rw [List.length_map]; omega)
  have t2:(w2.map ii).take r=w2.map ii:=List.take_of_length_le (by rw [List.length_map]; omega)
  have t3:(w3.map lrow).take R=w3.map lrow:=List.take_of_length_le (by rw [List.length_map]; omega)
  have t4:(w4.map lrow).take r=w4.map lrow:=List.take_of_length_le (by rw [List.length_map]; omega)
  have rp2:=fun s z cs => rowP_pos s z cs (show 0 < R by omega)
  have rh2:=fun h s cs => rowH_pos h s cs (show 0 < R by omega)
  subst h1
  simp only [rowP_zero,rowH_zero] at p1 p2 p4
  simp only [rp2,rh2] at p3
  clear rp2 rh2
  refine X_startP (n:=73) (m:=3) (rs:=[.cell 6 55,.tmp 7]) Try.func43 rfl rfl rfl rfl (by decide) fun base => ?_
  repeat (first|((first|refine X_call_fn2 rfl (by simp only [tys]) ?_|refine X_dcall_fn2 rfl (by simp only [tys]) ?_); apply Exists.intro; apply And.intro; (focus (simp -dsimp only [simx,zzC,zzB,tys,ite_self,opnL,callB,callX,readsB,stepOp,nilCmp,ofVal,opBuiltin,opLen,PV.sk,scalBin,scalUn,intBin,opLoad,natOf,opConvert,opField,cellsP,oneP,Value.oneCell',opStore,toIV,scalT,scalA,scalC,boxesA,boxesC,zipB_none,zipB_mx,isZ,opZip,zeroP,opAppendZ,opMakeMap,opLookup,mboxB,opUpdate,↓reduceIte,Nat.reduceSub,Nat.reduceEqDiff,Nat.reduceAdd,Nat.reduceMul,Nat.reduceLT,Nat.reduceLeDiff,Int.reduceToNat,Int.reduceLE,Int.reduceLT,Int.reduceNeg,reduceCtorEq,zzL,if_true,if_false] <;> rfl)); apply Exists.intro; apply And.intro; (focus (first|exact d1|exact d2)))|refine X_opc rfl ?_|refine X_dopc rfl ?_|refine ⟨(by show drawK _ _=true; kernel_rfl:drawX _ _ _),?_⟩|exact (by show drawK _ _=true; kernel_rfl:drawX _ _ _)|simp -dsimp (maxSteps:=20000000) (disch:=omega) only [simx,zzC,zzB,tys,ite_self,opnL,callB,callX,readsB,stepOp,nilCmp,ofVal,opBuiltin,opLen,PV.sk,scalBin,scalUn,intBin,opLoad,natOf,opConvert,opField,cellsP,oneP,Value.oneCell',opStore,toIV,scalT,scalA,scalC,boxesA,boxesC,zipB_none,zipB_mx,isZ,opZip,zeroP,opAppendZ,opMakeMap,opLookup,mboxB,opUpdate,↓reduceIte,Nat.reduceSub,Nat.reduceEqDiff,Nat.reduceAdd,Nat.reduceMul,Nat.reduceLT,Nat.reduceLeDiff,Int.reduceToNat,Int.reduceLE,Int.reduceLT,Int.reduceNeg,reduceCtorEq,gos,Int.reduceAdd,Int.reduceSub,Int.reduceMul,Int.reduceEq,gL,dL,L0,L1,L2,L3,rl,f0,f1,f2,lL,llen,tkl,SK.len,List.length_map])
  refine X_call_sh rfl (by simp only [tys]) rfl (p1 _ _ ((6,3)::base) (by simp [Heap.put_at]) (by simp [Heap.put_at,Heap.none_at]) (by simp [Heap.put_at,Heap.none_at]) (by repeat (first|exact noVar_none _|refine noVar_row ?_|refine noVar_var ?_ (by simp [refsL,refsP]))) (by simp) (by simp)) ?_
  repeat (first|refine X_opc rfl ?_|refine X_dopc rfl ?_|refine ⟨(by show drawK _ _=true; kernel_rfl:drawX _ _ _),?_⟩|exact (by show drawK _ _=true; kernel_rfl:drawX _ _ _)|simp -dsimp (maxSteps:=20000000) (disch:=omega) only [simx,zzC,zzB,tys,ite_self,opnL,callB,callX,readsB,stepOp,nilCmp,ofVal,opBuiltin,opLen,PV.sk,scalBin,scalUn,intBin,opLoad,natOf,opConvert,opField,cellsP,oneP,Value.oneCell',opStore,toIV,scalT,scalA,scalC,boxesA,boxesC,zipB_none,zipB_mx,isZ,opZip,zeroP,opAppendZ,opMakeMap,opLookup,mboxB,opUpdate,↓reduceIte,Nat.reduceSub,Nat.reduceEqDiff,Nat.reduceAdd,Nat.reduceMul,Nat.reduceLT,Nat.reduceLeDiff,Int.reduceToNat,Int.reduceLE,Int.reduceLT,Int.reduceNeg,reduceCtorEq,gos,Int.reduceAdd,Int.reduceSub,Int.reduceMul,Int.reduceEq])
  refine X_call_sh rfl (by simp only [tys]) rfl (p2 _ _ ((6,3)::base) (by simp [Heap.put_at]) (by simp [Heap.put_at,Heap.none_at]) (by simp [Heap.put_at,Heap.none_at]) (by repeat (first|exact noVar_none _|refine noVar_row ?_|refine noVar_var ?_ (by simp [refsL,refsP]))) (by simp) (by simp)) ?_
  repeat (first|refine X_opc rfl ?_|refine X_dopc rfl ?_|refine ⟨(by show drawK _ _=true; kernel_rfl:drawX _ _ _),?_⟩|exact (by show drawK _ _=true; kernel_rfl:drawX _ _ _)|simp -dsimp (maxSteps:=20000000) (disch:=omega) only [simx,zzC,zzB,tys,ite_self,opnL,callB,callX,readsB,stepOp,nilCmp,ofVal,opBuiltin,opLen,PV.sk,scalBin,scalUn,intBin,opLoad,natOf,opConvert,opField,cellsP,oneP,Value.oneCell',opStore,toIV,scalT,scalA,scalC,boxesA,boxesC,zipB_none,zipB_mx,isZ,opZip,zeroP,opAppendZ,opMakeMap,opLookup,mboxB,opUpdate,↓reduceIte,Nat.reduceSub,Nat.reduceEqDiff,Nat.reduceAdd,Nat.reduceMul,Nat.reduceLT,Nat.reduceLeDiff,Int.reduceToNat,Int.reduceLE,Int.reduceLT,Int.reduceNeg,reduceCtorEq,gos,Int.reduceAdd,Int.reduceSub,Int.reduceMul,Int.reduceEq])
  refine X_call_sh rfl (by simp only [tys]) rfl (p3 _ _ ((6,3)::base) (by simp [Heap.put_at]) (by simp [Heap.put_at,Heap.none_at]) (by simp [Heap.put_at,Heap.none_at]) (by repeat (first|exact noVar_none _|refine noVar_row ?_|refine noVar_var ?_ (by simp [refsL,refsP]))) (by simp) (by simp)) ?_
  repeat (first|refine X_opc rfl ?_|refine X_dopc rfl ?_|refine ⟨(by show drawK _ _=true; kernel_rfl:drawX _ _ _),?_⟩|exact (by show drawK _ _=true; kernel_rfl:drawX _ _ _)|simp -dsimp (maxSteps:=20000000) (disch:=omega) only [simx,zzC,zzB,tys,ite_self,opnL,callB,callX,readsB,stepOp,nilCmp,ofVal,opBuiltin,opLen,PV.sk,scalBin,scalUn,intBin,opLoad,natOf,opConvert,opField,cellsP,oneP,Value.oneCell',opStore,toIV,scalT,scalA,scalC,boxesA,boxesC,zipB_none,zipB_mx,isZ,opZip,zeroP,opAppendZ,opMakeMap,opLookup,mboxB,opUpdate,↓reduceIte,Nat.reduceSub,Nat.reduceEqDiff,Nat.reduceAdd,Nat.reduceMul,Nat.reduceLT,Nat.reduceLeDiff,Int.reduceToNat,Int.reduceLE,Int.reduceLT,Int.reduceNeg,reduceCtorEq,gos,Int.reduceAdd,Int.reduceSub,Int.reduceMul,Int.reduceEq])
  refine X_call_sh rfl (by simp only [tys]) rfl (p4 _ _ ((6,3)::base) (by simp [Heap.put_at]) (by simp [Heap.put_at,Heap.none_at]) (by simp [Heap.put_at,Heap.none_at]) (by repeat (first|exact noVar_none _|refine noVar_row ?_|refine noVar_var ?_ (by simp [refsL,refsP]))) (by simp) (by simp)) ?_
  repeat (first|refine X_opc rfl ?_|refine X_dopc rfl ?_|refine ⟨(by show drawK _ _=true; kernel_rfl:drawX _ _ _),?_⟩|exact (by show drawK _ _=true; kernel_rfl:drawX _ _ _)|simp -dsimp (maxSteps:=20000000) (disch:=omega) only [simx,zzC,zzB,tys,ite_self,opnL,callB,callX,readsB,stepOp,nilCmp,ofVal,opBuiltin,opLen,PV.sk,scalBin,scalUn,intBin,opLoad,natOf,opConvert,opField,cellsP,oneP,Value.oneCell',opStore,toIV,scalT,scalA,scalC,boxesA,boxesC,zipB_none,zipB_mx,isZ,opZip,zeroP,opAppendZ,opMakeMap,opLookup,mboxB,opUpdate,↓reduceIte,Nat.reduceSub,Nat.reduceEqDiff,Nat.reduceAdd,Nat.reduceMul,Nat.reduceLT,Nat.reduceLeDiff,Int.reduceToNat,Int.reduceLE,Int.reduceLT,Int.reduceNeg,reduceCtorEq,zzR,gos,Int.reduceAdd,Int.reduceSub,Int.reduceMul,Int.reduceEq,t1,t2,t3,t4,e1,e2,e3,e4,List.length_map])
  show _=some (PV.tup [.agg [li w1,li w2,llP w3,llP w4],i64 0])
  obtain rfl:w1=[]:=List.eq_nil_of_length_eq_zero e1
  obtain rfl:w2=[]:=List.eq_nil_of_length_eq_zero e2
  obtain rfl:w4=[]:=List.eq_nil_of_length_eq_zero e4
  rw [llP,e3]; rfl
def ofOk (L:List Int) (R C:Int):Prop:=(1 ≤ R ∧ R ≤ 64) ∧ (1 ≤ C ∧ C ≤ 64) ∧ L ≠ [] ∧ L.getD 0 0 ≤ 64 ∧ (L.length:Int)=1 + 2 * L.getD 0 0 + R * L.getD 0 0 + L.getD 0 0 * C
def noC:CupT:=([],[],[],[])
set_option maxHeartbeats 4000000 in
theorem of13_any {L:List Int} {R C:Int} (hL:L.length ≤ 100000) (wL:W64s L):(ofOk L R C ∧ CallsP Try.prog 43 [lu L,i64 R,i64 C] (.tup [cupQ (ofC (L.drop 1) (L.getD 0 0).toNat R.toNat C.toNat),i64 0])) ∨ (¬ ofOk L R C ∧ CallsP Try.prog 43 [lu L,i64 R,i64 C] (.tup [cupQ noC,i64 2])):=by
  have d1:=side13_walk R
  have d2:=side13_walk C
  by_cases a1:1 ≤ R ∧ R ≤ 64
  case neg =>
    refine .inr ⟨fun h => a1 h.1,?_⟩
    rw [show (decide (1 ≤ R) && decide (R ≤ 64))=false by
      cases h:(decide (1 ≤ R) && decide (R ≤ 64)) with
      | false => rfl
      | true => simp at h; exact absurd h a1] at d1
    refine X_startP (n:=73) (m:=3) (rs:=[.cell 6 55,.tmp 7]) Try.func43 rfl rfl rfl rfl (by decide) fun base => ?_
    repeat (first|((first|refine X_call_fn2 rfl (by simp only [tys]) ?_|refine X_dcall_fn2 rfl (by simp only [tys]) ?_); apply Exists.intro; apply And.intro; (focus (simp -dsimp only [simx,zzC,zzB,tys,ite_self,opnL,callB,callX,readsB,stepOp,nilCmp,ofVal,opBuiltin,opLen,PV.sk,scalBin,scalUn,intBin,opLoad,natOf,opConvert,opField,cellsP,oneP,Value.oneCell',opStore,toIV,scalT,scalA,scalC,boxesA,boxesC,zipB_none,zipB_mx,isZ,opZip,zeroP,opAppendZ,opMakeMap,opLookup,mboxB,opUpdate,↓reduceIte,Nat.reduceSub,Nat.reduceEqDiff,Nat.reduceAdd,Nat.reduceMul,Nat.reduceLT,Nat.reduceLeDiff,Int.reduceToNat,Int.reduceLE,Int.reduceLT,Int.reduceNeg,reduceCtorEq,zzL,if_true,if_false] <;> rfl)); apply Exists.intro; apply And.intro; (focus (first|exact d1)))|refine X_opc rfl ?_|refine X_dopc rfl ?_|refine ⟨(by show drawK _ _=true; kernel_rfl:drawX _ _ _),?_⟩|exact (by show drawK _ _=true; kernel_rfl:drawX _ _ _)|simp -dsimp (maxSteps:=20000000) (disch:=omega) only [simx,zzC,zzB,tys,ite_self,opnL,callB,callX,readsB,stepOp,nilCmp,ofVal,opBuiltin,opLen,PV.sk,scalBin,scalUn,intBin,opLoad,natOf,opConvert,opField,cellsP,oneP,Value.oneCell',opStore,toIV,scalT,scalA,scalC,boxesA,boxesC,zipB_none,zipB_mx,isZ,opZip,zeroP,opAppendZ,opMakeMap,opLookup,mboxB,opUpdate,↓reduceIte,Nat.reduceSub,Nat.reduceEqDiff,Nat.reduceAdd,Nat.reduceMul,Nat.reduceLT,Nat.reduceLeDiff,Int.reduceToNat,Int.reduceLE,Int.reduceLT,Int.reduceNeg,reduceCtorEq,zzR,gos,Int.reduceAdd,Int.reduceSub,Int.reduceMul,Int.reduceEq,SK.len])
    try rfl
  rw [show (decide (1 ≤ R) && decide (R ≤ 64))=true by simp [a1]] at d1
  by_cases a2:1 ≤ C ∧ C ≤ 64
  case neg =>
    refine .inr ⟨fun h => a2 h.2.1,?_⟩
    rw [show (decide (1 ≤ C) && decide (C ≤ 64))=false by
      cases h:(decide (1 ≤ C) && decide (C ≤ 64)) with
      | false => rfl
      | true => simp at h; exact absurd h a2] at d2
    refine X_startP (n:=73) (m:=3) (rs:=[.cell 6 55,.tmp 7]) Try.func43 rfl rfl rfl rfl (by decide) fun base => ?_
    repeat (first|((first|refine X_call_fn2 rfl (by simp only [tys]) ?_|refine X_dcall_fn2 rfl (by simp only [tys]) ?_); apply Exists.intro; apply And.intro; (focus (simp -dsimp only [simx,zzC,zzB,tys,ite_self,opnL,callB,callX,readsB,stepOp,nilCmp,ofVal,opBuiltin,opLen,PV.sk,scalBin,scalUn,intBin,opLoad,natOf,opConvert,opField,cellsP,oneP,Value.oneCell',opStore,toIV,scalT,scalA,scalC,boxesA,boxesC,zipB_none,zipB_mx,isZ,opZip,zeroP,opAppendZ,opMakeMap,opLookup,mboxB,opUpdate,↓reduceIte,Nat.reduceSub,Nat.reduceEqDiff,Nat.reduceAdd,Nat.reduceMul,Nat.reduceLT,Nat.reduceLeDiff,Int.reduceToNat,Int.reduceLE,Int.reduceLT,Int.reduceNeg,reduceCtorEq,zzL,if_true,if_false] <;> rfl)); apply Exists.intro; apply And.intro; (focus (first|exact d1|exact d2)))|refine X_opc rfl ?_|refine X_dopc rfl ?_|refine ⟨(by show drawK _ _=true; kernel_rfl:drawX _ _ _),?_⟩|exact (by show drawK _ _=true; kernel_rfl:drawX _ _ _)|simp -dsimp (maxSteps:=20000000) (disch:=omega) only [simx,zzC,zzB,tys,ite_self,opnL,callB,callX,readsB,stepOp,nilCmp,ofVal,opBuiltin,opLen,PV.sk,scalBin,scalUn,intBin,opLoad,natOf,opConvert,opField,cellsP,oneP,Value.oneCell',opStore,toIV,scalT,scalA,scalC,boxesA,boxesC,zipB_none,zipB_mx,isZ,opZip,zeroP,opAppendZ,opMakeMap,opLookup,mboxB,opUpdate,↓reduceIte,Nat.reduceSub,Nat.reduceEqDiff,Nat.reduceAdd,Nat.reduceMul,Nat.reduceLT,Nat.reduceLeDiff,Int.reduceToNat,Int.reduceLE,Int.reduceLT,Int.reduceNeg,reduceCtorEq,zzR,gos,Int.reduceAdd,Int.reduceSub,Int.reduceMul,Int.reduceEq,SK.len])
    try rfl
  rw [show (decide (1 ≤ C) && decide (C ≤ 64))=true by simp [a2]] at d2
  cases L with
  | nil =>
    refine .inr ⟨fun h => h.2.2.1 rfl,?_⟩
    refine X_startP (n:=73) (m:=3) (rs:=[.cell 6 55,.tmp 7]) Try.func43 rfl rfl rfl rfl (by decide) fun base => ?_
    repeat (first|((first|refine X_call_fn2 rfl (by simp only [tys]) ?_|refine X_dcall_fn2 rfl (by simp only [tys]) ?_); apply Exists.intro; apply And.intro; (focus (simp -dsimp only [simx,zzC,zzB,tys,ite_self,opnL,callB,callX,readsB,stepOp,nilCmp,ofVal,opBuiltin,opLen,PV.sk,scalBin,scalUn,intBin,opLoad,natOf,opConvert,opField,cellsP,oneP,Value.oneCell',opStore,toIV,scalT,scalA,scalC,boxesA,boxesC,zipB_none,zipB_mx,isZ,opZip,zeroP,opAppendZ,opMakeMap,opLookup,mboxB,opUpdate,↓reduceIte,Nat.reduceSub,Nat.reduceEqDiff,Nat.reduceAdd,Nat.reduceMul,Nat.reduceLT,Nat.reduceLeDiff,Int.reduceToNat,Int.reduceLE,Int.reduceLT,Int.reduceNeg,reduceCtorEq,zzL,if_true,if_false] <;> rfl)); apply Exists.intro; apply And.intro; (focus (first|exact d1|exact d2)))|refine X_opc rfl ?_|refine X_dopc rfl ?_|refine ⟨(by show drawK _ _=true; kernel_rfl:drawX _ _ _),?_⟩|exact (by show drawK _ _=true; kernel_rfl:drawX _ _ _)|simp -dsimp (maxSteps:=20000000) (disch:=omega) only [simx,zzC,zzB,tys,ite_self,opnL,callB,callX,readsB,stepOp,nilCmp,ofVal,opBuiltin,opLen,PV.sk,scalBin,scalUn,intBin,opLoad,natOf,opConvert,opField,cellsP,oneP,Value.oneCell',opStore,toIV,scalT,scalA,scalC,boxesA,boxesC,zipB_none,zipB_mx,isZ,opZip,zeroP,opAppendZ,opMakeMap,opLookup,mboxB,opUpdate,↓reduceIte,Nat.reduceSub,Nat.reduceEqDiff,Nat.reduceAdd,Nat.reduceMul,Nat.reduceLT,Nat.reduceLeDiff,Int.reduceToNat,Int.reduceLE,Int.reduceLT,Int.reduceNeg,reduceCtorEq,zzR,gos,Int.reduceAdd,Int.reduceSub,Int.reduceMul,Int.reduceEq,SK.len])
    try rfl
  | cons x l =>
  have wx:=wL x (by simp)
  have gx:(x::l).getD 0 0=x:=rfl
  have g0:((x::l).map iu)[0]?=some (iu x):=rfl
  have l0:0 < (x::l).length:=by simp
  have l1:¬ ((x::l).length:Int) < 1:=by rw [List.length_cons]; omega
  have hL':=hL
  by_cases a3:x ≤ 64
  case neg =>
    refine .inr ⟨fun h => a3 h.2.2.2.1,?_⟩
    have a3':(64:Int) < x:=by omega
    generalize x::l=L at *
    refine X_startP (n:=73) (m:=3) (rs:=[.cell 6 55,.tmp 7]) Try.func43 rfl rfl rfl rfl (by decide) fun base => ?_
    repeat (first|((first|refine X_call_fn2 rfl (by simp only [tys]) ?_|refine X_dcall_fn2 rfl (by simp only [tys]) ?_); apply Exists.intro; apply And.intro; (focus (simp -dsimp only [simx,zzC,zzB,tys,ite_self,opnL,callB,callX,readsB,stepOp,nilCmp,ofVal,opBuiltin,opLen,PV.sk,scalBin,scalUn,intBin,opLoad,natOf,opConvert,opField,cellsP,oneP,Value.oneCell',opStore,toIV,scalT,scalA,scalC,boxesA,boxesC,zipB_none,zipB_mx,isZ,opZip,zeroP,opAppendZ,opMakeMap,opLookup,mboxB,opUpdate,↓reduceIte,Nat.reduceSub,Nat.reduceEqDiff,Nat.reduceAdd,Nat.reduceMul,Nat.reduceLT,Nat.reduceLeDiff,Int.reduceToNat,Int.reduceLE,Int.reduceLT,Int.reduceNeg,reduceCtorEq,zzL,if_true,if_false] <;> rfl)); apply Exists.intro; apply And.intro; (focus (first|exact d1|exact d2)))|refine X_opc rfl ?_|refine X_dopc rfl ?_|refine ⟨(by show drawK _ _=true; kernel_rfl:drawX _ _ _),?_⟩|exact (by show drawK _ _=true; kernel_rfl:drawX _ _ _)|simp -dsimp (maxSteps:=20000000) (disch:=omega) only [simx,zzC,zzB,tys,ite_self,opnL,callB,callX,readsB,stepOp,nilCmp,ofVal,opBuiltin,opLen,PV.sk,scalBin,scalUn,intBin,opLoad,natOf,opConvert,opField,cellsP,oneP,Value.oneCell',opStore,toIV,scalT,scalA,scalC,boxesA,boxesC,zipB_none,zipB_mx,isZ,opZip,zeroP,opAppendZ,opMakeMap,opLookup,mboxB,opUpdate,↓reduceIte,Nat.reduceSub,Nat.reduceEqDiff,Nat.reduceAdd,Nat.reduceMul,Nat.reduceLT,Nat.reduceLeDiff,Int.reduceToNat,Int.reduceLE,Int.reduceLT,Int.reduceNeg,reduceCtorEq,zzR,gos,Int.reduceAdd,Int.reduceSub,Int.reduceMul,Int.reduceEq,SK.len,g0,l0,l1,a3',List.length_map])
    try rfl
  obtain ⟨r,rfl⟩:∃ r:Nat,x=r:=⟨x.toNat,by have:=wx.1; omega⟩
  obtain ⟨Rn,rfl⟩:∃ Rn:Nat,R=Rn:=⟨R.toNat,by omega⟩
  obtain ⟨Cn,rfl⟩:∃ Cn:Nat,C=Cn:=⟨C.toNat,by omega⟩
  have b1:Rn * r ≤ 64 * 64:=Nat.mul_le_mul (by omega) (by omega)
  have b2:r * Cn ≤ 64 * 64:=Nat.mul_le_mul (by omega) (by omega)
  by_cases a4:l.length=2 * r + Rn * r + r * Cn
  · refine .inl ⟨⟨a1,a2,by simp,by rw [gx]; exact a3,?_⟩,?_⟩
    · rw [gx,List.length_cons,a4]; push_cast; omega
    · rw [gx,Int.toNat_natCast,Int.toNat_natCast,Int.toNat_natCast]
      rcases Nat.eq_zero_or_pos r with h|h
      · exact of13_zero h (by omega) (by omega) (by omega) a4 rfl
      · exact of13_walk h (by omega) (by omega) (by omega) a4 rfl
  · refine .inr ⟨fun h => a4 ?_,?_⟩
    · have:=h.2.2.2.2
      rw [gx,List.length_cons,← Int.natCast_mul,← Int.natCast_mul] at this
      omega
    · have f0:IntKind.i64.wrap (r:Int)=r:=iw_of (by omega) (by omega)
      have f1:IntKind.i64.wrap ((Rn:Int) * (r:Int))=((Rn * r:Nat):Int):=by rw [← Int.natCast_mul]; exact iw_of (by omega) (by omega)
      have f2:IntKind.i64.wrap ((r:Int) * (Cn:Int))=((r * Cn:Nat):Int):=by rw [← Int.natCast_mul]; exact iw_of (by omega) (by omega)
      have a3':¬ (64:Int) < r:=by omega
      have a5:¬ ((((r:Nat):Int)::l).length:Int)=1 + 2 * (r:Int) + ((Rn * r:Nat):Int) + ((r * Cn:Nat):Int):=by rw [List.length_cons]; omega
      generalize ((r:Nat):Int)::l=L at *
      refine X_startP (n:=73) (m:=3) (rs:=[.cell 6 55,.tmp 7]) Try.func43 rfl rfl rfl rfl (by decide) fun base => ?_
      repeat (first|((first|refine X_call_fn2 rfl (by simp only [tys]) ?_|refine X_dcall_fn2 rfl (by simp only [tys]) ?_); apply Exists.intro; apply And.intro; (focus (simp -dsimp only [simx,zzC,zzB,tys,ite_self,opnL,callB,callX,readsB,stepOp,nilCmp,ofVal,opBuiltin,opLen,PV.sk,scalBin,scalUn,intBin,opLoad,natOf,opConvert,opField,cellsP,oneP,Value.oneCell',opStore,toIV,scalT,scalA,scalC,boxesA,boxesC,zipB_none,zipB_mx,isZ,opZip,zeroP,opAppendZ,opMakeMap,opLookup,mboxB,opUpdate,↓reduceIte,Nat.reduceSub,Nat.reduceEqDiff,Nat.reduceAdd,Nat.reduceMul,Nat.reduceLT,Nat.reduceLeDiff,Int.reduceToNat,Int.reduceLE,Int.reduceLT,Int.reduceNeg,reduceCtorEq,zzL,if_true,if_false] <;> rfl)); apply Exists.intro; apply And.intro; (focus (first|exact d1|exact d2)))|refine X_opc rfl ?_|refine X_dopc rfl ?_|refine ⟨(by show drawK _ _=true; kernel_rfl:drawX _ _ _),?_⟩|exact (by show drawK _ _=true; kernel_rfl:drawX _ _ _)|simp -dsimp (maxSteps:=20000000) (disch:=omega) only [simx,zzC,zzB,tys,ite_self,opnL,callB,callX,readsB,stepOp,nilCmp,ofVal,opBuiltin,opLen,PV.sk,scalBin,scalUn,intBin,opLoad,natOf,opConvert,opField,cellsP,oneP,Value.oneCell',opStore,toIV,scalT,scalA,scalC,boxesA,boxesC,zipB_none,zipB_mx,isZ,opZip,zeroP,opAppendZ,opMakeMap,opLookup,mboxB,opUpdate,↓reduceIte,Nat.reduceSub,Nat.reduceEqDiff,Nat.reduceAdd,Nat.reduceMul,Nat.reduceLT,Nat.reduceLeDiff,Int.reduceToNat,Int.reduceLE,Int.reduceLT,Int.reduceNeg,reduceCtorEq,zzR,gos,Int.reduceAdd,Int.reduceSub,Int.reduceMul,Int.reduceEq,SK.len,g0,l0,l1,a3',f0,f1,f2,a5,List.length_map])
      try rfl
theorem wrap_ui {x:Int} (h:W64 x):IntKind.u64.wrap (IntKind.i64.wrap x)=x:=by
  obtain ⟨h1,h2⟩:=h
  simp only [IntKind.wrap,IntKind.bits,IntKind.signed,Bool.true_and,Bool.false_and,decide_eq_true_eq,Bool.false_eq_true,if_false]
  split <;> omega
theorem uw_rng (x:Int):W64 (IntKind.u64.wrap x):=by
  simp only [IntKind.wrap,IntKind.bits,IntKind.signed,Bool.true_and,Bool.false_and,decide_eq_true_eq,Bool.false_eq_true,if_false]
  exact ⟨by omega,by omega⟩
theorem flat_cut {l:List Int} {each:Nat}:∀ many,many * each ≤ l.length → (cutR l each many).flatten=l.take (many * each)
  | 0,_ => by simp [cutR]
  | m + 1,h => by
    rw [Nat.succ_mul] at h
    rw [cutR_next,List.flatten_append,flat_cut m (by omega),Nat.succ_mul,List.take_add]
    simp
theorem num_of {l:List Int} {r R C:Nat} (hl:l.length=2 * r + R * r + r * C) (wl:W64s l):numL (ofC l r R C)=(r:Int)::l:=by
  have e1:(wrapL (l.take r)).length=r:=by unfold wrapL; rw [List.length_map,List.length_take]; omega
  have e2:(wrapL ((l.drop r).take r)).length=r:=by unfold wrapL; rw [List.length_map,List.length_take,List.length_drop]; omega
  have ew:wrapL (l.take r) ++ wrapL ((l.drop r).take r)=wrapL (l.take (2 * r)):=by
    unfold wrapL
    rw [← List.map_append,show 2 * r=r + r by omega,List.take_add]
  have f1:=flat_cut (l:=l.drop (2 * r)) (each:=r) R (by rw [List.length_drop]; omega)
  have f2:=flat_cut (l:=l.drop (2 * r + R * r)) (each:=C) r (by rw [List.length_drop]; omega)
  have hd:tbl ((wrapL (l.take r) ++ wrapL ((l.drop r).take r)).length + 1) (hdN (ofC l r R C))=(r:Int)::l.take (2 * r):=by
    refine list_ext0 (tbl_len ..) (by rw [List.length_cons,List.length_take,List.length_append,e1,e2]; omega) fun q hq => ?_
    rw [tbl_getD _ hq]
    cases q with
    | zero =>
      show ((wrapL (l.take r)).length:Int)=r
      rw [e1]
    | succ q =>
      show IntKind.u64.wrap ((wrapL (l.take r) ++ wrapL ((l.drop r).take r)).getD q 0)=(l.take (2 * r)).getD q 0
      rw [ew]
      rw [ew] at hq
      have hq2:q < (l.take (2 * r)).length:=by unfold wrapL at hq; rw [List.length_map] at hq; omega
      unfold wrapL
      rw [List.getD_eq_getElem?_getD,List.getElem?_map,getD_at' (d:=0) hq2]
      show IntKind.u64.wrap (IntKind.i64.wrap _)=_
      exact wrap_ui (wl _ (List.mem_of_mem_take (getD_mm hq2)))
  unfold numL
  rw [show (ofC l r R C).1=wrapL (l.take r) from rfl,show (ofC l r R C).2.1=wrapL ((l.drop r).take r) from rfl,show (ofC l r R C).2.2.1=cutR (l.drop (2 * r)) r R from rfl,show (ofC l r R C).2.2.2=cutR (l.drop (2 * r + R * r)) C r from rfl,hd,f1,f2]
  rw [List.cons_append,List.cons_append]
  congr 1
  rw [show (l.drop (2 * r + R * r)).take (r * C)=l.drop (2 * r + R * r) by rw [List.take_of_length_le]; rw [List.length_drop]; omega]
  rw [← List.drop_drop,List.append_assoc,List.take_append_drop,List.take_append_drop]
theorem cut_flat {each:Nat}:∀ {L:List (List Int)} {t:List Int},(∀ u ∈ L,u.length=each) → cutR (L.flatten ++ t) each L.length=L
  | [],_,_ => rfl
  | a::L,t,h => by
    have ha:=h a (by simp)
    have ih:=cut_flat (L:=L) (t:=t) fun u hu => h u (by simp [hu])
    rw [List.length_cons]
    unfold cutR at ih ⊢
    rw [List.range_succ_eq_map,List.map_cons,List.map_map]
    refine congr (congrArg List.cons ?_) ?_
    · rw [Nat.zero_mul,List.drop_zero,List.flatten_cons,List.append_assoc,← ha,List.take_left' rfl]
    · refine Eq.trans (List.map_congr_left fun j _ => ?_) ih
      show (((a::L).flatten ++ t).drop ((j + 1) * each)).take each=(((L.flatten ++ t).drop (j * each)).take each)
      rw [List.flatten_cons,List.append_assoc,Nat.succ_mul,Nat.add_comm,← List.drop_drop,← ha,List.drop_left' rfl]
theorem wrap_iu {a:Int} (h0:0 ≤ a) (h1:a < 100):IntKind.u64.wrap a=a ∧ IntKind.i64.wrap a=a:=⟨uw_of (by omega) (by omega),iw_of (by omega) (by omega)⟩
theorem num_len (c:CupT):(numL c).length=c.1.length + c.2.1.length + 1 + c.2.2.1.flatten.length + c.2.2.2.flatten.length:=by
  unfold numL
  rw [List.length_append,List.length_append,tbl_len,List.length_append]
theorem num_w64 {c:CupT} (h:c.1.length ≤ 4096) (hs:∀ u ∈ c.2.2.1,W64s u) (hu:∀ u ∈ c.2.2.2,W64s u):W64s (numL c):=fun a ha => by
  unfold numL at ha
  rcases List.mem_append.1 ha with ha|ha
  · rcases List.mem_append.1 ha with ha|ha
    · obtain ⟨q,_,rfl⟩:=tbl_mem ha
      unfold hdN
      split
      · exact ⟨by omega,by omega⟩
      · exact uw_rng _
    · obtain ⟨u,h1,h2⟩:=List.mem_flatten.1 ha
      exact hs u h1 a h2
  · obtain ⟨u,h1,h2⟩:=List.mem_flatten.1 ha
    exact hu u h1 a h2
theorem of_num {p R C:Int} {c:CupT} (h:hasP p R C c) (hs:∀ u ∈ c.2.2.1,W64s u) (hu:∀ u ∈ c.2.2.2,W64s u):ofOk (numL c) R C ∧ ofC ((numL c).drop 1) ((numL c).getD 0 0).toNat R.toNat C.toNat=c:=by
  obtain ⟨hR,hC,hn,⟨u1,u2⟩,⟨k1,k2⟩,_⟩:=h
  obtain ⟨rws,cls,cc,uu⟩:=c
  simp only at hn u1 u2 k1 k2
  have ql:=hn.2.2.1
  have r1:=hn.2.2.2.1
  have r2:=hn.2.2.2.2
  obtain ⟨Rn,rfl⟩:∃ Rn:Nat,R=Rn:=⟨R.toNat,by omega⟩
  obtain ⟨Cn,rfl⟩:∃ Cn:Nat,C=Cn:=⟨C.toNat,by omega⟩
  have rr:=namedP_row hn
  have cr:=fun a (ha:a ∈ cls) => namedP_col hn ha
  have fu:uu.flatten.length=uu.length * Cn:=flat_len13 fun u hu => by have:=u2 u hu; omega
  have fc:cc.flatten.length=cc.length * rws.length:=flat_len13 fun u hu => by have:=k2 u hu; omega
  have fu':uu.flatten.length=rws.length * Cn:=by rw [fu]; congr 1; omega
  have fc':cc.flatten.length=Rn * rws.length:=by rw [fc]; congr 1; omega
  have hd:tbl ((rws ++ cls).length + 1) (hdN (rws,cls,cc,uu))=(rws.length:Int)::(rws ++ cls):=by
    refine list_ext0 (tbl_len ..) (by simp) fun q hq => ?_
    rw [tbl_getD _ hq]
    cases q with
    | zero => rfl
    | succ q =>
      show IntKind.u64.wrap ((rws ++ cls).getD q 0)=(rws ++ cls).getD q 0
      have hm:=getD_mm (l:=rws ++ cls) (d:=(0:Int)) (i:=q) (by omega)
      rcases List.mem_append.1 hm with hm|hm
      · obtain ⟨k,hk,e⟩:=List.getElem_of_mem hm
        have h3:=rr k hk
        rw [List.getD_eq_getElem?_getD,List.getElem?_eq_getElem hk,Option.getD_some,e] at h3
        exact (wrap_iu h3.1 (by omega)).1
      · have h3:=cr _ hm
        exact (wrap_iu h3.1 (by omega)).1
  have nl:numL (rws,cls,cc,uu)=(rws.length:Int)::((rws ++ cls) ++ (cc.flatten ++ uu.flatten)):=by
    unfold numL
    simp only
    rw [hd,List.cons_append,List.cons_append,List.append_assoc]
  rw [nl]
  have len:((rws ++ cls) ++ (cc.flatten ++ uu.flatten)).length=2 * rws.length + Rn * rws.length + rws.length * Cn:=by
    rw [List.length_append,List.length_append,List.length_append,fu',fc']; omega
  refine ⟨⟨hR,hC,by simp,by show (rws.length:Int) ≤ 64; omega,?_⟩,?_⟩
  · show (((rws.length:Int)::((rws ++ cls) ++ (cc.flatten ++ uu.flatten))).length:Int)=1 + 2 * (rws.length:Int) + (Rn:Int) * (rws.length:Int) + (rws.length:Int) * (Cn:Int)
    rw [List.length_cons,len]; push_cast; omega
  · show ofC ((rws ++ cls) ++ (cc.flatten ++ uu.flatten)) rws.length Rn Cn=_
    have wr:∀ (X:List Int),(∀ a ∈ X,0 ≤ a ∧ a < 100) → wrapL X=X:=fun X hX => by
      unfold wrapL
      conv => rhs; rw [← List.map_id X]
      exact List.map_congr_left fun a ha => (wrap_iu (hX a ha).1 (hX a ha).2).2
    have c1:=cut_flat (L:=cc) (t:=uu.flatten) (each:=rws.length) fun u hu => by have:=k2 u hu; omega
    have c2:=cut_flat (L:=uu) (t:=[]) (each:=Cn) fun u hu => by have:=u2 u hu; omega
    unfold ofC
    have e0:((rws ++ cls) ++ (cc.flatten ++ uu.flatten)).take rws.length=rws:=by rw [List.append_assoc,List.take_left' rfl]
    have e1:(((rws ++ cls) ++ (cc.flatten ++ uu.flatten)).drop rws.length).take rws.length=cls:=by rw [List.append_assoc,List.drop_left' rfl,ql,List.take_left' rfl]
    have e2:((rws ++ cls) ++ (cc.flatten ++ uu.flatten)).drop (2 * rws.length)=cc.flatten ++ uu.flatten:=List.drop_left' (by rw [List.length_append]; omega)
    have e3:((rws ++ cls) ++ (cc.flatten ++ uu.flatten)).drop (2 * rws.length + Rn * rws.length)=uu.flatten:=by rw [← List.drop_drop,e2,List.drop_left' fc']
    rw [e0,e1,e2,e3]
    rw [show cutR (cc.flatten ++ uu.flatten) rws.length Rn=cc by rw [show Rn=cc.length by omega]; exact c1]
    rw [show cutR uu.flatten Cn rws.length=uu by rw [show rws.length=uu.length by omega]; rw [List.append_nil] at c2; exact c2]
    rw [wr rws fun a ha => by
      obtain ⟨k,hk,e⟩:=List.getElem_of_mem ha
      have h3:=rr k hk
      rw [List.getD_eq_getElem?_getD,List.getElem?_eq_getElem hk,Option.getD_some,e] at h3
      omega,wr cls fun a ha => by have:=cr a ha; omega]
set_option maxHeartbeats 8000000 in
theorem shapeBack_true (a0:List Int × List Int × List (List Int) × List (List Int)) (a1:Int) (a2:Int) (a3:List Int) (w0:((a0.1.length ≤ maxLen ∧ ∀ e52_ ∈ a0.1,(Lit.int .i64 e52_).wf=true) ∧ (a0.2.1.length ≤ maxLen ∧ ∀ e52_ ∈ a0.2.1,(Lit.int .i64 e52_).wf=true) ∧ (a0.2.2.1.length ≤ maxLen ∧ ∀ e53_ ∈ a0.2.2.1,(e53_.length ≤ maxLen ∧ ∀ e23_ ∈ e53_,(Lit.int .u64 e23_).wf=true)) ∧ (a0.2.2.2.length ≤ maxLen ∧ ∀ e53_ ∈ a0.2.2.2,(e53_.length ≤ maxLen ∧ ∀ e23_ ∈ e53_,(Lit.int .u64 e23_).wf=true)))) (w1:(Lit.int .i64 a1).wf=true) (w2:(Lit.int .i64 a2).wf=true) (w3:(a3.length ≤ maxLen ∧ ∀ e23_ ∈ a3,(Lit.int .u64 e23_).wf=true)) :
    CallsP Try.prog 8 [.agg [.i (IV.l a0.1.length (a0.1.map fun y => IV.v (.int .i64 y))),.i (IV.l a0.2.1.length (a0.2.1.map fun y => IV.v (.int .i64 y))),.i (IV.l a0.2.2.1.length (a0.2.2.1.map fun y => IV.l y.length (y.map fun y => IV.v (.int .u64 y)))),.i (IV.l a0.2.2.2.length (a0.2.2.2.map fun y => IV.l y.length (y.map fun y => IV.v (.int .u64 y))))],.i (IV.v (.int .i64 a1)),.i (IV.v (.int .i64 a2)),.i (IV.l a3.length (a3.map fun y => IV.v (.int .u64 y)))] (bl true):=by
  obtain ⟨_,_,⟨_,u3⟩,_,u4⟩:=w0
  obtain ⟨z3,z4⟩:=w3
  have wx:=w64_all z4
  have d0:=awake13_walk
  obtain ⟨sb,d3,hsb⟩:=short13_walk a0
  change CallsP Try.prog 8 [cupQ a0,i64 a1,i64 a2,lu a3] (bl true)
  cases sb with
  | false =>
    obtain ⟨b1,b2,b3,b4⟩:=a0
    refine X_startP (n:=74) (m:=4) (rs:=[.tmp 8]) Try.func8 rfl rfl rfl rfl (by decide) fun base => ?_
    repeat (first|((first|refine X_call_fn2 rfl (by simp only [tys]) ?_|refine X_dcall_fn2 rfl (by simp only [tys]) ?_); apply Exists.intro; apply And.intro; (focus (simp -dsimp only [simx,zzC,zzB,tys,ite_self,opnL,callB,callX,readsB,stepOp,nilCmp,ofVal,opBuiltin,opLen,PV.sk,scalBin,scalUn,intBin,opLoad,natOf,opConvert,opField,cellsP,oneP,Value.oneCell',opStore,toIV,scalT,scalA,scalC,boxesA,boxesC,zipB_none,zipB_mx,isZ,opZip,zeroP,opAppendZ,opMakeMap,opLookup,mboxB,opUpdate,↓reduceIte,Nat.reduceSub,Nat.reduceEqDiff,Nat.reduceAdd,Nat.reduceMul,Nat.reduceLT,Nat.reduceLeDiff,Int.reduceToNat,Int.reduceLE,Int.reduceLT,Int.reduceNeg,reduceCtorEq,zzL,if_true,if_false] <;> rfl)); apply Exists.intro; apply And.intro; (focus (first|exact d0|exact d3)))|refine X_opc rfl ?_|refine X_dopc rfl ?_|refine ⟨(by show drawK _ _=true; kernel_rfl:drawX _ _ _),?_⟩|exact (by show drawK _ _=true; kernel_rfl:drawX _ _ _)|simp -dsimp (maxSteps:=20000000) (disch:=omega) only [simx,zzC,zzB,tys,ite_self,opnL,callB,callX,readsB,stepOp,nilCmp,ofVal,opBuiltin,opLen,PV.sk,scalBin,scalUn,intBin,opLoad,natOf,opConvert,opField,cellsP,oneP,Value.oneCell',opStore,toIV,scalT,scalA,scalC,boxesA,boxesC,zipB_none,zipB_mx,isZ,opZip,zeroP,opAppendZ,opMakeMap,opLookup,mboxB,opUpdate,↓reduceIte,Nat.reduceSub,Nat.reduceEqDiff,Nat.reduceAdd,Nat.reduceMul,Nat.reduceLT,Nat.reduceLeDiff,Int.reduceToNat,Int.reduceLE,Int.reduceLT,Int.reduceNeg,reduceCtorEq,zzR,gos,Int.reduceAdd,Int.reduceSub,Int.reduceMul,Int.reduceEq])
  | true =>
  obtain ⟨⟨s1,s2,s3,s4⟩,sr,sc⟩:=hsb.1 rfl
  by_cases c0:(300:Int) < a3.length
  · obtain ⟨b1,b2,b3,b4⟩:=a0
    refine X_startP (n:=74) (m:=4) (rs:=[.tmp 8]) Try.func8 rfl rfl rfl rfl (by decide) fun base => ?_
    repeat (first|((first|refine X_call_fn2 rfl (by simp only [tys]) ?_|refine X_dcall_fn2 rfl (by simp only [tys]) ?_); apply Exists.intro; apply And.intro; (focus (simp -dsimp only [simx,zzC,zzB,tys,ite_self,opnL,callB,callX,readsB,stepOp,nilCmp,ofVal,opBuiltin,opLen,PV.sk,scalBin,scalUn,intBin,opLoad,natOf,opConvert,opField,cellsP,oneP,Value.oneCell',opStore,toIV,scalT,scalA,scalC,boxesA,boxesC,zipB_none,zipB_mx,isZ,opZip,zeroP,opAppendZ,opMakeMap,opLookup,mboxB,opUpdate,↓reduceIte,Nat.reduceSub,Nat.reduceEqDiff,Nat.reduceAdd,Nat.reduceMul,Nat.reduceLT,Nat.reduceLeDiff,Int.reduceToNat,Int.reduceLE,Int.reduceLT,Int.reduceNeg,reduceCtorEq,zzL,if_true,if_false] <;> rfl)); apply Exists.intro; apply And.intro; (focus (first|exact d0|exact d3)))|refine X_opc rfl ?_|refine X_dopc rfl ?_|refine ⟨(by show drawK _ _=true; kernel_rfl:drawX _ _ _),?_⟩|exact (by show drawK _ _=true; kernel_rfl:drawX _ _ _)|simp -dsimp (maxSteps:=20000000) (disch:=omega) only [simx,zzC,zzB,tys,ite_self,opnL,callB,callX,readsB,stepOp,nilCmp,ofVal,opBuiltin,opLen,PV.sk,scalBin,scalUn,intBin,opLoad,natOf,opConvert,opField,cellsP,oneP,Value.oneCell',opStore,toIV,scalT,scalA,scalC,boxesA,boxesC,zipB_none,zipB_mx,isZ,opZip,zeroP,opAppendZ,opMakeMap,opLookup,mboxB,opUpdate,↓reduceIte,Nat.reduceSub,Nat.reduceEqDiff,Nat.reduceAdd,Nat.reduceMul,Nat.reduceLT,Nat.reduceLeDiff,Int.reduceToNat,Int.reduceLE,Int.reduceLT,Int.reduceNeg,reduceCtorEq,zzR,gos,Int.reduceAdd,Int.reduceSub,Int.reduceMul,Int.reduceEq,c0])
  obtain ⟨h1,e1,i1⟩:=has13_walk (p:=11) (R:=a1) (C:=a2) (c:=a0) (by omega) (by omega) (by omega) (by omega)
  obtain ⟨h2,e2,i2⟩:=has13_walk (p:=2305843009213693951) (R:=a1) (C:=a2) (c:=a0) (by omega) (by omega) (by omega) (by omega)
  have fl:∀ (L:List (List Int)) n,(∀ i,i < L.length → (L.getD i []).length ≤ n) → L.flatten.length ≤ L.length * n:=fun L n h => by
    induction L with
    | nil => simp
    | cons a L ih =>
      have h0:=h 0 (by simp)
      have:=ih fun i hi => h (i + 1) (by simpa using hi)
      rw [List.flatten_cons,List.length_append,List.length_cons,Nat.succ_mul]
      have h0':a.length ≤ n:=h0
      omega
  have f1:=fl _ _ s3
  have f2:=fl _ _ s4
  have g1:=Nat.mul_le_mul_right 70 s1
  have g2:=Nat.mul_le_mul_right 70 s2
  have n1:=numbers_walk (c:=a0) (by omega) (by omega) (by omega) (by omega) (by omega) (by omega)
  have mem70:∀ (L:List (List Int)),(∀ i,i < L.length → (L.getD i []).length ≤ 70) → ∀ u ∈ L,u.length ≤ 4096:=fun L h u hu => by
    obtain ⟨k,hk,e⟩:=List.getElem_of_mem hu
    have h3:=h k hk
    rw [List.getD_eq_getElem?_getD,List.getElem?_eq_getElem hk,Option.getD_some,e] at h3
    omega
  have t1:=same13_walk a0 a0 (by omega) (by omega) (by omega) (by omega) (mem70 _ s3) (mem70 _ s4)
  rw [decide_eq_true rfl] at t1
  have back:(h1=true ∨ h2=true) → CallsP Try.prog 43 [lu (numL a0),i64 a1,i64 a2] (.tup [cupQ a0,i64 0]):=fun hh => by
    have hp:∃ p,hasP p a1 a2 a0:=by
      rcases hh with h|h
      · exact ⟨_,i1.1 h⟩
      · exact ⟨_,i2.1 h⟩
    obtain ⟨p,hp⟩:=hp
    obtain ⟨k1,k2⟩:=of_num hp (fun u hu => w64_all (u3 u hu).2) fun u hu => w64_all (u4 u hu).2
    have wn:W64s (numL a0):=num_w64 (by omega) (fun u hu => w64_all (u3 u hu).2) fun u hu => w64_all (u4 u hu).2
    rcases of13_any (L:=numL a0) (R:=a1) (C:=a2) (by rw [num_len]; omega) wn with ⟨_,q⟩|⟨q,_⟩
    · rwa [k2] at q
    · exact absurd k1 q
  have rd:∃ (d:CupT) (e:Int),CallsP Try.prog 43 [lu a3,i64 a1,i64 a2] (.tup [cupQ d,i64 e]) ∧ ((e=0 ∧ CallsP Try.prog 44 [cupQ d] (lu a3)) ∨ (e=2 ∧ d=noC)):=by
    rcases of13_any (L:=a3) (R:=a1) (C:=a2) (by omega) wx with ⟨ok,q⟩|⟨_,q⟩
    · refine ⟨_,_,q,.inl ⟨rfl,?_⟩⟩
      obtain ⟨hR,hC,hne,h64,hlen⟩:=ok
      cases a3 with
      | nil => exact absurd rfl hne
      | cons x l =>
      have wx0:=wx x (by simp)
      have gx:(x::l).getD 0 0=x:=rfl
      rw [gx] at h64 hlen ⊢
      obtain ⟨r,rfl⟩:∃ r:Nat,x=r:=⟨x.toNat,by have:=wx0.1; omega⟩
      obtain ⟨Rn,rfl⟩:∃ Rn:Nat,a1=Rn:=⟨a1.toNat,by omega⟩
      obtain ⟨Cn,rfl⟩:∃ Cn:Nat,a2=Cn:=⟨a2.toNat,by omega⟩
      rw [Int.toNat_natCast,Int.toNat_natCast,Int.toNat_natCast]
      show CallsP _ _ [cupQ (ofC l r Rn Cn)] _
      have hl:l.length=2 * r + Rn * r + r * Cn:=by
        rw [List.length_cons,← Int.natCast_mul,← Int.natCast_mul] at hlen
        omega
      have wl':W64s l:=fun a ha => wx a (by simp [ha])
      have x1:(wrapL (l.take r)).length=r:=by unfold wrapL; rw [List.length_map,List.length_take]; omega
      have x2:(wrapL ((l.drop r).take r)).length=r:=by unfold wrapL; rw [List.length_map,List.length_take,List.length_drop]; omega
      have x3:=cutR_len (l.drop (2 * r)) r Rn
      have x4:=cutR_len (l.drop (2 * r + Rn * r)) Cn r
      have y1:=flat_cut (l:=l.drop (2 * r)) (each:=r) Rn (by rw [List.length_drop]; omega)
      have y2:=flat_cut (l:=l.drop (2 * r + Rn * r)) (each:=Cn) r (by rw [List.length_drop]; omega)
      rw [List.length_cons] at c0
      have nw:=numbers_walk (c:=ofC l r Rn Cn) (by show (wrapL (l.take r)).length ≤ 100; omega) (by show (wrapL ((l.drop r).take r)).length ≤ 100; omega) (by show (cutR (l.drop (2 * r)) r Rn).length ≤ 100; omega) (by show (cutR (l.drop (2 * r + Rn * r)) Cn r).length ≤ 100; omega) (by show (cutR (l.drop (2 * r)) r Rn).flatten.length ≤ 100000; rw [y1,List.length_take,List.length_drop]; omega) (by show (cutR (l.drop (2 * r + Rn * r)) Cn r).flatten.length ≤ 100000; rw [y2,List.length_take,List.length_drop]; omega)
      rwa [num_of hl wl'] at nw
    · exact ⟨_,_,q,.inr ⟨rfl,rfl⟩⟩
  obtain ⟨d,e,q1,q2⟩:=rd
  have q3:=same1_walk a3 a3 z3
  rw [decide_eq_true rfl] at q3
  clear f1 f2 g1 g2 i1 i2 hsb s1 s2 s3 s4 sr sc mem70 fl wx u3 u4
  generalize numL a0=nl at *
  obtain ⟨b1,b2,b3,b4⟩:=a0
  obtain ⟨k1,k2,k3,k4⟩:=d
  cases h1 with
  | true =>
    have bk:=back (.inl rfl)
    rcases q2 with ⟨rfl,q4⟩|⟨rfl,q4⟩
    · refine X_startP (n:=74) (m:=4) (rs:=[.tmp 8]) Try.func8 rfl rfl rfl rfl (by decide) fun base => ?_
      repeat (first|((first|refine X_call_fn2 rfl (by simp only [tys]) ?_|refine X_dcall_fn2 rfl (by simp only [tys]) ?_); apply Exists.intro; apply And.intro; (focus (simp -dsimp only [simx,zzC,zzB,tys,ite_self,opnL,callB,callX,readsB,stepOp,nilCmp,ofVal,opBuiltin,opLen,PV.sk,scalBin,scalUn,intBin,opLoad,natOf,opConvert,opField,cellsP,oneP,Value.oneCell',opStore,toIV,scalT,scalA,scalC,boxesA,boxesC,zipB_none,zipB_mx,isZ,opZip,zeroP,opAppendZ,opMakeMap,opLookup,mboxB,opUpdate,↓reduceIte,Nat.reduceSub,Nat.reduceEqDiff,Nat.reduceAdd,Nat.reduceMul,Nat.reduceLT,Nat.reduceLeDiff,Int.reduceToNat,Int.reduceLE,Int.reduceLT,Int.reduceNeg,reduceCtorEq,zzL,if_true,if_false] <;> rfl)); apply Exists.intro; apply And.intro; (focus (first|exact d0|exact d3|exact e1|exact e2|exact n1|exact bk|exact t1|exact q1|exact q4|exact q3)))|refine X_opc rfl ?_|refine X_dopc rfl ?_|refine ⟨(by show drawK _ _=true; kernel_rfl:drawX _ _ _),?_⟩|exact (by show drawK _ _=true; kernel_rfl:drawX _ _ _)|simp -dsimp (maxSteps:=20000000) (disch:=omega) only [simx,zzC,zzB,tys,ite_self,opnL,callB,callX,readsB,stepOp,nilCmp,ofVal,opBuiltin,opLen,PV.sk,scalBin,scalUn,intBin,opLoad,natOf,opConvert,opField,cellsP,oneP,Value.oneCell',opStore,toIV,scalT,scalA,scalC,boxesA,boxesC,zipB_none,zipB_mx,isZ,opZip,zeroP,opAppendZ,opMakeMap,opLookup,mboxB,opUpdate,↓reduceIte,Nat.reduceSub,Nat.reduceEqDiff,Nat.reduceAdd,Nat.reduceMul,Nat.reduceLT,Nat.reduceLeDiff,Int.reduceToNat,Int.reduceLE,Int.reduceLT,Int.reduceNeg,reduceCtorEq,zzR,gos,Int.reduceAdd,Int.reduceSub,Int.reduceMul,Int.reduceEq,c0])
    · cases q4
      refine X_startP (n:=74) (m:=4) (rs:=[.tmp 8]) Try.func8 rfl rfl rfl rfl (by decide) fun base => ?_
      repeat (first|((first|refine X_call_fn2 rfl (by simp only [tys]) ?_|refine X_dcall_fn2 rfl (by simp only [tys]) ?_); apply Exists.intro; apply And.intro; (focus (simp -dsimp only [simx,zzC,zzB,tys,ite_self,opnL,callB,callX,readsB,stepOp,nilCmp,ofVal,opBuiltin,opLen,PV.sk,scalBin,scalUn,intBin,opLoad,natOf,opConvert,opField,cellsP,oneP,Value.oneCell',opStore,toIV,scalT,scalA,scalC,boxesA,boxesC,zipB_none,zipB_mx,isZ,opZip,zeroP,opAppendZ,opMakeMap,opLookup,mboxB,opUpdate,↓reduceIte,Nat.reduceSub,Nat.reduceEqDiff,Nat.reduceAdd,Nat.reduceMul,Nat.reduceLT,Nat.reduceLeDiff,Int.reduceToNat,Int.reduceLE,Int.reduceLT,Int.reduceNeg,reduceCtorEq,zzL,if_true,if_false] <;> rfl)); apply Exists.intro; apply And.intro; (focus (first|exact d0|exact d3|exact e1|exact e2|exact n1|exact bk|exact t1|exact q1)))|refine X_opc rfl ?_|refine X_dopc rfl ?_|refine ⟨(by show drawK _ _=true; kernel_rfl:drawX _ _ _),?_⟩|exact (by show drawK _ _=true; kernel_rfl:drawX _ _ _)|simp -dsimp (maxSteps:=20000000) (disch:=omega) only [simx,zzC,zzB,tys,ite_self,opnL,callB,callX,readsB,stepOp,nilCmp,ofVal,opBuiltin,opLen,PV.sk,scalBin,scalUn,intBin,opLoad,natOf,opConvert,opField,cellsP,oneP,Value.oneCell',opStore,toIV,scalT,scalA,scalC,boxesA,boxesC,zipB_none,zipB_mx,isZ,opZip,zeroP,opAppendZ,opMakeMap,opLookup,mboxB,opUpdate,↓reduceIte,Nat.reduceSub,Nat.reduceEqDiff,Nat.reduceAdd,Nat.reduceMul,Nat.reduceLT,Nat.reduceLeDiff,Int.reduceToNat,Int.reduceLE,Int.reduceLT,Int.reduceNeg,reduceCtorEq,zzR,gos,Int.reduceAdd,Int.reduceSub,Int.reduceMul,Int.reduceEq,c0,SK.len])
  | false =>
    cases h2 with
    | true =>
      have bk:=back (.inr rfl)
      rcases q2 with ⟨rfl,q4⟩|⟨rfl,q4⟩
      · refine X_startP (n:=74) (m:=4) (rs:=[.tmp 8]) Try.func8 rfl rfl rfl rfl (by decide) fun base => ?_
        repeat (first|((first|refine X_call_fn2 rfl (by simp only [tys]) ?_|refine X_dcall_fn2 rfl (by simp only [tys]) ?_); apply Exists.intro; apply And.intro; (focus (simp -dsimp only [simx,zzC,zzB,tys,ite_self,opnL,callB,callX,readsB,stepOp,nilCmp,ofVal,opBuiltin,opLen,PV.sk,scalBin,scalUn,intBin,opLoad,natOf,opConvert,opField,cellsP,oneP,Value.oneCell',opStore,toIV,scalT,scalA,scalC,boxesA,boxesC,zipB_none,zipB_mx,isZ,opZip,zeroP,opAppendZ,opMakeMap,opLookup,mboxB,opUpdate,↓reduceIte,Nat.reduceSub,Nat.reduceEqDiff,Nat.reduceAdd,Nat.reduceMul,Nat.reduceLT,Nat.reduceLeDiff,Int.reduceToNat,Int.reduceLE,Int.reduceLT,Int.reduceNeg,reduceCtorEq,zzL,if_true,if_false] <;> rfl)); apply Exists.intro; apply And.intro; (focus (first|exact d0|exact d3|exact e1|exact e2|exact n1|exact bk|exact t1|exact q1|exact q4|exact q3)))|refine X_opc rfl ?_|refine X_dopc rfl ?_|refine ⟨(by show drawK _ _=true; kernel_rfl:drawX _ _ _),?_⟩|exact (by show drawK _ _=true; kernel_rfl:drawX _ _ _)|simp -dsimp (maxSteps:=20000000) (disch:=omega) only [simx,zzC,zzB,tys,ite_self,opnL,callB,callX,readsB,stepOp,nilCmp,ofVal,opBuiltin,opLen,PV.sk,scalBin,scalUn,intBin,opLoad,natOf,opConvert,opField,cellsP,oneP,Value.oneCell',opStore,toIV,scalT,scalA,scalC,boxesA,boxesC,zipB_none,zipB_mx,isZ,opZip,zeroP,opAppendZ,opMakeMap,opLookup,mboxB,opUpdate,↓reduceIte,Nat.reduceSub,Nat.reduceEqDiff,Nat.reduceAdd,Nat.reduceMul,Nat.reduceLT,Nat.reduceLeDiff,Int.reduceToNat,Int.reduceLE,Int.reduceLT,Int.reduceNeg,reduceCtorEq,zzR,gos,Int.reduceAdd,Int.reduceSub,Int.reduceMul,Int.reduceEq,c0])
      · cases q4
        refine X_startP (n:=74) (m:=4) (rs:=[.tmp 8]) Try.func8 rfl rfl rfl rfl (by decide) fun base => ?_
        repeat (first|((first|refine X_call_fn2 rfl (by simp only [tys]) ?_|refine X_dcall_fn2 rfl (by simp only [tys]) ?_); apply Exists.intro; apply And.intro; (focus (simp -dsimp only [simx,zzC,zzB,tys,ite_self,opnL,callB,callX,readsB,stepOp,nilCmp,ofVal,opBuiltin,opLen,PV.sk,scalBin,scalUn,intBin,opLoad,natOf,opConvert,opField,cellsP,oneP,Value.oneCell',opStore,toIV,scalT,scalA,scalC,boxesA,boxesC,zipB_none,zipB_mx,isZ,opZip,zeroP,opAppendZ,opMakeMap,opLookup,mboxB,opUpdate,↓reduceIte,Nat.reduceSub,Nat.reduceEqDiff,Nat.reduceAdd,Nat.reduceMul,Nat.reduceLT,Nat.reduceLeDiff,Int.reduceToNat,Int.reduceLE,Int.reduceLT,Int.reduceNeg,reduceCtorEq,zzL,if_true,if_false] <;> rfl)); apply Exists.intro; apply And.intro; (focus (first|exact d0|exact d3|exact e1|exact e2|exact n1|exact bk|exact t1|exact q1)))|refine X_opc rfl ?_|refine X_dopc rfl ?_|refine ⟨(by show drawK _ _=true; kernel_rfl:drawX _ _ _),?_⟩|exact (by show drawK _ _=true; kernel_rfl:drawX _ _ _)|simp -dsimp (maxSteps:=20000000) (disch:=omega) only [simx,zzC,zzB,tys,ite_self,opnL,callB,callX,readsB,stepOp,nilCmp,ofVal,opBuiltin,opLen,PV.sk,scalBin,scalUn,intBin,opLoad,natOf,opConvert,opField,cellsP,oneP,Value.oneCell',opStore,toIV,scalT,scalA,scalC,boxesA,boxesC,zipB_none,zipB_mx,isZ,opZip,zeroP,opAppendZ,opMakeMap,opLookup,mboxB,opUpdate,↓reduceIte,Nat.reduceSub,Nat.reduceEqDiff,Nat.reduceAdd,Nat.reduceMul,Nat.reduceLT,Nat.reduceLeDiff,Int.reduceToNat,Int.reduceLE,Int.reduceLT,Int.reduceNeg,reduceCtorEq,zzR,gos,Int.reduceAdd,Int.reduceSub,Int.reduceMul,Int.reduceEq,c0,SK.len])
    | false =>
      clear back
      rcases q2 with ⟨rfl,q4⟩|⟨rfl,q4⟩
      · refine X_startP (n:=74) (m:=4) (rs:=[.tmp 8]) Try.func8 rfl rfl rfl rfl (by decide) fun base => ?_
        repeat (first|((first|refine X_call_fn2 rfl (by simp only [tys]) ?_|refine X_dcall_fn2 rfl (by simp only [tys]) ?_); apply Exists.intro; apply And.intro; (focus (simp -dsimp only [simx,zzC,zzB,tys,ite_self,opnL,callB,callX,readsB,stepOp,nilCmp,ofVal,opBuiltin,opLen,PV.sk,scalBin,scalUn,intBin,opLoad,natOf,opConvert,opField,cellsP,oneP,Value.oneCell',opStore,toIV,scalT,scalA,scalC,boxesA,boxesC,zipB_none,zipB_mx,isZ,opZip,zeroP,opAppendZ,opMakeMap,opLookup,mboxB,opUpdate,↓reduceIte,Nat.reduceSub,Nat.reduceEqDiff,Nat.reduceAdd,Nat.reduceMul,Nat.reduceLT,Nat.reduceLeDiff,Int.reduceToNat,Int.reduceLE,Int.reduceLT,Int.reduceNeg,reduceCtorEq,zzL,if_true,if_false] <;> rfl)); apply Exists.intro; apply And.intro; (focus (first|exact d0|exact d3|exact e1|exact e2|exact q1|exact q4|exact q3)))|refine X_opc rfl ?_|refine X_dopc rfl ?_|refine ⟨(by show drawK _ _=true; kernel_rfl:drawX _ _ _),?_⟩|exact (by show drawK _ _=true; kernel_rfl:drawX _ _ _)|simp -dsimp (maxSteps:=20000000) (disch:=omega) only [simx,zzC,zzB,tys,ite_self,opnL,callB,callX,readsB,stepOp,nilCmp,ofVal,opBuiltin,opLen,PV.sk,scalBin,scalUn,intBin,opLoad,natOf,opConvert,opField,cellsP,oneP,Value.oneCell',opStore,toIV,scalT,scalA,scalC,boxesA,boxesC,zipB_none,zipB_mx,isZ,opZip,zeroP,opAppendZ,opMakeMap,opLookup,mboxB,opUpdate,↓reduceIte,Nat.reduceSub,Nat.reduceEqDiff,Nat.reduceAdd,Nat.reduceMul,Nat.reduceLT,Nat.reduceLeDiff,Int.reduceToNat,Int.reduceLE,Int.reduceLT,Int.reduceNeg,reduceCtorEq,zzR,gos,Int.reduceAdd,Int.reduceSub,Int.reduceMul,Int.reduceEq,c0])
      · cases q4
        refine X_startP (n:=74) (m:=4) (rs:=[.tmp 8]) Try.func8 rfl rfl rfl rfl (by decide) fun base => ?_
        repeat (first|((first|refine X_call_fn2 rfl (by simp only [tys]) ?_|refine X_dcall_fn2 rfl (by simp only [tys]) ?_); apply Exists.intro; apply And.intro; (focus (simp -dsimp only [simx,zzC,zzB,tys,ite_self,opnL,callB,callX,readsB,stepOp,nilCmp,ofVal,opBuiltin,opLen,PV.sk,scalBin,scalUn,intBin,opLoad,natOf,opConvert,opField,cellsP,oneP,Value.oneCell',opStore,toIV,scalT,scalA,scalC,boxesA,boxesC,zipB_none,zipB_mx,isZ,opZip,zeroP,opAppendZ,opMakeMap,opLookup,mboxB,opUpdate,↓reduceIte,Nat.reduceSub,Nat.reduceEqDiff,Nat.reduceAdd,Nat.reduceMul,Nat.reduceLT,Nat.reduceLeDiff,Int.reduceToNat,Int.reduceLE,Int.reduceLT,Int.reduceNeg,reduceCtorEq,zzL,if_true,if_false] <;> rfl)); apply Exists.intro; apply And.intro; (focus (first|exact d0|exact d3|exact e1|exact e2|exact q1)))|refine X_opc rfl ?_|refine X_dopc rfl ?_|refine ⟨(by show drawK _ _=true; kernel_rfl:drawX _ _ _),?_⟩|exact (by show drawK _ _=true; kernel_rfl:drawX _ _ _)|simp -dsimp (maxSteps:=20000000) (disch:=omega) only [simx,zzC,zzB,tys,ite_self,opnL,callB,callX,readsB,stepOp,nilCmp,ofVal,opBuiltin,opLen,PV.sk,scalBin,scalUn,intBin,opLoad,natOf,opConvert,opField,cellsP,oneP,Value.oneCell',opStore,toIV,scalT,scalA,scalC,boxesA,boxesC,zipB_none,zipB_mx,isZ,opZip,zeroP,opAppendZ,opMakeMap,opLookup,mboxB,opUpdate,↓reduceIte,Nat.reduceSub,Nat.reduceEqDiff,Nat.reduceAdd,Nat.reduceMul,Nat.reduceLT,Nat.reduceLeDiff,Int.reduceToNat,Int.reduceLE,Int.reduceLT,Int.reduceNeg,reduceCtorEq,zzR,gos,Int.reduceAdd,Int.reduceSub,Int.reduceMul,Int.reduceEq,c0,SK.len])
end Go.Proofs.Ytmalpmnmknpphaa.TM
