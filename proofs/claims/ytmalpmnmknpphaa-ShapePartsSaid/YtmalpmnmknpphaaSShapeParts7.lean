/- What is proved of functions, and plain facts, part 7. Conditions: none. -/
import Derived.Test.YtmalpmnmknpphaaSShapeParts6
set_option linter.defProp false
set_option linter.unusedSectionVars false
set_option linter.unusedSimpArgs false
set_option linter.unusedVariables false
namespace Go.Proofs.Ytmalpmnmknpphaa.TM
open Go Go.RowKit
attribute [local irreducible] K W WOps Effs Xg Xo Xr Xdg Xdo Xdr Xif CallsP CallR
def shortP (c:CupT):Prop:=c.2.2.1.length ≤ 70 ∧ c.2.2.2.length ≤ 20 ∧ (∀ i,i < c.2.2.1.length → (c.2.2.1.getD i []).length ≤ 70) ∧ ∀ i,i < c.2.2.2.length → (c.2.2.2.getD i []).length ≤ 70
set_option maxHeartbeats 4000000 in
theorem short07_walk (c:CupT):∃ b:Bool,CallsP Try.prog 82 [cupQ c] (bl b) ∧ (b=true ↔ shortP c):=by
  obtain ⟨rws,cls,cc,uu⟩:=c
  obtain ⟨b,hb⟩:=bool_of (shortP (rws,cls,cc,uu))
  refine ⟨b,?_,hb⟩
  have row:∀ (l:List (List Int)) q,q < l.length → (l.map fun u => IV.l u.length (u.map iu))[q]?=some (.l (l.getD q []).length ((l.getD q []).map iu)):=fun l q hq => by rw [List.getElem?_map,getD_at' (d:=[]) hq]; rfl
  by_cases c1:(70:Int) < cc.length
  · rw [bool_no hb fun h => by have:=h.1; simp only at this; omega]
    refine X_startP (n:=43) (m:=1) (rs:=[.tmp 2]) Try.func82 rfl rfl rfl rfl (by decide) fun base => ?_
    repeat (first|refine X_opc rfl ?_|refine X_dopc rfl ?_|refine ⟨(by show drawK _ _=true; kernel_rfl:drawX _ _ _),?_⟩|exact (by show drawK _ _=true; kernel_rfl:drawX _ _ _)|simp -dsimp (maxSteps:=20000000) (disch:=omega) only [simx,zzC,zzB,tys,ite_self,opnL,callB,callX,readsB,stepOp,nilCmp,ofVal,opBuiltin,opLen,PV.sk,scalBin,scalUn,intBin,opLoad,natOf,opConvert,opField,cellsP,oneP,Value.oneCell',opStore,toIV,scalT,scalA,scalC,boxesA,boxesC,zipB_none,zipB_mx,isZ,opZip,zeroP,opAppendZ,opMakeMap,opLookup,mboxB,opUpdate,↓reduceIte,Nat.reduceSub,Nat.reduceEqDiff,Nat.reduceAdd,Nat.reduceMul,Nat.reduceLT,Nat.reduceLeDiff,Int.reduceToNat,Int.reduceLE,Int.reduceLT,Int.reduceNeg,reduceCtorEq,zzR,gos,Int.reduceAdd,Int.reduceSub,Int.reduceMul,Int.reduceEq,c1,SK.len])
  by_cases c2:(20:Int) < uu.length
  · rw [bool_no hb fun h => by have:=h.2.1; simp only at this; omega]
    refine X_startP (n:=43) (m:=1) (rs:=[.tmp 2]) Try.func82 rfl rfl rfl rfl (by decide) fun base => ?_
    repeat (first|refine X_opc rfl ?_|refine X_dopc rfl ?_|refine ⟨(by show drawK _ _=true; kernel_rfl:drawX _ _ _),?_⟩|exact (by show drawK _ _=true; kernel_rfl:drawX _ _ _)|simp -dsimp (maxSteps:=20000000) (disch:=omega) only [simx,zzC,zzB,tys,ite_self,opnL,callB,callX,readsB,stepOp,nilCmp,ofVal,opBuiltin,opLen,PV.sk,scalBin,scalUn,intBin,opLoad,natOf,opConvert,opField,cellsP,oneP,Value.oneCell',opStore,toIV,scalT,scalA,scalC,boxesA,boxesC,zipB_none,zipB_mx,isZ,opZip,zeroP,opAppendZ,opMakeMap,opLookup,mboxB,opUpdate,↓reduceIte,Nat.reduceSub,Nat.reduceEqDiff,Nat.reduceAdd,Nat.reduceMul,Nat.reduceLT,Nat.reduceLeDiff,Int.reduceToNat,Int.reduceLE,Int.reduceLT,Int.reduceNeg,reduceCtorEq,zzR,gos,Int.reduceAdd,Int.reduceSub,Int.reduceMul,Int.reduceEq,c1,c2,SK.len])
  have hb2:b=true ↔ (∀ i,i < cc.length → (cc.getD i []).length ≤ 70) ∧ ∀ i,i < uu.length → (uu.getD i []).length ≤ 70:=hb.trans ⟨fun h => h.2.2,fun h => ⟨by show cc.length ≤ 70; omega,by show uu.length ≤ 20; omega,h⟩⟩
  clear hb
  refine X_startP (n:=43) (m:=1) (rs:=[.tmp 2]) Try.func82 rfl rfl rfl rfl (by decide) fun base => ?_
  repeat (first|refine X_opc rfl ?_|refine X_dopc rfl ?_|refine ⟨(by show drawK _ _=true; kernel_rfl:drawX _ _ _),?_⟩|exact (by show drawK _ _=true; kernel_rfl:drawX _ _ _)|simp -dsimp (maxSteps:=20000000) (disch:=omega) only [simx,zzC,zzB,tys,ite_self,opnL,callB,callX,readsB,stepOp,nilCmp,ofVal,opBuiltin,opLen,PV.sk,scalBin,scalUn,intBin,opLoad,natOf,opConvert,opField,cellsP,oneP,Value.oneCell',opStore,toIV,scalT,scalA,scalC,boxesA,boxesC,zipB_none,zipB_mx,isZ,opZip,zeroP,opAppendZ,opMakeMap,opLookup,mboxB,opUpdate,↓reduceIte,Nat.reduceSub,Nat.reduceEqDiff,Nat.reduceAdd,Nat.reduceMul,Nat.reduceLT,Nat.reduceLeDiff,Int.reduceToNat,Int.reduceLE,Int.reduceLT,Int.reduceNeg,reduceCtorEq,gos,Int.reduceAdd,Int.reduceSub,Int.reduceMul,Int.reduceEq,c1,c2,SK.len])
  refine X_loopH [1,3] [] (0) (cc.length) (fun j => (∀ i,i < j → (cc.getD i []).length ≤ 70)) (fun j => [(3,i64 j)]) (fun j => Heap.none.put ((0,0)::base) (.var [li rws,li cls,llP cc,llP uu])) ?_ ?_ ?_ ?_ ?_ (by decide) ?_
  · exact (fgt_nil)
  · ((simp -dsimp (disch:=omega) only [simx,zzB,tys,ite_self,opnL,callB,callX,readsB,stepOp,nilCmp,ofVal,opBuiltin,opLen,PV.sk,scalBin,scalUn,intBin,opLoad,natOf,opConvert,opField,cellsP,oneP,Value.oneCell',opStore,toIV,scalT,scalA,scalC,boxesA,boxesC,zipB_none,zipB_mx,isZ,opZip,zeroP,opAppendZ,opMakeMap,opLookup,mboxB,opUpdate,↓reduceIte,Nat.reduceSub,Nat.reduceEqDiff,Nat.reduceAdd,Nat.reduceMul,Nat.reduceLT,Nat.reduceLeDiff,Int.reduceToNat,Int.reduceLE,Int.reduceLT,Int.reduceNeg,reduceCtorEq,gos,Int.reduceAdd,Int.reduceSub,Int.reduceMul,Int.reduceEq]) <;> first|rfl|simp)
  · exact drop_nil _
  · omega
  · intro i hi; omega
  · intro j hj hf
    by_cases cj:j < cc.length
    · have g:=row cc j cj
      by_cases h1:(70:Int) < (cc.getD j []).length
      · rw [bool_no hb2 fun h => by have:=h.1 j cj; omega]
        clear hf hb2 row
        generalize cc.getD j []=X at g h1
        repeat (first|refine X_opc rfl ?_|refine X_dopc rfl ?_|refine ⟨(by show drawK _ _=true; kernel_rfl:drawX _ _ _),?_⟩|exact (by show drawK _ _=true; kernel_rfl:drawX _ _ _)|simp -dsimp (maxSteps:=20000000) (disch:=omega) only [simx,zzC,zzB,tys,ite_self,opnL,callB,callX,readsB,stepOp,nilCmp,ofVal,opBuiltin,opLen,PV.sk,scalBin,scalUn,intBin,opLoad,natOf,opConvert,opField,cellsP,oneP,Value.oneCell',opStore,toIV,scalT,scalA,scalC,boxesA,boxesC,zipB_none,zipB_mx,isZ,opZip,zeroP,opAppendZ,opMakeMap,opLookup,mboxB,opUpdate,↓reduceIte,Nat.reduceSub,Nat.reduceEqDiff,Nat.reduceAdd,Nat.reduceMul,Nat.reduceLT,Nat.reduceLeDiff,Int.reduceToNat,Int.reduceLE,Int.reduceLT,Int.reduceNeg,reduceCtorEq,zzR,gos,Int.reduceAdd,Int.reduceSub,Int.reduceMul,Int.reduceEq,cj,g,h1,SK.len,List.length_map])
      · have al:∀ i,i < j + 1 → (cc.getD i []).length ≤ 70:=fun i hi => by
          by_cases e:i=j
          · rw [e]; omega
          · exact hf i (by omega)
        clear hf hb2 row
        generalize cc.getD j []=X at g h1
        repeat (first|refine X_opc rfl ?_|refine X_dopc rfl ?_|refine ⟨(by show drawK _ _=true; kernel_rfl:drawX _ _ _),?_⟩|exact (by show drawK _ _=true; kernel_rfl:drawX _ _ _)|simp -dsimp (maxSteps:=20000000) (disch:=omega) only [simx,zzC,zzB,tys,ite_self,opnL,callB,callX,readsB,stepOp,nilCmp,ofVal,opBuiltin,opLen,PV.sk,scalBin,scalUn,intBin,opLoad,natOf,opConvert,opField,cellsP,oneP,Value.oneCell',opStore,toIV,scalT,scalA,scalC,boxesA,boxesC,zipB_none,zipB_mx,isZ,opZip,zeroP,opAppendZ,opMakeMap,opLookup,mboxB,opUpdate,↓reduceIte,Nat.reduceSub,Nat.reduceEqDiff,Nat.reduceAdd,Nat.reduceMul,Nat.reduceLT,Nat.reduceLeDiff,Int.reduceToNat,Int.reduceLE,Int.reduceLT,Int.reduceNeg,reduceCtorEq,gos,Int.reduceAdd,Int.reduceSub,Int.reduceMul,Int.reduceEq,cj,g,h1,SK.len,List.length_map])
        exact ⟨cj,(fgt_nil),al,rfl,drop_nil _⟩
    · obtain rfl:cc.length=j:=by omega
      repeat (first|refine X_opc rfl ?_|refine X_dopc rfl ?_|refine ⟨(by show drawK _ _=true; kernel_rfl:drawX _ _ _),?_⟩|exact (by show drawK _ _=true; kernel_rfl:drawX _ _ _)|simp -dsimp (maxSteps:=20000000) (disch:=omega) only [simx,zzC,zzB,tys,ite_self,opnL,callB,callX,readsB,stepOp,nilCmp,ofVal,opBuiltin,opLen,PV.sk,scalBin,scalUn,intBin,opLoad,natOf,opConvert,opField,cellsP,oneP,Value.oneCell',opStore,toIV,scalT,scalA,scalC,boxesA,boxesC,zipB_none,zipB_mx,isZ,opZip,zeroP,opAppendZ,opMakeMap,opLookup,mboxB,opUpdate,↓reduceIte,Nat.reduceSub,Nat.reduceEqDiff,Nat.reduceAdd,Nat.reduceMul,Nat.reduceLT,Nat.reduceLeDiff,Int.reduceToNat,Int.reduceLE,Int.reduceLT,Int.reduceNeg,reduceCtorEq,gos,Int.reduceAdd,Int.reduceSub,Int.reduceMul,Int.reduceEq,SK.len])
      refine X_loopH [1,4] [] (0) (uu.length) (fun j => (∀ i,i < j → (uu.getD i []).length ≤ 70)) (fun j => [(4,i64 j)]) (fun j => Heap.none.put ((0,0)::base) (.var [li rws,li cls,llP cc,llP uu])) ?_ ?_ ?_ ?_ ?_ (by decide) ?_
      · exact (fgt_nil)
      · ((simp -dsimp (disch:=omega) only [simx,zzB,tys,ite_self,opnL,callB,callX,readsB,stepOp,nilCmp,ofVal,opBuiltin,opLen,PV.sk,scalBin,scalUn,intBin,opLoad,natOf,opConvert,opField,cellsP,oneP,Value.oneCell',opStore,toIV,scalT,scalA,scalC,boxesA,boxesC,zipB_none,zipB_mx,isZ,opZip,zeroP,opAppendZ,opMakeMap,opLookup,mboxB,opUpdate,↓reduceIte,Nat.reduceSub,Nat.reduceEqDiff,Nat.reduceAdd,Nat.reduceMul,Nat.reduceLT,Nat.reduceLeDiff,Int.reduceToNat,Int.reduceLE,Int.reduceLT,Int.reduceNeg,reduceCtorEq,gos,Int.reduceAdd,Int.reduceSub,Int.reduceMul,Int.reduceEq]) <;> first|rfl|simp)
      · exact drop_nil _
      · omega
      · intro i hi; omega
      · intro j hj hg
        by_cases cj:j < uu.length
        · have g:=row uu j cj
          by_cases h1:(70:Int) < (uu.getD j []).length
          · rw [bool_no hb2 fun h => by have:=h.2 j cj; omega]
            clear hf hg hb2 row
            generalize uu.getD j []=X at g h1
            repeat (first|refine X_opc rfl ?_|refine X_dopc rfl ?_|refine ⟨(by show drawK _ _=true; kernel_rfl:drawX _ _ _),?_⟩|exact (by show drawK _ _=true; kernel_rfl:drawX _ _ _)|simp -dsimp (maxSteps:=20000000) (disch:=omega) only [simx,zzC,zzB,tys,ite_self,opnL,callB,callX,readsB,stepOp,nilCmp,ofVal,opBuiltin,opLen,PV.sk,scalBin,scalUn,intBin,opLoad,natOf,opConvert,opField,cellsP,oneP,Value.oneCell',opStore,toIV,scalT,scalA,scalC,boxesA,boxesC,zipB_none,zipB_mx,isZ,opZip,zeroP,opAppendZ,opMakeMap,opLookup,mboxB,opUpdate,↓reduceIte,Nat.reduceSub,Nat.reduceEqDiff,Nat.reduceAdd,Nat.reduceMul,Nat.reduceLT,Nat.reduceLeDiff,Int.reduceToNat,Int.reduceLE,Int.reduceLT,Int.reduceNeg,reduceCtorEq,zzR,gos,Int.reduceAdd,Int.reduceSub,Int.reduceMul,Int.reduceEq,cj,g,h1,SK.len,List.length_map])
          · have al:∀ i,i < j + 1 → (uu.getD i []).length ≤ 70:=fun i hi => by
              by_cases e:i=j
              · rw [e]; omega
              · exact hg i (by omega)
            clear hf hg hb2 row
            generalize uu.getD j []=X at g h1
            repeat (first|refine X_opc rfl ?_|refine X_dopc rfl ?_|refine ⟨(by show drawK _ _=true; kernel_rfl:drawX _ _ _),?_⟩|exact (by show drawK _ _=true; kernel_rfl:drawX _ _ _)|simp -dsimp (maxSteps:=20000000) (disch:=omega) only [simx,zzC,zzB,tys,ite_self,opnL,callB,callX,readsB,stepOp,nilCmp,ofVal,opBuiltin,opLen,PV.sk,scalBin,scalUn,intBin,opLoad,natOf,opConvert,opField,cellsP,oneP,Value.oneCell',opStore,toIV,scalT,scalA,scalC,boxesA,boxesC,zipB_none,zipB_mx,isZ,opZip,zeroP,opAppendZ,opMakeMap,opLookup,mboxB,opUpdate,↓reduceIte,Nat.reduceSub,Nat.reduceEqDiff,Nat.reduceAdd,Nat.reduceMul,Nat.reduceLT,Nat.reduceLeDiff,Int.reduceToNat,Int.reduceLE,Int.reduceLT,Int.reduceNeg,reduceCtorEq,gos,Int.reduceAdd,Int.reduceSub,Int.reduceMul,Int.reduceEq,cj,g,h1,SK.len,List.length_map])
            exact ⟨cj,(fgt_nil),al,rfl,drop_nil _⟩
        · obtain rfl:uu.length=j:=by omega
          rw [hb2.2 ⟨hf,hg⟩]
          repeat (first|refine X_opc rfl ?_|refine X_dopc rfl ?_|refine ⟨(by show drawK _ _=true; kernel_rfl:drawX _ _ _),?_⟩|exact (by show drawK _ _=true; kernel_rfl:drawX _ _ _)|simp -dsimp (maxSteps:=20000000) (disch:=omega) only [simx,zzC,zzB,tys,ite_self,opnL,callB,callX,readsB,stepOp,nilCmp,ofVal,opBuiltin,opLen,PV.sk,scalBin,scalUn,intBin,opLoad,natOf,opConvert,opField,cellsP,oneP,Value.oneCell',opStore,toIV,scalT,scalA,scalC,boxesA,boxesC,zipB_none,zipB_mx,isZ,opZip,zeroP,opAppendZ,opMakeMap,opLookup,mboxB,opUpdate,↓reduceIte,Nat.reduceSub,Nat.reduceEqDiff,Nat.reduceAdd,Nat.reduceMul,Nat.reduceLT,Nat.reduceLeDiff,Int.reduceToNat,Int.reduceLE,Int.reduceLT,Int.reduceNeg,reduceCtorEq,zzR,gos,Int.reduceAdd,Int.reduceSub,Int.reduceMul,Int.reduceEq,SK.len])
theorem short13_walk (c:CupT):∃ b:Bool,CallsP Try.prog 38 [cupQ c] (bl b) ∧ (b=true ↔ shortP c ∧ c.1.length ≤ 70 ∧ c.2.1.length ≤ 70):=by
  obtain ⟨b0,d,hb⟩:=short07_walk c
  obtain ⟨rws,cls,cc,uu⟩:=c
  cases b0 with
  | false =>
    refine ⟨false,?_,⟨fun h => (by cases h),fun h => by have:=hb.2 h.1; cases this⟩⟩
    refine X_startP (n:=17) (m:=1) (rs:=[.tmp 2]) Try.func38 rfl rfl rfl rfl (by decide) fun base => ?_
    repeat (first|((first|refine X_call_fn2 rfl (by simp only [tys]) ?_|refine X_dcall_fn2 rfl (by simp only [tys]) ?_); apply Exists.intro; apply And.intro; (focus (simp -dsimp only [simx,zzC,zzB,tys,ite_self,opnL,callB,callX,readsB,stepOp,nilCmp,ofVal,opBuiltin,opLen,PV.sk,scalBin,scalUn,intBin,opLoad,natOf,opConvert,opField,cellsP,oneP,Value.oneCell',opStore,toIV,scalT,scalA,scalC,boxesA,boxesC,zipB_none,zipB_mx,isZ,opZip,zeroP,opAppendZ,opMakeMap,opLookup,mboxB,opUpdate,↓reduceIte,Nat.reduceSub,Nat.reduceEqDiff,Nat.reduceAdd,Nat.reduceMul,Nat.reduceLT,Nat.reduceLeDiff,Int.reduceToNat,Int.reduceLE,Int.reduceLT,Int.reduceNeg,reduceCtorEq,zzL,if_true,if_false] <;> rfl)); apply Exists.intro; apply And.intro; (focus (first|exact d)))|refine X_opc rfl ?_|refine X_dopc rfl ?_|refine ⟨(by show drawK _ _=true; kernel_rfl:drawX _ _ _),?_⟩|exact (by show drawK _ _=true; kernel_rfl:drawX _ _ _)|simp -dsimp (maxSteps:=20000000) (disch:=omega) only [simx,zzC,zzB,tys,ite_self,opnL,callB,callX,readsB,stepOp,nilCmp,ofVal,opBuiltin,opLen,PV.sk,scalBin,scalUn,intBin,opLoad,natOf,opConvert,opField,cellsP,oneP,Value.oneCell',opStore,toIV,scalT,scalA,scalC,boxesA,boxesC,zipB_none,zipB_mx,isZ,opZip,zeroP,opAppendZ,opMakeMap,opLookup,mboxB,opUpdate,↓reduceIte,Nat.reduceSub,Nat.reduceEqDiff,Nat.reduceAdd,Nat.reduceMul,Nat.reduceLT,Nat.reduceLeDiff,Int.reduceToNat,Int.reduceLE,Int.reduceLT,Int.reduceNeg,reduceCtorEq,zzR,gos,Int.reduceAdd,Int.reduceSub,Int.reduceMul,Int.reduceEq])
  | true =>
    have hs:=hb.1 rfl
    by_cases c1:(rws.length:Int) ≤ 70
    · by_cases c2:(cls.length:Int) ≤ 70
      · refine ⟨true,?_,⟨fun _ => ⟨hs,by show rws.length ≤ 70; omega,by show cls.length ≤ 70; omega⟩,fun _ => rfl⟩⟩
        refine X_startP (n:=17) (m:=1) (rs:=[.tmp 2]) Try.func38 rfl rfl rfl rfl (by decide) fun base => ?_
        repeat (first|((first|refine X_call_fn2 rfl (by simp only [tys]) ?_|refine X_dcall_fn2 rfl (by simp only [tys]) ?_); apply Exists.intro; apply And.intro; (focus (simp -dsimp only [simx,zzC,zzB,tys,ite_self,opnL,callB,callX,readsB,stepOp,nilCmp,ofVal,opBuiltin,opLen,PV.sk,scalBin,scalUn,intBin,opLoad,natOf,opConvert,opField,cellsP,oneP,Value.oneCell',opStore,toIV,scalT,scalA,scalC,boxesA,boxesC,zipB_none,zipB_mx,isZ,opZip,zeroP,opAppendZ,opMakeMap,opLookup,mboxB,opUpdate,↓reduceIte,Nat.reduceSub,Nat.reduceEqDiff,Nat.reduceAdd,Nat.reduceMul,Nat.reduceLT,Nat.reduceLeDiff,Int.reduceToNat,Int.reduceLE,Int.reduceLT,Int.reduceNeg,reduceCtorEq,zzL,if_true,if_false] <;> rfl)); apply Exists.intro; apply And.intro; (focus (first|exact d)))|refine X_opc rfl ?_|refine X_dopc rfl ?_|refine ⟨(by show drawK _ _=true; kernel_rfl:drawX _ _ _),?_⟩|exact (by show drawK _ _=true; kernel_rfl:drawX _ _ _)|simp -dsimp (maxSteps:=20000000) (disch:=omega) only [simx,zzC,zzB,tys,ite_self,opnL,callB,callX,readsB,stepOp,nilCmp,ofVal,opBuiltin,opLen,PV.sk,scalBin,scalUn,intBin,opLoad,natOf,opConvert,opField,cellsP,oneP,Value.oneCell',opStore,toIV,scalT,scalA,scalC,boxesA,boxesC,zipB_none,zipB_mx,isZ,opZip,zeroP,opAppendZ,opMakeMap,opLookup,mboxB,opUpdate,↓reduceIte,Nat.reduceSub,Nat.reduceEqDiff,Nat.reduceAdd,Nat.reduceMul,Nat.reduceLT,Nat.reduceLeDiff,Int.reduceToNat,Int.reduceLE,Int.reduceLT,Int.reduceNeg,reduceCtorEq,zzR,gos,Int.reduceAdd,Int.reduceSub,Int.reduceMul,Int.reduceEq,c1,c2,SK.len])
      · refine ⟨false,?_,⟨fun h => (by cases h),fun h => by have:=h.2.2; simp only at this; omega⟩⟩
        refine X_startP (n:=17) (m:=1) (rs:=[.tmp 2]) Try.func38 rfl rfl rfl rfl (by decide) fun base => ?_
        repeat (first|((first|refine X_call_fn2 rfl (by simp only [tys]) ?_|refine X_dcall_fn2 rfl (by simp only [tys]) ?_); apply Exists.intro; apply And.intro; (focus (simp -dsimp only [simx,zzC,zzB,tys,ite_self,opnL,callB,callX,readsB,stepOp,nilCmp,ofVal,opBuiltin,opLen,PV.sk,scalBin,scalUn,intBin,opLoad,natOf,opConvert,opField,cellsP,oneP,Value.oneCell',opStore,toIV,scalT,scalA,scalC,boxesA,boxesC,zipB_none,zipB_mx,isZ,opZip,zeroP,opAppendZ,opMakeMap,opLookup,mboxB,opUpdate,↓reduceIte,Nat.reduceSub,Nat.reduceEqDiff,Nat.reduceAdd,Nat.reduceMul,Nat.reduceLT,Nat.reduceLeDiff,Int.reduceToNat,Int.reduceLE,Int.reduceLT,Int.reduceNeg,reduceCtorEq,zzL,if_true,if_false] <;> rfl)); apply Exists.intro; apply And.intro; (focus (first|exact d)))|refine X_opc rfl ?_|refine X_dopc rfl ?_|refine ⟨(by show drawK _ _=true; kernel_rfl:drawX _ _ _),?_⟩|exact (by show drawK _ _=true; kernel_rfl:drawX _ _ _)|simp -dsimp (maxSteps:=20000000) (disch:=omega) only [simx,zzC,zzB,tys,ite_self,opnL,callB,callX,readsB,stepOp,nilCmp,ofVal,opBuiltin,opLen,PV.sk,scalBin,scalUn,intBin,opLoad,natOf,opConvert,opField,cellsP,oneP,Value.oneCell',opStore,toIV,scalT,scalA,scalC,boxesA,boxesC,zipB_none,zipB_mx,isZ,opZip,zeroP,opAppendZ,opMakeMap,opLookup,mboxB,opUpdate,↓reduceIte,Nat.reduceSub,Nat.reduceEqDiff,Nat.reduceAdd,Nat.reduceMul,Nat.reduceLT,Nat.reduceLeDiff,Int.reduceToNat,Int.reduceLE,Int.reduceLT,Int.reduceNeg,reduceCtorEq,zzR,gos,Int.reduceAdd,Int.reduceSub,Int.reduceMul,Int.reduceEq,c1,c2,SK.len])
    · refine ⟨false,?_,⟨fun h => (by cases h),fun h => by have:=h.2.1; simp only at this; omega⟩⟩
      refine X_startP (n:=17) (m:=1) (rs:=[.tmp 2]) Try.func38 rfl rfl rfl rfl (by decide) fun base => ?_
      repeat (first|((first|refine X_call_fn2 rfl (by simp only [tys]) ?_|refine X_dcall_fn2 rfl (by simp only [tys]) ?_); apply Exists.intro; apply And.intro; (focus (simp -dsimp only [simx,zzC,zzB,tys,ite_self,opnL,callB,callX,readsB,stepOp,nilCmp,ofVal,opBuiltin,opLen,PV.sk,scalBin,scalUn,intBin,opLoad,natOf,opConvert,opField,cellsP,oneP,Value.oneCell',opStore,toIV,scalT,scalA,scalC,boxesA,boxesC,zipB_none,zipB_mx,isZ,opZip,zeroP,opAppendZ,opMakeMap,opLookup,mboxB,opUpdate,↓reduceIte,Nat.reduceSub,Nat.reduceEqDiff,Nat.reduceAdd,Nat.reduceMul,Nat.reduceLT,Nat.reduceLeDiff,Int.reduceToNat,Int.reduceLE,Int.reduceLT,Int.reduceNeg,reduceCtorEq,zzL,if_true,if_false] <;> rfl)); apply Exists.intro; apply And.intro; (focus (first|exact d)))|refine X_opc rfl ?_|refine X_dopc rfl ?_|refine ⟨(by show drawK _ _=true; kernel_rfl:drawX _ _ _),?_⟩|exact (by show drawK _ _=true; kernel_rfl:drawX _ _ _)|simp -dsimp (maxSteps:=20000000) (disch:=omega) only [simx,zzC,zzB,tys,ite_self,opnL,callB,callX,readsB,stepOp,nilCmp,ofVal,opBuiltin,opLen,PV.sk,scalBin,scalUn,intBin,opLoad,natOf,opConvert,opField,cellsP,oneP,Value.oneCell',opStore,toIV,scalT,scalA,scalC,boxesA,boxesC,zipB_none,zipB_mx,isZ,opZip,zeroP,opAppendZ,opMakeMap,opLookup,mboxB,opUpdate,↓reduceIte,Nat.reduceSub,Nat.reduceEqDiff,Nat.reduceAdd,Nat.reduceMul,Nat.reduceLT,Nat.reduceLeDiff,Int.reduceToNat,Int.reduceLE,Int.reduceLT,Int.reduceNeg,reduceCtorEq,zzR,gos,Int.reduceAdd,Int.reduceSub,Int.reduceMul,Int.reduceEq,c1,SK.len])
set_option maxHeartbeats 4000000 in
theorem grid_walk (a b:List (List Int)) (ha:a.length ≤ 4096) (hr:∀ u ∈ a,u.length ≤ 4096):CallsP Try.prog 94 [llP a,llP b] (bl (decide (a=b))):=by
  by_cases c0:(a.length:Int)=b.length
  case neg =>
    rw [decide_eq_false fun e => c0 (by rw [e])]
    refine X_startP (n:=27) (m:=2) (rs:=[.tmp 4]) Try.func94 rfl rfl rfl rfl (by decide) fun base => ?_
    repeat (first|refine X_opc rfl ?_|refine X_dopc rfl ?_|refine ⟨(by show drawK _ _=true; kernel_rfl:drawX _ _ _),?_⟩|exact (by show drawK _ _=true; kernel_rfl:drawX _ _ _)|simp -dsimp (maxSteps:=20000000) (disch:=omega) only [simx,zzC,zzB,tys,ite_self,opnL,callB,callX,readsB,stepOp,nilCmp,ofVal,opBuiltin,opLen,PV.sk,scalBin,scalUn,intBin,opLoad,natOf,opConvert,opField,cellsP,oneP,Value.oneCell',opStore,toIV,scalT,scalA,scalC,boxesA,boxesC,zipB_none,zipB_mx,isZ,opZip,zeroP,opAppendZ,opMakeMap,opLookup,mboxB,opUpdate,↓reduceIte,Nat.reduceSub,Nat.reduceEqDiff,Nat.reduceAdd,Nat.reduceMul,Nat.reduceLT,Nat.reduceLeDiff,Int.reduceToNat,Int.reduceLE,Int.reduceLT,Int.reduceNeg,reduceCtorEq,zzR,gos,Int.reduceAdd,Int.reduceSub,Int.reduceMul,Int.reduceEq,c0,SK.len])
  obtain ⟨o,ho⟩:=bool_of (a=b)
  rw [show decide (a=b)=o by
    cases o with
    | false => exact decide_eq_false fun e => by have:=ho.2 e; cases this
    | true => exact decide_eq_true (ho.1 rfl)]
  have row:∀ (l:List (List Int)) q,q < l.length → (l.map fun u => IV.l u.length (u.map iu))[q]?=some (.l (l.getD q []).length ((l.getD q []).map iu)):=fun l q hq => by rw [List.getElem?_map,getD_at' (d:=[]) hq]; rfl
  refine X_startP (n:=27) (m:=2) (rs:=[.tmp 4]) Try.func94 rfl rfl rfl rfl (by decide) fun base => ?_
  repeat (first|refine X_opc rfl ?_|refine X_dopc rfl ?_|refine ⟨(by show drawK _ _=true; kernel_rfl:drawX _ _ _),?_⟩|exact (by show drawK _ _=true; kernel_rfl:drawX _ _ _)|simp -dsimp (maxSteps:=20000000) (disch:=omega) only [simx,zzC,zzB,tys,ite_self,opnL,callB,callX,readsB,stepOp,nilCmp,ofVal,opBuiltin,opLen,PV.sk,scalBin,scalUn,intBin,opLoad,natOf,opConvert,opField,cellsP,oneP,Value.oneCell',opStore,toIV,scalT,scalA,scalC,boxesA,boxesC,zipB_none,zipB_mx,isZ,opZip,zeroP,opAppendZ,opMakeMap,opLookup,mboxB,opUpdate,↓reduceIte,Nat.reduceSub,Nat.reduceEqDiff,Nat.reduceAdd,Nat.reduceMul,Nat.reduceLT,Nat.reduceLeDiff,Int.reduceToNat,Int.reduceLE,Int.reduceLT,Int.reduceNeg,reduceCtorEq,gos,Int.reduceAdd,Int.reduceSub,Int.reduceMul,Int.reduceEq,c0,SK.len])
  refine X_loopH [0,1,5] [] (0) (a.length) (fun j => (∀ i,i < j → a.getD i []=b.getD i [])) (fun j => [(5,i64 j)]) (fun j => Heap.none) ?_ ?_ ?_ ?_ ?_ (by decide) ?_
  · exact (fgt_nil)
  · ((simp -dsimp (disch:=omega) only [simx,zzB,tys,ite_self,opnL,callB,callX,readsB,stepOp,nilCmp,ofVal,opBuiltin,opLen,PV.sk,scalBin,scalUn,intBin,opLoad,natOf,opConvert,opField,cellsP,oneP,Value.oneCell',opStore,toIV,scalT,scalA,scalC,boxesA,boxesC,zipB_none,zipB_mx,isZ,opZip,zeroP,opAppendZ,opMakeMap,opLookup,mboxB,opUpdate,↓reduceIte,Nat.reduceSub,Nat.reduceEqDiff,Nat.reduceAdd,Nat.reduceMul,Nat.reduceLT,Nat.reduceLeDiff,Int.reduceToNat,Int.reduceLE,Int.reduceLT,Int.reduceNeg,reduceCtorEq,gos,Int.reduceAdd,Int.reduceSub,Int.reduceMul,Int.reduceEq]) <;> first|rfl|simp)
  · exact drop_nil _
  · omega
  · intro i hi; omega
  · intro j hj hf
    by_cases cj:j < a.length
    · have cj2:j < b.length:=by omega
      have cj3:(j:Int) < b.length:=by omega
      have g1:=row a j cj
      have g2:=row b j cj2
      have s:=same1_walk (a.getD j []) (b.getD j []) (by have:=hr _ (getD_mm (l:=a) (d:=[]) cj); rw [mx_len]; omega)
      by_cases e:a.getD j []=b.getD j []
      · have al:∀ i,i < j + 1 → a.getD i []=b.getD i []:=fun i hi => by
          by_cases e2:i=j
          · rw [e2]; exact e
          · exact hf i (by omega)
        rw [decide_eq_true e] at s
        clear hf ho row e
        generalize a.getD j []=X at g1 s
        generalize b.getD j []=Y at g2 s
        repeat (first|((first|refine X_call_fn2 rfl (by simp only [tys]) ?_|refine X_dcall_fn2 rfl (by simp only [tys]) ?_); apply Exists.intro; apply And.intro; (focus (simp -dsimp only [simx,zzC,zzB,tys,ite_self,opnL,callB,callX,readsB,stepOp,nilCmp,ofVal,opBuiltin,opLen,PV.sk,scalBin,scalUn,intBin,opLoad,natOf,opConvert,opField,cellsP,oneP,Value.oneCell',opStore,toIV,scalT,scalA,scalC,boxesA,boxesC,zipB_none,zipB_mx,isZ,opZip,zeroP,opAppendZ,opMakeMap,opLookup,mboxB,opUpdate,↓reduceIte,Nat.reduceSub,Nat.reduceEqDiff,Nat.reduceAdd,Nat.reduceMul,Nat.reduceLT,Nat.reduceLeDiff,Int.reduceToNat,Int.reduceLE,Int.reduceLT,Int.reduceNeg,reduceCtorEq,zzL,if_true,if_false] <;> rfl)); apply Exists.intro; apply And.intro; (focus (first|exact s)))|refine X_opc rfl ?_|refine X_dopc rfl ?_|refine ⟨(by show drawK _ _=true; kernel_rfl:drawX _ _ _),?_⟩|exact (by show drawK _ _=true; kernel_rfl:drawX _ _ _)|simp -dsimp (maxSteps:=20000000) (disch:=omega) only [simx,zzC,zzB,tys,ite_self,opnL,callB,callX,readsB,stepOp,nilCmp,ofVal,opBuiltin,opLen,PV.sk,scalBin,scalUn,intBin,opLoad,natOf,opConvert,opField,cellsP,oneP,Value.oneCell',opStore,toIV,scalT,scalA,scalC,boxesA,boxesC,zipB_none,zipB_mx,isZ,opZip,zeroP,opAppendZ,opMakeMap,opLookup,mboxB,opUpdate,↓reduceIte,Nat.reduceSub,Nat.reduceEqDiff,Nat.reduceAdd,Nat.reduceMul,Nat.reduceLT,Nat.reduceLeDiff,Int.reduceToNat,Int.reduceLE,Int.reduceLT,Int.reduceNeg,reduceCtorEq,gos,Int.reduceAdd,Int.reduceSub,Int.reduceMul,Int.reduceEq,cj,cj2,cj3,c0,g1,g2,SK.len,List.length_map])
        exact ⟨cj,(fgt_nil),al,rfl,drop_nil _⟩
      · rw [decide_eq_false e] at s
        rw [bool_no ho fun h => e (by rw [h])]
        clear hf ho row e
        generalize a.getD j []=X at g1 s
        generalize b.getD j []=Y at g2 s
        repeat (first|((first|refine X_call_fn2 rfl (by simp only [tys]) ?_|refine X_dcall_fn2 rfl (by simp only [tys]) ?_); apply Exists.intro; apply And.intro; (focus (simp -dsimp only [simx,zzC,zzB,tys,ite_self,opnL,callB,callX,readsB,stepOp,nilCmp,ofVal,opBuiltin,opLen,PV.sk,scalBin,scalUn,intBin,opLoad,natOf,opConvert,opField,cellsP,oneP,Value.oneCell',opStore,toIV,scalT,scalA,scalC,boxesA,boxesC,zipB_none,zipB_mx,isZ,opZip,zeroP,opAppendZ,opMakeMap,opLookup,mboxB,opUpdate,↓reduceIte,Nat.reduceSub,Nat.reduceEqDiff,Nat.reduceAdd,Nat.reduceMul,Nat.reduceLT,Nat.reduceLeDiff,Int.reduceToNat,Int.reduceLE,Int.reduceLT,Int.reduceNeg,reduceCtorEq,zzL,if_true,if_false] <;> rfl)); apply Exists.intro; apply And.intro; (focus (first|exact s)))|refine X_opc rfl ?_|refine X_dopc rfl ?_|refine ⟨(by show drawK _ _=true; kernel_rfl:drawX _ _ _),?_⟩|exact (by show drawK _ _=true; kernel_rfl:drawX _ _ _)|simp -dsimp (maxSteps:=20000000) (disch:=omega) only [simx,zzC,zzB,tys,ite_self,opnL,callB,callX,readsB,stepOp,nilCmp,ofVal,opBuiltin,opLen,PV.sk,scalBin,scalUn,intBin,opLoad,natOf,opConvert,opField,cellsP,oneP,Value.oneCell',opStore,toIV,scalT,scalA,scalC,boxesA,boxesC,zipB_none,zipB_mx,isZ,opZip,zeroP,opAppendZ,opMakeMap,opLookup,mboxB,opUpdate,↓reduceIte,Nat.reduceSub,Nat.reduceEqDiff,Nat.reduceAdd,Nat.reduceMul,Nat.reduceLT,Nat.reduceLeDiff,Int.reduceToNat,Int.reduceLE,Int.reduceLT,Int.reduceNeg,reduceCtorEq,zzR,gos,Int.reduceAdd,Int.reduceSub,Int.reduceMul,Int.reduceEq,cj,cj2,cj3,c0,g1,g2,SK.len,List.length_map])
    · obtain rfl:a.length=j:=by omega
      rw [ho.2 (List.ext_getElem (by omega) fun i h1 h2 => by
        have h:=hf i h1
        rwa [List.getD_eq_getElem?_getD,List.getElem?_eq_getElem h1,List.getD_eq_getElem?_getD,List.getElem?_eq_getElem h2] at h)]
      repeat (first|refine X_opc rfl ?_|refine X_dopc rfl ?_|refine ⟨(by show drawK _ _=true; kernel_rfl:drawX _ _ _),?_⟩|exact (by show drawK _ _=true; kernel_rfl:drawX _ _ _)|simp -dsimp (maxSteps:=20000000) (disch:=omega) only [simx,zzC,zzB,tys,ite_self,opnL,callB,callX,readsB,stepOp,nilCmp,ofVal,opBuiltin,opLen,PV.sk,scalBin,scalUn,intBin,opLoad,natOf,opConvert,opField,cellsP,oneP,Value.oneCell',opStore,toIV,scalT,scalA,scalC,boxesA,boxesC,zipB_none,zipB_mx,isZ,opZip,zeroP,opAppendZ,opMakeMap,opLookup,mboxB,opUpdate,↓reduceIte,Nat.reduceSub,Nat.reduceEqDiff,Nat.reduceAdd,Nat.reduceMul,Nat.reduceLT,Nat.reduceLeDiff,Int.reduceToNat,Int.reduceLE,Int.reduceLT,Int.reduceNeg,reduceCtorEq,zzR,gos,Int.reduceAdd,Int.reduceSub,Int.reduceMul,Int.reduceEq,c0,SK.len])
theorem same13_walk (a b:CupT) (h1:a.1.length ≤ 4096) (h2:a.2.1.length ≤ 4096) (h3:a.2.2.1.length ≤ 4096) (h4:a.2.2.2.length ≤ 4096) (h5:∀ u ∈ a.2.2.1,u.length ≤ 4096) (h6:∀ u ∈ a.2.2.2,u.length ≤ 4096):CallsP Try.prog 42 [cupQ a,cupQ b] (bl (decide (a=b))):=by
  obtain ⟨a1,a2,a3,a4⟩:=a
  obtain ⟨b1,b2,b3,b4⟩:=b
  simp only at h1 h2 h3 h4 h5 h6
  have s1:=same6_walk a1 b1 (by rw [mx_len]; omega)
  have s2:=same6_walk a2 b2 (by rw [mx_len]; omega)
  have s3:=grid_walk a3 b3 h3 h5
  have s4:=grid_walk a4 b4 h4 h6
  by_cases e1:a1=b1
  · by_cases e2:a2=b2
    · by_cases e3:a3=b3
      · by_cases e4:a4=b4
        · subst e1 e2 e3 e4
          rw [decide_eq_true rfl] at s1 s2 s3 s4 ⊢
          refine X_startP (n:=31) (m:=2) (rs:=[.tmp 4]) Try.func42 rfl rfl rfl rfl (by decide) fun base => ?_
          repeat (first|((first|refine X_call_fn2 rfl (by simp only [tys]) ?_|refine X_dcall_fn2 rfl (by simp only [tys]) ?_); apply Exists.intro; apply And.intro; (focus (simp -dsimp only [simx,zzC,zzB,tys,ite_self,opnL,callB,callX,readsB,stepOp,nilCmp,ofVal,opBuiltin,opLen,PV.sk,scalBin,scalUn,intBin,opLoad,natOf,opConvert,opField,cellsP,oneP,Value.oneCell',opStore,toIV,scalT,scalA,scalC,boxesA,boxesC,zipB_none,zipB_mx,isZ,opZip,zeroP,opAppendZ,opMakeMap,opLookup,mboxB,opUpdate,↓reduceIte,Nat.reduceSub,Nat.reduceEqDiff,Nat.reduceAdd,Nat.reduceMul,Nat.reduceLT,Nat.reduceLeDiff,Int.reduceToNat,Int.reduceLE,Int.reduceLT,Int.reduceNeg,reduceCtorEq,zzL,if_true,if_false] <;> rfl)); apply Exists.intro; apply And.intro; (focus (first|exact s1|exact s2|exact s3|exact s4)))|refine X_opc rfl ?_|refine X_dopc rfl ?_|refine ⟨(by show drawK _ _=true; kernel_rfl:drawX _ _ _),?_⟩|exact (by show drawK _ _=true; kernel_rfl:drawX _ _ _)|simp -dsimp (maxSteps:=20000000) (disch:=omega) only [simx,zzC,zzB,tys,ite_self,opnL,callB,callX,readsB,stepOp,nilCmp,ofVal,opBuiltin,opLen,PV.sk,scalBin,scalUn,intBin,opLoad,natOf,opConvert,opField,cellsP,oneP,Value.oneCell',opStore,toIV,scalT,scalA,scalC,boxesA,boxesC,zipB_none,zipB_mx,isZ,opZip,zeroP,opAppendZ,opMakeMap,opLookup,mboxB,opUpdate,↓reduceIte,Nat.reduceSub,Nat.reduceEqDiff,Nat.reduceAdd,Nat.reduceMul,Nat.reduceLT,Nat.reduceLeDiff,Int.reduceToNat,Int.reduceLE,Int.reduceLT,Int.reduceNeg,reduceCtorEq,zzR,gos,Int.reduceAdd,Int.reduceSub,Int.reduceMul,Int.reduceEq])
        · rw [decide_eq_true e1] at s1
          rw [decide_eq_true e2] at s2
          rw [decide_eq_true e3] at s3
          rw [decide_eq_false e4] at s4
          rw [decide_eq_false fun h => e4 (by injection h with _ h; injection h with _ h; injection h)]
          refine X_startP (n:=31) (m:=2) (rs:=[.tmp 4]) Try.func42 rfl rfl rfl rfl (by decide) fun base => ?_
          repeat (first|((first|refine X_call_fn2 rfl (by simp only [tys]) ?_|refine X_dcall_fn2 rfl (by simp only [tys]) ?_); apply Exists.intro; apply And.intro; (focus (simp -dsimp only [simx,zzC,zzB,tys,ite_self,opnL,callB,callX,readsB,stepOp,nilCmp,ofVal,opBuiltin,opLen,PV.sk,scalBin,scalUn,intBin,opLoad,natOf,opConvert,opField,cellsP,oneP,Value.oneCell',opStore,toIV,scalT,scalA,scalC,boxesA,boxesC,zipB_none,zipB_mx,isZ,opZip,zeroP,opAppendZ,opMakeMap,opLookup,mboxB,opUpdate,↓reduceIte,Nat.reduceSub,Nat.reduceEqDiff,Nat.reduceAdd,Nat.reduceMul,Nat.reduceLT,Nat.reduceLeDiff,Int.reduceToNat,Int.reduceLE,Int.reduceLT,Int.reduceNeg,reduceCtorEq,zzL,if_true,if_false] <;> rfl)); apply Exists.intro; apply And.intro; (focus (first|exact s1|exact s2|exact s3|exact s4)))|refine X_opc rfl ?_|refine X_dopc rfl ?_|refine ⟨(by show drawK _ _=true; kernel_rfl:drawX _ _ _),?_⟩|exact (by show drawK _ _=true; kernel_rfl:drawX _ _ _)|simp -dsimp (maxSteps:=20000000) (disch:=omega) only [simx,zzC,zzB,tys,ite_self,opnL,callB,callX,readsB,stepOp,nilCmp,ofVal,opBuiltin,opLen,PV.sk,scalBin,scalUn,intBin,opLoad,natOf,opConvert,opField,cellsP,oneP,Value.oneCell',opStore,toIV,scalT,scalA,scalC,boxesA,boxesC,zipB_none,zipB_mx,isZ,opZip,zeroP,opAppendZ,opMakeMap,opLookup,mboxB,opUpdate,↓reduceIte,Nat.reduceSub,Nat.reduceEqDiff,Nat.reduceAdd,Nat.reduceMul,Nat.reduceLT,Nat.reduceLeDiff,Int.reduceToNat,Int.reduceLE,Int.reduceLT,Int.reduceNeg,reduceCtorEq,zzR,gos,Int.reduceAdd,Int.reduceSub,Int.reduceMul,Int.reduceEq])
      · rw [decide_eq_true e1] at s1
        rw [decide_eq_true e2] at s2
        rw [decide_eq_false e3] at s3
        rw [decide_eq_false fun h => e3 (by injection h with _ h; injection h with _ h; injection h)]
        refine X_startP (n:=31) (m:=2) (rs:=[.tmp 4]) Try.func42 rfl rfl rfl rfl (by decide) fun base => ?_
        repeat (first|((first|refine X_call_fn2 rfl (by simp only [tys]) ?_|refine X_dcall_fn2 rfl (by simp only [tys]) ?_); apply Exists.intro; apply And.intro; (focus (simp -dsimp only [simx,zzC,zzB,tys,ite_self,opnL,callB,callX,readsB,stepOp,nilCmp,ofVal,opBuiltin,opLen,PV.sk,scalBin,scalUn,intBin,opLoad,natOf,opConvert,opField,cellsP,oneP,Value.oneCell',opStore,toIV,scalT,scalA,scalC,boxesA,boxesC,zipB_none,zipB_mx,isZ,opZip,zeroP,opAppendZ,opMakeMap,opLookup,mboxB,opUpdate,↓reduceIte,Nat.reduceSub,Nat.reduceEqDiff,Nat.reduceAdd,Nat.reduceMul,Nat.reduceLT,Nat.reduceLeDiff,Int.reduceToNat,Int.reduceLE,Int.reduceLT,Int.reduceNeg,reduceCtorEq,zzL,if_true,if_false] <;> rfl)); apply Exists.intro; apply And.intro; (focus (first|exact s1|exact s2|exact s3)))|refine X_opc rfl ?_|refine X_dopc rfl ?_|refine ⟨(by show drawK _ _=true; kernel_rfl:drawX _ _ _),?_⟩|exact (by show drawK _ _=true; kernel_rfl:drawX _ _ _)|simp -dsimp (maxSteps:=20000000) (disch:=omega) only [simx,zzC,zzB,tys,ite_self,opnL,callB,callX,readsB,stepOp,nilCmp,ofVal,opBuiltin,opLen,PV.sk,scalBin,scalUn,intBin,opLoad,natOf,opConvert,opField,cellsP,oneP,Value.oneCell',opStore,toIV,scalT,scalA,scalC,boxesA,boxesC,zipB_none,zipB_mx,isZ,opZip,zeroP,opAppendZ,opMakeMap,opLookup,mboxB,opUpdate,↓reduceIte,Nat.reduceSub,Nat.reduceEqDiff,Nat.reduceAdd,Nat.reduceMul,Nat.reduceLT,Nat.reduceLeDiff,Int.reduceToNat,Int.reduceLE,Int.reduceLT,Int.reduceNeg,reduceCtorEq,zzR,gos,Int.reduceAdd,Int.reduceSub,Int.reduceMul,Int.reduceEq])
    · rw [decide_eq_true e1] at s1
      rw [decide_eq_false e2] at s2
      rw [decide_eq_false fun h => e2 (by injection h with _ h; injection h)]
      refine X_startP (n:=31) (m:=2) (rs:=[.tmp 4]) Try.func42 rfl rfl rfl rfl (by decide) fun base => ?_
      repeat (first|((first|refine X_call_fn2 rfl (by simp only [tys]) ?_|refine X_dcall_fn2 rfl (by simp only [tys]) ?_); apply Exists.intro; apply And.intro; (focus (simp -dsimp only [simx,zzC,zzB,tys,ite_self,opnL,callB,callX,readsB,stepOp,nilCmp,ofVal,opBuiltin,opLen,PV.sk,scalBin,scalUn,intBin,opLoad,natOf,opConvert,opField,cellsP,oneP,Value.oneCell',opStore,toIV,scalT,scalA,scalC,boxesA,boxesC,zipB_none,zipB_mx,isZ,opZip,zeroP,opAppendZ,opMakeMap,opLookup,mboxB,opUpdate,↓reduceIte,Nat.reduceSub,Nat.reduceEqDiff,Nat.reduceAdd,Nat.reduceMul,Nat.reduceLT,Nat.reduceLeDiff,Int.reduceToNat,Int.reduceLE,Int.reduceLT,Int.reduceNeg,reduceCtorEq,zzL,if_true,if_false] <;> rfl)); apply Exists.intro; apply And.intro; (focus (first|exact s1|exact s2)))|refine X_opc rfl ?_|refine X_dopc rfl ?_|refine ⟨(by show drawK _ _=true; kernel_rfl:drawX _ _ _),?_⟩|exact (by show drawK _ _=true; kernel_rfl:drawX _ _ _)|simp -dsimp (maxSteps:=20000000) (disch:=omega) only [simx,zzC,zzB,tys,ite_self,opnL,callB,callX,readsB,stepOp,nilCmp,ofVal,opBuiltin,opLen,PV.sk,scalBin,scalUn,intBin,opLoad,natOf,opConvert,opField,cellsP,oneP,Value.oneCell',opStore,toIV,scalT,scalA,scalC,boxesA,boxesC,zipB_none,zipB_mx,isZ,opZip,zeroP,opAppendZ,opMakeMap,opLookup,mboxB,opUpdate,↓reduceIte,Nat.reduceSub,Nat.reduceEqDiff,Nat.reduceAdd,Nat.reduceMul,Nat.reduceLT,Nat.reduceLeDiff,Int.reduceToNat,Int.reduceLE,Int.reduceLT,Int.reduceNeg,reduceCtorEq,zzR,gos,Int.reduceAdd,Int.reduceSub,Int.reduceMul,Int.reduceEq])
  · rw [decide_eq_false e1] at s1
    rw [decide_eq_false fun h => e1 (by injection h)]
    refine X_startP (n:=31) (m:=2) (rs:=[.tmp 4]) Try.func42 rfl rfl rfl rfl (by decide) fun base => ?_
    repeat (first|((first|refine X_call_fn2 rfl (by simp only [tys]) ?_|refine X_dcall_fn2 rfl (by simp only [tys]) ?_); apply Exists.intro; apply And.intro; (focus (simp -dsimp only [simx,zzC,zzB,tys,ite_self,opnL,callB,callX,readsB,stepOp,nilCmp,ofVal,opBuiltin,opLen,PV.sk,scalBin,scalUn,intBin,opLoad,natOf,opConvert,opField,cellsP,oneP,Value.oneCell',opStore,toIV,scalT,scalA,scalC,boxesA,boxesC,zipB_none,zipB_mx,isZ,opZip,zeroP,opAppendZ,opMakeMap,opLookup,mboxB,opUpdate,↓reduceIte,Nat.reduceSub,Nat.reduceEqDiff,Nat.reduceAdd,Nat.reduceMul,Nat.reduceLT,Nat.reduceLeDiff,Int.reduceToNat,Int.reduceLE,Int.reduceLT,Int.reduceNeg,reduceCtorEq,zzL,if_true,if_false] <;> rfl)); apply Exists.intro; apply And.intro; (focus (first|exact s1)))|refine X_opc rfl ?_|refine X_dopc rfl ?_|refine ⟨(by show drawK _ _=true; kernel_rfl:drawX _ _ _),?_⟩|exact (by show drawK _ _=true; kernel_rfl:drawX _ _ _)|simp -dsimp (maxSteps:=20000000) (disch:=omega) only [simx,zzC,zzB,tys,ite_self,opnL,callB,callX,readsB,stepOp,nilCmp,ofVal,opBuiltin,opLen,PV.sk,scalBin,scalUn,intBin,opLoad,natOf,opConvert,opField,cellsP,oneP,Value.oneCell',opStore,toIV,scalT,scalA,scalC,boxesA,boxesC,zipB_none,zipB_mx,isZ,opZip,zeroP,opAppendZ,opMakeMap,opLookup,mboxB,opUpdate,↓reduceIte,Nat.reduceSub,Nat.reduceEqDiff,Nat.reduceAdd,Nat.reduceMul,Nat.reduceLT,Nat.reduceLeDiff,Int.reduceToNat,Int.reduceLE,Int.reduceLT,Int.reduceNeg,reduceCtorEq,zzR,gos,Int.reduceAdd,Int.reduceSub,Int.reduceMul,Int.reduceEq])
def rowsT (p:Int) (l:List (List Int)) (x:List Int):List Int:=tbl l.length (fun j => dotI (l.getD j []) x % p)
theorem rowsT_len (p:Int) (l:List (List Int)) (x:List Int):(rowsT p l x).length=l.length:=tbl_len ..
theorem rowsT_in {p:Int} (hp:Md p) (l:List (List Int)) (x:List Int):∀ a ∈ rowsT p l x,In p a:=fun a ha => by
  obtain ⟨q,_,rfl⟩:=tbl_mem ha
  exact in_emod hp _
set_option maxHeartbeats 4000000 in
theorem times13_walk {p:Int} (hp:Md p) {l:List (List Int)} {x:List Int} {n:Nat} (hl:l.length ≤ 4096) (hn:n ≤ 4096) (hr:∀ u ∈ l,u.length=n ∧ ∀ a ∈ u,In p a) (hx:∀ a ∈ x,In p a) (hxl:x.length=n):CallsP Try.prog 89 [u64 p,llP l,lu x] (lu (rowsT p l x)):=by
  have row:∀ q,q < l.length → (l.map fun u => IV.l u.length (u.map iu))[q]?=some (.l (l.getD q []).length ((l.getD q []).map iu)):=fun q hq => by rw [List.getElem?_map,getD_at' (d:=[]) hq]; rfl
  have dt:∀ q,q < l.length → CallsP Try.prog 75 [u64 p,lu (l.getD q []),lu x] (.tup [u64 (dotI (l.getD q []) x % p),i64 0]):=fun q hq => by
    obtain ⟨h1,h2⟩:=hr _ (getD_mm (l:=l) (d:=[]) hq)
    have h:=dot_walk p (l.getD q []) x (by rw [mx_len]; omega) (by rw [mx_len]; omega) (fun a ha => in_w64 hp (h2 a ha)) (fun a ha => in_w64 hp (hx a ha))
    rwa [dotR_mk hp h2 hx (by omega)] at h
  unfold rowsT
  obtain ⟨F,hF⟩:∃ F:Nat → Int,F=fun j => dotI (l.getD j []) x % p:=⟨_,rfl⟩
  have dt':∀ q,q < l.length → CallsP Try.prog 75 [u64 p,lu (l.getD q []),lu x] (.tup [u64 (F q),i64 0]):=fun q hq => by rw [hF]; exact dt q hq
  rw [← hF]
  clear dt hF hx hr
  refine X_startP (n:=31) (m:=3) (rs:=[.tmp 6]) Try.func89 rfl rfl rfl rfl (by decide) fun base => ?_
  repeat (first|refine X_opc rfl ?_|refine X_dopc rfl ?_|refine ⟨(by show drawK _ _=true; kernel_rfl:drawX _ _ _),?_⟩|exact (by show drawK _ _=true; kernel_rfl:drawX _ _ _)|simp -dsimp (maxSteps:=20000000) (disch:=omega) only [simx,zzC,zzB,tys,ite_self,opnL,callB,callX,readsB,stepOp,nilCmp,ofVal,opBuiltin,opLen,PV.sk,scalBin,scalUn,intBin,opLoad,natOf,opConvert,opField,cellsP,oneP,Value.oneCell',opStore,toIV,scalT,scalA,scalC,boxesA,boxesC,zipB_none,zipB_mx,isZ,opZip,zeroP,opAppendZ,opMakeMap,opLookup,mboxB,opUpdate,↓reduceIte,Nat.reduceSub,Nat.reduceEqDiff,Nat.reduceAdd,Nat.reduceMul,Nat.reduceLT,Nat.reduceLeDiff,Int.reduceToNat,Int.reduceLE,Int.reduceLT,Int.reduceNeg,reduceCtorEq,gos,Int.reduceAdd,Int.reduceSub,Int.reduceMul,Int.reduceEq,SK.len])
  refine X_loopH [0,2,7,12,13,14] [(6,2)::base] (0) (l.length) (fun j => True) (fun j => [(7,rowP ((6,3)::base) 1 j ((tbl j F).map iu)),(14,i64 j)]) (fun j => rowH Heap.none ((6,3)::base) j ((tbl j F).map iu)) ?_ ?_ ?_ ?_ ?_ (by decide) ?_
  · exact (fgt_cons (by simp only [Heap.none_at]) (by (simp -dsimp only [zzB,tys,ite_self,opnL,callB,callX,readsB,stepOp,nilCmp,ofVal,opBuiltin,opLen,PV.sk,scalBin,scalUn,intBin,opLoad,natOf,opConvert,opField,cellsP,oneP,Value.oneCell',opStore,toIV,scalT,scalA,scalC,boxesA,boxesC,zipB_none,zipB_mx,isZ,opZip,zeroP,opAppendZ,opMakeMap,opLookup,mboxB,opUpdate,↓reduceIte,Nat.reduceSub,Nat.reduceEqDiff,Nat.reduceAdd,Nat.reduceMul,Nat.reduceLT,Nat.reduceLeDiff,Int.reduceToNat,Int.reduceLE,Int.reduceLT,Int.reduceNeg,reduceCtorEq,notIn_cons,notIn_nil]) <;> simp [refsL,refsP,mem_refs_rowP]) (by repeat (first|exact noVar_none _|refine noVar_row ?_|refine noVar_map ?_|refine noVar_rowH ?_|refine noVar_var ?_ (by simp [refsL,refsP,mem_refs_rowP]))) (fgt_nil))
  · ((simp -dsimp (disch:=omega) only [simx,zzB,tys,ite_self,opnL,callB,callX,readsB,stepOp,nilCmp,ofVal,opBuiltin,opLen,PV.sk,scalBin,scalUn,intBin,opLoad,natOf,opConvert,opField,cellsP,oneP,Value.oneCell',opStore,toIV,scalT,scalA,scalC,boxesA,boxesC,zipB_none,zipB_mx,isZ,opZip,zeroP,opAppendZ,opMakeMap,opLookup,mboxB,opUpdate,↓reduceIte,Nat.reduceSub,Nat.reduceEqDiff,Nat.reduceAdd,Nat.reduceMul,Nat.reduceLT,Nat.reduceLeDiff,Int.reduceToNat,Int.reduceLE,Int.reduceLT,Int.reduceNeg,reduceCtorEq,gos,Int.reduceAdd,Int.reduceSub,Int.reduceMul,Int.reduceEq]) <;> first|rfl|simp [rowP])
  · funext c
    simp (maxSteps:=20000000) only [Heap.drop_at,rowH_app,Heap.put_at,Heap.none_at,List.mem_cons,List.not_mem_nil,or_false]
    by_cases e0:c=(6,2)::base
    · subst e0; simp []
    by_cases e1:c=(6,3)::base
    · subst e1; simp []
    simp [e0,e1]
  · omega
  · trivial
  · intro j hj _
    by_cases cj:j < l.length
    · have t1:=tbl_succ j F
      have l1:=tbl_len j F
      have g1:=row j cj
      have d1:=dt' j cj
      clear row dt'
      generalize F j=s at d1 t1
      generalize l.getD j []=u at g1 d1
      repeat (first|((first|refine X_call_fn2 rfl (by simp only [tys]) ?_|refine X_dcall_fn2 rfl (by simp only [tys]) ?_); apply Exists.intro; apply And.intro; (focus (simp -dsimp only [simx,zzC,zzB,tys,ite_self,opnL,callB,callX,readsB,stepOp,nilCmp,ofVal,opBuiltin,opLen,PV.sk,scalBin,scalUn,intBin,opLoad,natOf,opConvert,opField,cellsP,oneP,Value.oneCell',opStore,toIV,scalT,scalA,scalC,boxesA,boxesC,zipB_none,zipB_mx,isZ,opZip,zeroP,opAppendZ,opMakeMap,opLookup,mboxB,opUpdate,↓reduceIte,Nat.reduceSub,Nat.reduceEqDiff,Nat.reduceAdd,Nat.reduceMul,Nat.reduceLT,Nat.reduceLeDiff,Int.reduceToNat,Int.reduceLE,Int.reduceLT,Int.reduceNeg,reduceCtorEq,zzL,if_true,if_false] <;> rfl)); apply Exists.intro; apply And.intro; (focus (first|exact d1)))|refine X_opc rfl ?_|refine X_dopc rfl ?_|refine ⟨(by show drawK _ _=true; kernel_rfl:drawX _ _ _),?_⟩|exact (by show drawK _ _=true; kernel_rfl:drawX _ _ _)|simp -dsimp (maxSteps:=20000000) (disch:=omega) only [simx,zzC,zzB,tys,ite_self,opnL,callB,callX,readsB,stepOp,nilCmp,ofVal,opBuiltin,opLen,PV.sk,scalBin,scalUn,intBin,opLoad,natOf,opConvert,opField,cellsP,oneP,Value.oneCell',opStore,toIV,scalT,scalA,scalC,boxesA,boxesC,zipB_none,zipB_mx,isZ,opZip,zeroP,opAppendZ,opMakeMap,opLookup,mboxB,opUpdate,↓reduceIte,Nat.reduceSub,Nat.reduceEqDiff,Nat.reduceAdd,Nat.reduceMul,Nat.reduceLT,Nat.reduceLeDiff,Int.reduceToNat,Int.reduceLE,Int.reduceLT,Int.reduceNeg,reduceCtorEq,gos,Int.reduceAdd,Int.reduceSub,Int.reduceMul,Int.reduceEq,cj,g1,SK.len,List.length_map])
      refine X_append_one 22 [.int .u64 0] [iu s] (by simp only [tys]) (by simp only [tys]) rfl (by decide) (by rw [List.length_map,l1,Nat.mul_one]) (by simp [Heap.put_at,Heap.none_at,rowH_app]) (by simp [Heap.put_at]; rfl) rfl (by simp only [tys]; omega) (by rw [mx_len]; omega) ?_
      repeat (first|refine X_opc rfl ?_|refine X_dopc rfl ?_|refine ⟨(by show drawK _ _=true; kernel_rfl:drawX _ _ _),?_⟩|exact (by show drawK _ _=true; kernel_rfl:drawX _ _ _)|simp -dsimp (maxSteps:=20000000) (disch:=omega) only [simx,zzC,zzB,tys,ite_self,opnL,callB,callX,readsB,stepOp,nilCmp,ofVal,opBuiltin,opLen,PV.sk,scalBin,scalUn,intBin,opLoad,natOf,opConvert,opField,cellsP,oneP,Value.oneCell',opStore,toIV,scalT,scalA,scalC,boxesA,boxesC,zipB_none,zipB_mx,isZ,opZip,zeroP,opAppendZ,opMakeMap,opLookup,mboxB,opUpdate,↓reduceIte,Nat.reduceSub,Nat.reduceEqDiff,Nat.reduceAdd,Nat.reduceMul,Nat.reduceLT,Nat.reduceLeDiff,Int.reduceToNat,Int.reduceLE,Int.reduceLT,Int.reduceNeg,reduceCtorEq,gos,Int.reduceAdd,Int.reduceSub,Int.reduceMul,Int.reduceEq,cj])
      refine ⟨cj,(fgt_cons (by simp only [Heap.none_at]) (by (simp -dsimp only [zzB,tys,ite_self,opnL,callB,callX,readsB,stepOp,nilCmp,ofVal,opBuiltin,opLen,PV.sk,scalBin,scalUn,intBin,opLoad,natOf,opConvert,opField,cellsP,oneP,Value.oneCell',opStore,toIV,scalT,scalA,scalC,boxesA,boxesC,zipB_none,zipB_mx,isZ,opZip,zeroP,opAppendZ,opMakeMap,opLookup,mboxB,opUpdate,↓reduceIte,Nat.reduceSub,Nat.reduceEqDiff,Nat.reduceAdd,Nat.reduceMul,Nat.reduceLT,Nat.reduceLeDiff,Int.reduceToNat,Int.reduceLE,Int.reduceLT,Int.reduceNeg,reduceCtorEq,notIn_cons,notIn_nil]) <;> simp [refsL,refsP,mem_refs_rowP]) (by repeat (first|exact noVar_none _|refine noVar_row ?_|refine noVar_map ?_|refine noVar_rowH ?_|refine noVar_var ?_ (by simp [refsL,refsP,mem_refs_rowP]))) (fgt_nil)),?_,?_⟩
      · rw [t1]; simp
      · funext c
        simp (maxSteps:=20000000) only [Heap.drop_at,rowH_app,Heap.put_at,Heap.none_at,List.mem_cons,List.not_mem_nil,or_false]
        by_cases e0:c=(6,2)::base
        · subst e0; simp [t1]
        by_cases e1:c=(6,3)::base
        · subst e1; simp [t1]
        simp [e0,e1,t1]
    · obtain rfl:l.length=j:=by omega
      rcases Nat.eq_zero_or_pos l.length with h0|h0
      · rw [h0]
        repeat (first|refine X_opc rfl ?_|refine X_dopc rfl ?_|refine ⟨(by show drawK _ _=true; kernel_rfl:drawX _ _ _),?_⟩|exact (by show drawK _ _=true; kernel_rfl:drawX _ _ _)|simp -dsimp (maxSteps:=20000000) (disch:=omega) only [simx,zzC,zzB,tys,ite_self,opnL,callB,callX,readsB,stepOp,nilCmp,ofVal,opBuiltin,opLen,PV.sk,scalBin,scalUn,intBin,opLoad,natOf,opConvert,opField,cellsP,oneP,Value.oneCell',opStore,toIV,scalT,scalA,scalC,boxesA,boxesC,zipB_none,zipB_mx,isZ,opZip,zeroP,opAppendZ,opMakeMap,opLookup,mboxB,opUpdate,↓reduceIte,Nat.reduceSub,Nat.reduceEqDiff,Nat.reduceAdd,Nat.reduceMul,Nat.reduceLT,Nat.reduceLeDiff,Int.reduceToNat,Int.reduceLE,Int.reduceLT,Int.reduceNeg,reduceCtorEq,zzR,gos,Int.reduceAdd,Int.reduceSub,Int.reduceMul,Int.reduceEq,rowP_zero,rowH_zero])
        try rfl
      · have rp:=fun s z cs => rowP_pos s z cs h0
        have rh:=fun h s cs => rowH_pos h s cs h0
        have l1:=tbl_len l.length F
        have e2:((tbl l.length F).map iu).take l.length=(tbl l.length F).map iu:=List.take_of_length_le (by rw [List.length_map,l1]; exact Nat.le_refl _)
        repeat (first|refine X_opc rfl ?_|refine X_dopc rfl ?_|refine ⟨(by show drawK _ _=true; kernel_rfl:drawX _ _ _),?_⟩|exact (by show drawK _ _=true; kernel_rfl:drawX _ _ _)|simp -dsimp (maxSteps:=20000000) (disch:=omega) only [simx,zzC,zzB,tys,ite_self,opnL,callB,callX,readsB,stepOp,nilCmp,ofVal,opBuiltin,opLen,PV.sk,scalBin,scalUn,intBin,opLoad,natOf,opConvert,opField,cellsP,oneP,Value.oneCell',opStore,toIV,scalT,scalA,scalC,boxesA,boxesC,zipB_none,zipB_mx,isZ,opZip,zeroP,opAppendZ,opMakeMap,opLookup,mboxB,opUpdate,↓reduceIte,Nat.reduceSub,Nat.reduceEqDiff,Nat.reduceAdd,Nat.reduceMul,Nat.reduceLT,Nat.reduceLeDiff,Int.reduceToNat,Int.reduceLE,Int.reduceLT,Int.reduceNeg,reduceCtorEq,zzR,gos,Int.reduceAdd,Int.reduceSub,Int.reduceMul,Int.reduceEq,rp,rh,List.length_map,l1,e2,lu])
def ctM (p:Int) (c:CupT) (x:List Int):List Int:=rowsT p c.2.2.1 (rowsT p c.2.2.2 x)
set_option maxHeartbeats 4000000 in
theorem looks13_of {P R C:Nat} {l:List Int} {c:CupT} (M:Mt P R C l) (hin:∀ a ∈ l,In P a) (hw:CupW P R C c) (hh:CallsP Try.prog 39 [u64 P,cupQ c,i64 R,i64 C] (bl true)) {x:List Int} (hx:∀ a ∈ x,In P a) (hxl:x.length=C) :
    CallsP Try.prog 40 [u64 P,matP R C l,cupQ c,lu x] (.tup [bl (decide (timesM P R C l x=ctM P c x)),i64 0]):=by
  have q0:=mright_walk P R C l (len_ok M)
  rw [mat_mk M] at q0
  have q1:=times_of M hin hx hxl
  have r2:=M.r2
  have c2:=M.c2
  have q2:=times13_walk M.hp (l:=c.2.2.2) (x:=x) (n:=C) (by have:=hw.ul; have:=hw.rle; omega) (by omega) hw.ur hx hxl
  have q3:=times13_walk M.hp (l:=c.2.2.1) (x:=rowsT P c.2.2.2 x) (n:=c.1.length) (by have:=hw.cl; omega) (by have:=hw.rle; omega) hw.cr (rowsT_in M.hp _ _) (by rw [rowsT_len]; exact hw.ul)
  have q4:=equal_walk (timesM P R C l x) (ctM P c x) (by rw [timesM_len,mx_len]; omega)
  unfold ctM at q4 ⊢
  obtain ⟨rws,cls,cc,uu⟩:=c
  simp only at q2 q3 q4 ⊢
  generalize decide (timesM P R C l x=rowsT P cc (rowsT P uu x))=o at *
  generalize timesM P R C l x=y1 at *
  generalize rowsT P cc (rowsT P uu x)=y2 at *
  generalize rowsT P uu x=y3 at *
  clear hw
  refine X_startP (n:=47) (m:=4) (rs:=[.tmp 8,.tmp 9]) Try.func40 rfl rfl rfl rfl (by decide) fun base => ?_
  repeat (first|((first|refine X_call_fn2 rfl (by simp only [tys]) ?_|refine X_dcall_fn2 rfl (by simp only [tys]) ?_); apply Exists.intro; apply And.intro; (focus (simp -dsimp only [simx,zzC,zzB,tys,ite_self,opnL,callB,callX,readsB,stepOp,nilCmp,ofVal,opBuiltin,opLen,PV.sk,scalBin,scalUn,intBin,opLoad,natOf,opConvert,opField,cellsP,oneP,Value.oneCell',opStore,toIV,scalT,scalA,scalC,boxesA,boxesC,zipB_none,zipB_mx,isZ,opZip,zeroP,opAppendZ,opMakeMap,opLookup,mboxB,opUpdate,↓reduceIte,Nat.reduceSub,Nat.reduceEqDiff,Nat.reduceAdd,Nat.reduceMul,Nat.reduceLT,Nat.reduceLeDiff,Int.reduceToNat,Int.reduceLE,Int.reduceLT,Int.reduceNeg,reduceCtorEq,zzL,if_true,if_false] <;> rfl)); apply Exists.intro; apply And.intro; (focus (first|exact q0|exact hh|exact q1|exact q2|exact q3|exact q4)))|refine X_opc rfl ?_|refine X_dopc rfl ?_|refine ⟨(by show drawK _ _=true; kernel_rfl:drawX _ _ _),?_⟩|exact (by show drawK _ _=true; kernel_rfl:drawX _ _ _)|simp -dsimp (maxSteps:=20000000) (disch:=omega) only [simx,zzC,zzB,tys,ite_self,opnL,callB,callX,readsB,stepOp,nilCmp,ofVal,opBuiltin,opLen,PV.sk,scalBin,scalUn,intBin,opLoad,natOf,opConvert,opField,cellsP,oneP,Value.oneCell',opStore,toIV,scalT,scalA,scalC,boxesA,boxesC,zipB_none,zipB_mx,isZ,opZip,zeroP,opAppendZ,opMakeMap,opLookup,mboxB,opUpdate,↓reduceIte,Nat.reduceSub,Nat.reduceEqDiff,Nat.reduceAdd,Nat.reduceMul,Nat.reduceLT,Nat.reduceLeDiff,Int.reduceToNat,Int.reduceLE,Int.reduceLT,Int.reduceNeg,reduceCtorEq,zzR,gos,Int.reduceAdd,Int.reduceSub,Int.reduceMul,Int.reduceEq])
end Go.Proofs.Ytmalpmnmknpphaa.TM
namespace Go.Proofs.Ytmalpmnmknpphaa.TM
open Go Go.RowKit
attribute [local irreducible] K W WOps Effs Xg Xo Xr Xdg Xdo Xdr Xif CallsP CallR
theorem growI_walk {h:Heap} {base:Name} (n:Nat) (h0:0 < n) (hn:n ≤ 4398046511104) (hh:h ((5,5)::base)=none) :
    CallR Try.prog base 128 [.i (.v (.slice none 0 0)),i64 n] h (.view ((5,5)::base) 0 1 0 n) (h.put ((5,5)::base) (.row false ((zeroRow [.int .i64 0] n).map .v))):=by
  have h1:¬ (n:Int) < 0:=by omega
  have h2:(0:Int) < n:=by omega
  refine X_startR (n:=27) (m:=2) (rs:=[.tmp 4]) Try.func128 rfl rfl rfl rfl (by decide) ?_
  have e1:(n:Int) - (0 - ((0:Nat):Int))=n:=by omega
  have b1:n * 8 ≤ 140737488355328:=by omega
  have b2:(n:Int) ≤ 140737488355328:=by omega
  repeat (first|refine X_opc rfl ?_|refine X_dopc rfl ?_|refine ⟨(by show drawK _ _=true; kernel_rfl:drawX _ _ _),?_⟩|exact (by show drawK _ _=true; kernel_rfl:drawX _ _ _)|simp -dsimp (maxSteps:=20000000) (disch:=omega) only [simx,zzC,zzB,tys,ite_self,opnL,callB,callX,readsB,stepOp,nilCmp,ofVal,opBuiltin,opLen,PV.sk,scalBin,scalUn,intBin,opLoad,natOf,opConvert,opField,cellsP,oneP,Value.oneCell',opStore,toIV,scalT,scalA,scalC,boxesA,boxesC,zipB_none,zipB_mx,isZ,opZip,zeroP,opAppendZ,opMakeMap,opLookup,mboxB,opUpdate,↓reduceIte,Nat.reduceSub,Nat.reduceEqDiff,Nat.reduceAdd,Nat.reduceMul,Nat.reduceLT,Nat.reduceLeDiff,Int.reduceToNat,Int.reduceLE,Int.reduceLT,Int.reduceNeg,reduceCtorEq,zzR,gos,Int.reduceAdd,Int.reduceSub,Int.reduceMul,Int.reduceEq,h1,h2,hh,e1,b1,b2,Int.toNat_natCast,SK.len,Nat.zero_le,Option.isNone_none,Option.map_some])
theorem growI_zero {h:Heap} {base:Name}:CallR Try.prog base 128 [.i (.v (.slice none 0 0)),i64 0] h (.i (.v (.slice none 0 0))) h:=by
  refine X_startR (n:=27) (m:=2) (rs:=[.tmp 4]) Try.func128 rfl rfl rfl rfl (by decide) ?_
  repeat (first|refine X_opc rfl ?_|refine X_dopc rfl ?_|refine ⟨(by show drawK _ _=true; kernel_rfl:drawX _ _ _),?_⟩|exact (by show drawK _ _=true; kernel_rfl:drawX _ _ _)|simp -dsimp (maxSteps:=20000000) (disch:=omega) only [simx,zzC,zzB,tys,ite_self,opnL,callB,callX,readsB,stepOp,nilCmp,ofVal,opBuiltin,opLen,PV.sk,scalBin,scalUn,intBin,opLoad,natOf,opConvert,opField,cellsP,oneP,Value.oneCell',opStore,toIV,scalT,scalA,scalC,boxesA,boxesC,zipB_none,zipB_mx,isZ,opZip,zeroP,opAppendZ,opMakeMap,opLookup,mboxB,opUpdate,↓reduceIte,Nat.reduceSub,Nat.reduceEqDiff,Nat.reduceAdd,Nat.reduceMul,Nat.reduceLT,Nat.reduceLeDiff,Int.reduceToNat,Int.reduceLE,Int.reduceLT,Int.reduceNeg,reduceCtorEq,zzR,gos,Int.reduceAdd,Int.reduceSub,Int.reduceMul,Int.reduceEq])
theorem concatI_walk (L:List (List IV)) (hL:L.length ≤ 4398046511104) (hF:L.flatten.length ≤ 4398046511104):CallsP Try.prog 97 [llL L] (.i (ivN L.flatten)):=by
  refine X_startP (n:=36) (m:=1) (rs:=[.tmp 2]) Try.func97 rfl rfl rfl rfl (by decide) fun base => ?_
  repeat (first|refine X_opc rfl ?_|refine X_dopc rfl ?_|refine ⟨(by show drawK _ _=true; kernel_rfl:drawX _ _ _),?_⟩|exact (by show drawK _ _=true; kernel_rfl:drawX _ _ _)|simp -dsimp (maxSteps:=20000000) (disch:=omega) only [simx,zzC,zzB,tys,ite_self,opnL,callB,callX,readsB,stepOp,nilCmp,ofVal,opBuiltin,opLen,PV.sk,scalBin,scalUn,intBin,opLoad,natOf,opConvert,opField,cellsP,oneP,Value.oneCell',opStore,toIV,scalT,scalA,scalC,boxesA,boxesC,zipB_none,zipB_mx,isZ,opZip,zeroP,opAppendZ,opMakeMap,opLookup,mboxB,opUpdate,↓reduceIte,Nat.reduceSub,Nat.reduceEqDiff,Nat.reduceAdd,Nat.reduceMul,Nat.reduceLT,Nat.reduceLeDiff,Int.reduceToNat,Int.reduceLE,Int.reduceLT,Int.reduceNeg,reduceCtorEq,gos,Int.reduceAdd,Int.reduceSub,Int.reduceMul,Int.reduceEq])
  have fl:=flatL_le L
  refine X_loopH [0,3,9,10,11] [] (0) (L.length) (fun j => True) (fun j => [(3,i64 ((L.take j).flatten.length:Nat)),(11,i64 j)]) (fun j => Heap.none) ?_ ?_ ?_ ?_ ?_ (by decide) ?_
  · exact (fgt_nil)
  · ((simp -dsimp (disch:=omega) only [simx,zzB,tys,ite_self,opnL,callB,callX,readsB,stepOp,nilCmp,ofVal,opBuiltin,opLen,PV.sk,scalBin,scalUn,intBin,opLoad,natOf,opConvert,opField,cellsP,oneP,Value.oneCell',opStore,toIV,scalT,scalA,scalC,boxesA,boxesC,zipB_none,zipB_mx,isZ,opZip,zeroP,opAppendZ,opMakeMap,opLookup,mboxB,opUpdate,↓reduceIte,Nat.reduceSub,Nat.reduceEqDiff,Nat.reduceAdd,Nat.reduceMul,Nat.reduceLT,Nat.reduceLeDiff,Int.reduceToNat,Int.reduceLE,Int.reduceLT,Int.reduceNeg,reduceCtorEq,gos,Int.reduceAdd,Int.reduceSub,Int.reduceMul,Int.reduceEq]) <;> first|rfl|simp [rowP])
  · exact drop_nil _
  · omega
  · trivial
  · intro j hj _
    have f1:=fl j
    by_cases cj:j < L.length
    · have g1:L[j]?=some L[j]:=List.getElem?_eq_getElem cj
      have fx:=flatL_next cj
      have f2:=fl (j + 1)
      generalize L[j]=r at g1 fx
      generalize (L.take j).flatten=F at fx f1
      rw [fx,List.length_append] at f2
      have h1:¬ ((F.length:Int) + (r.length:Int)) < 0:=by omega
      repeat (first|refine X_opc rfl ?_|refine X_dopc rfl ?_|refine ⟨(by show drawK _ _=true; kernel_rfl:drawX _ _ _),?_⟩|exact (by show drawK _ _=true; kernel_rfl:drawX _ _ _)|simp -dsimp (maxSteps:=20000000) (disch:=omega) only [simx,zzC,zzB,tys,ite_self,opnL,callB,callX,readsB,stepOp,nilCmp,ofVal,opBuiltin,opLen,PV.sk,scalBin,scalUn,intBin,opLoad,natOf,opConvert,opField,cellsP,oneP,Value.oneCell',opStore,toIV,scalT,scalA,scalC,boxesA,boxesC,zipB_none,zipB_mx,isZ,opZip,zeroP,opAppendZ,opMakeMap,opLookup,mboxB,opUpdate,↓reduceIte,Nat.reduceSub,Nat.reduceEqDiff,Nat.reduceAdd,Nat.reduceMul,Nat.reduceLT,Nat.reduceLeDiff,Int.reduceToNat,Int.reduceLE,Int.reduceLT,Int.reduceNeg,reduceCtorEq,gos,Int.reduceAdd,Int.reduceSub,Int.reduceMul,Int.reduceEq,cj,g1,h1])
      refine ⟨cj,(fgt_nil),⟨?_,rfl⟩,drop_nil _⟩
      rw [fx,List.length_append]; simp
    · have hj:j=L.length:=by omega
      subst hj
      rw [List.take_length]
      repeat (first|refine X_opc rfl ?_|refine X_dopc rfl ?_|refine ⟨(by show drawK _ _=true; kernel_rfl:drawX _ _ _),?_⟩|exact (by show drawK _ _=true; kernel_rfl:drawX _ _ _)|simp -dsimp (maxSteps:=20000000) (disch:=omega) only [simx,zzC,zzB,tys,ite_self,opnL,callB,callX,readsB,stepOp,nilCmp,ofVal,opBuiltin,opLen,PV.sk,scalBin,scalUn,intBin,opLoad,natOf,opConvert,opField,cellsP,oneP,Value.oneCell',opStore,toIV,scalT,scalA,scalC,boxesA,boxesC,zipB_none,zipB_mx,isZ,opZip,zeroP,opAppendZ,opMakeMap,opLookup,mboxB,opUpdate,↓reduceIte,Nat.reduceSub,Nat.reduceEqDiff,Nat.reduceAdd,Nat.reduceMul,Nat.reduceLT,Nat.reduceLeDiff,Int.reduceToNat,Int.reduceLE,Int.reduceLT,Int.reduceNeg,reduceCtorEq,gos,Int.reduceAdd,Int.reduceSub,Int.reduceMul,Int.reduceEq])
      generalize hFl:L.flatten=F at hF
      have sub0:∀ j (hj:j < L.length),L[j].length ≤ F.length:=fun j hj => by
        have h1:=flatL_next hj
        have h2:=fl (j + 1)
        rw [h1,List.length_append,hFl] at h2
        omega
      by_cases hF0:F.length=0
      · have hFn:F=[]:=List.eq_nil_of_length_eq_zero hF0
        subst hFn
        refine X_call_sh rfl (by simp only [tys]) rfl growI_zero ?_
        repeat (first|refine X_opc rfl ?_|refine X_dopc rfl ?_|refine ⟨(by show drawK _ _=true; kernel_rfl:drawX _ _ _),?_⟩|exact (by show drawK _ _=true; kernel_rfl:drawX _ _ _)|simp -dsimp (maxSteps:=20000000) (disch:=omega) only [simx,zzC,zzB,tys,ite_self,opnL,callB,callX,readsB,stepOp,nilCmp,ofVal,opBuiltin,opLen,PV.sk,scalBin,scalUn,intBin,opLoad,natOf,opConvert,opField,cellsP,oneP,Value.oneCell',opStore,toIV,scalT,scalA,scalC,boxesA,boxesC,zipB_none,zipB_mx,isZ,opZip,zeroP,opAppendZ,opMakeMap,opLookup,mboxB,opUpdate,↓reduceIte,Nat.reduceSub,Nat.reduceEqDiff,Nat.reduceAdd,Nat.reduceMul,Nat.reduceLT,Nat.reduceLeDiff,Int.reduceToNat,Int.reduceLE,Int.reduceLT,Int.reduceNeg,reduceCtorEq,gos,Int.reduceAdd,Int.reduceSub,Int.reduceMul,Int.reduceEq])
        refine X_loopH [6,25,26,27] [] (0) (L.length) (fun j => True) (fun j => [(6,.i (.v (.slice none 0 0))),(27,i64 j)]) (fun j => Heap.none) ?_ ?_ ?_ ?_ ?_ (by decide) ?_
        · exact (fgt_nil)
        · ((simp -dsimp (disch:=omega) only [simx,zzB,tys,ite_self,opnL,callB,callX,readsB,stepOp,nilCmp,ofVal,opBuiltin,opLen,PV.sk,scalBin,scalUn,intBin,opLoad,natOf,opConvert,opField,cellsP,oneP,Value.oneCell',opStore,toIV,scalT,scalA,scalC,boxesA,boxesC,zipB_none,zipB_mx,isZ,opZip,zeroP,opAppendZ,opMakeMap,opLookup,mboxB,opUpdate,↓reduceIte,Nat.reduceSub,Nat.reduceEqDiff,Nat.reduceAdd,Nat.reduceMul,Nat.reduceLT,Nat.reduceLeDiff,Int.reduceToNat,Int.reduceLE,Int.reduceLT,Int.reduceNeg,reduceCtorEq,gos,Int.reduceAdd,Int.reduceSub,Int.reduceMul,Int.reduceEq]) <;> first|rfl|simp [rowP])
        · exact drop_nil _
        · omega
        · trivial
        · intro j hj _
          by_cases cj:j < L.length
          · have g1:L[j]?=some L[j]:=List.getElem?_eq_getElem cj
            have g2:=sub0 j cj
            generalize L[j]=r at g1 g2
            have hr:r=[]:=List.eq_nil_of_length_eq_zero (by simpa using g2)
            subst hr
            repeat (first|refine X_opc rfl ?_|refine X_dopc rfl ?_|refine ⟨(by show drawK _ _=true; kernel_rfl:drawX _ _ _),?_⟩|exact (by show drawK _ _=true; kernel_rfl:drawX _ _ _)|simp -dsimp (maxSteps:=20000000) (disch:=omega) only [simx,zzC,zzB,tys,ite_self,opnL,callB,callX,readsB,stepOp,nilCmp,ofVal,opBuiltin,opLen,PV.sk,scalBin,scalUn,intBin,opLoad,natOf,opConvert,opField,cellsP,oneP,Value.oneCell',opStore,toIV,scalT,scalA,scalC,boxesA,boxesC,zipB_none,zipB_mx,isZ,opZip,zeroP,opAppendZ,opMakeMap,opLookup,mboxB,opUpdate,↓reduceIte,Nat.reduceSub,Nat.reduceEqDiff,Nat.reduceAdd,Nat.reduceMul,Nat.reduceLT,Nat.reduceLeDiff,Int.reduceToNat,Int.reduceLE,Int.reduceLT,Int.reduceNeg,reduceCtorEq,gos,Int.reduceAdd,Int.reduceSub,Int.reduceMul,Int.reduceEq,cj,g1])
            refine X_append_e0 3 [.int .i64 0] (by simp only [tys]) (by simp only [tys]) rfl ?_
            repeat (first|refine X_opc rfl ?_|refine X_dopc rfl ?_|refine ⟨(by show drawK _ _=true; kernel_rfl:drawX _ _ _),?_⟩|exact (by show drawK _ _=true; kernel_rfl:drawX _ _ _)|simp -dsimp (maxSteps:=20000000) (disch:=omega) only [simx,zzC,zzB,tys,ite_self,opnL,callB,callX,readsB,stepOp,nilCmp,ofVal,opBuiltin,opLen,PV.sk,scalBin,scalUn,intBin,opLoad,natOf,opConvert,opField,cellsP,oneP,Value.oneCell',opStore,toIV,scalT,scalA,scalC,boxesA,boxesC,zipB_none,zipB_mx,isZ,opZip,zeroP,opAppendZ,opMakeMap,opLookup,mboxB,opUpdate,↓reduceIte,Nat.reduceSub,Nat.reduceEqDiff,Nat.reduceAdd,Nat.reduceMul,Nat.reduceLT,Nat.reduceLeDiff,Int.reduceToNat,Int.reduceLE,Int.reduceLT,Int.reduceNeg,reduceCtorEq,gos,Int.reduceAdd,Int.reduceSub,Int.reduceMul,Int.reduceEq])
            exact ⟨cj,(fgt_nil),rfl,drop_nil _⟩
          · have hj:j=L.length:=by omega
            subst hj
            repeat (first|refine X_opc rfl ?_|refine X_dopc rfl ?_|refine ⟨(by show drawK _ _=true; kernel_rfl:drawX _ _ _),?_⟩|exact (by show drawK _ _=true; kernel_rfl:drawX _ _ _)|simp -dsimp (maxSteps:=20000000) (disch:=omega) only [simx,zzC,zzB,tys,ite_self,opnL,callB,callX,readsB,stepOp,nilCmp,ofVal,opBuiltin,opLen,PV.sk,scalBin,scalUn,intBin,opLoad,natOf,opConvert,opField,cellsP,oneP,Value.oneCell',opStore,toIV,scalT,scalA,scalC,boxesA,boxesC,zipB_none,zipB_mx,isZ,opZip,zeroP,opAppendZ,opMakeMap,opLookup,mboxB,opUpdate,↓reduceIte,Nat.reduceSub,Nat.reduceEqDiff,Nat.reduceAdd,Nat.reduceMul,Nat.reduceLT,Nat.reduceLeDiff,Int.reduceToNat,Int.reduceLE,Int.reduceLT,Int.reduceNeg,reduceCtorEq,zzR,gos,Int.reduceAdd,Int.reduceSub,Int.reduceMul,Int.reduceEq])
            rfl
      · have e0:0 < F.length:=by omega
        refine X_call_sh rfl (by simp only [tys]) rfl (growI_walk F.length e0 hF rfl) ?_
        have zl:=zeros_len F.length .i64
        generalize (zeroRow [Value.int .i64 0] F.length).map IV.v=z at zl
        repeat (first|refine X_opc rfl ?_|refine X_dopc rfl ?_|refine ⟨(by show drawK _ _=true; kernel_rfl:drawX _ _ _),?_⟩|exact (by show drawK _ _=true; kernel_rfl:drawX _ _ _)|simp -dsimp (maxSteps:=20000000) (disch:=omega) only [simx,zzC,zzB,tys,ite_self,opnL,callB,callX,readsB,stepOp,nilCmp,ofVal,opBuiltin,opLen,PV.sk,scalBin,scalUn,intBin,opLoad,natOf,opConvert,opField,cellsP,oneP,Value.oneCell',opStore,toIV,scalT,scalA,scalC,boxesA,boxesC,zipB_none,zipB_mx,isZ,opZip,zeroP,opAppendZ,opMakeMap,opLookup,mboxB,opUpdate,↓reduceIte,Nat.reduceSub,Nat.reduceEqDiff,Nat.reduceAdd,Nat.reduceMul,Nat.reduceLT,Nat.reduceLeDiff,Int.reduceToNat,Int.reduceLE,Int.reduceLT,Int.reduceNeg,reduceCtorEq,gos,Int.reduceAdd,Int.reduceSub,Int.reduceMul,Int.reduceEq])
        refine X_loopH [6,25,26,27] [] (0) (L.length) (fun j => True) (fun j => [(6,.view ((5,5)::(9,1)::base) 0 1 (L.take j).flatten.length F.length),(27,i64 j)]) (fun j => Heap.none.put ((5,5)::(9,1)::base) (.row false (roomC F.length z (L.take j).flatten))) ?_ ?_ ?_ ?_ ?_ (by decide) ?_
        · exact (fgt_nil)
        · ((simp -dsimp (disch:=omega) only [simx,zzB,tys,ite_self,opnL,callB,callX,readsB,stepOp,nilCmp,ofVal,opBuiltin,opLen,PV.sk,scalBin,scalUn,intBin,opLoad,natOf,opConvert,opField,cellsP,oneP,Value.oneCell',opStore,toIV,scalT,scalA,scalC,boxesA,boxesC,zipB_none,zipB_mx,isZ,opZip,zeroP,opAppendZ,opMakeMap,opLookup,mboxB,opUpdate,↓reduceIte,Nat.reduceSub,Nat.reduceEqDiff,Nat.reduceAdd,Nat.reduceMul,Nat.reduceLT,Nat.reduceLeDiff,Int.reduceToNat,Int.reduceLE,Int.reduceLT,Int.reduceNeg,reduceCtorEq,gos,Int.reduceAdd,Int.reduceSub,Int.reduceMul,Int.reduceEq]) <;> first|rfl|simp [rowP])
        · rw [drop_nil]; rfl
        · omega
        · trivial
        · intro j hj _
          by_cases cj:j < L.length
          · have g1:L[j]?=some L[j]:=List.getElem?_eq_getElem cj
            have fx:=flatL_next cj
            have f2:=fl (j + 1)
            generalize L[j]=r at g1 fx
            rw [fx] at f2
            rw [hFl] at f2
            generalize (L.take j).flatten=G at fx f2 ⊢
            rw [List.length_append] at f2
            have rl:=roomC_len (N:=F.length) (l:=G) zl (by omega)
            by_cases hr:r.length=0
            · have hr:r=[]:=List.eq_nil_of_length_eq_zero hr
              subst hr
              rw [List.append_nil] at fx
              repeat (first|refine X_opc rfl ?_|refine X_dopc rfl ?_|refine ⟨(by show drawK _ _=true; kernel_rfl:drawX _ _ _),?_⟩|exact (by show drawK _ _=true; kernel_rfl:drawX _ _ _)|simp -dsimp (maxSteps:=20000000) (disch:=omega) only [simx,zzC,zzB,tys,ite_self,opnL,callB,callX,readsB,stepOp,nilCmp,ofVal,opBuiltin,opLen,PV.sk,scalBin,scalUn,intBin,opLoad,natOf,opConvert,opField,cellsP,oneP,Value.oneCell',opStore,toIV,scalT,scalA,scalC,boxesA,boxesC,zipB_none,zipB_mx,isZ,opZip,zeroP,opAppendZ,opMakeMap,opLookup,mboxB,opUpdate,↓reduceIte,Nat.reduceSub,Nat.reduceEqDiff,Nat.reduceAdd,Nat.reduceMul,Nat.reduceLT,Nat.reduceLeDiff,Int.reduceToNat,Int.reduceLE,Int.reduceLT,Int.reduceNeg,reduceCtorEq,gos,Int.reduceAdd,Int.reduceSub,Int.reduceMul,Int.reduceEq,cj,g1])
              refine X_append_e1 3 [.int .i64 0] (by simp only [tys]) (by simp only [tys]) rfl (by simp only [tys]; omega) (by rw [mx_len]; omega) ?_
              repeat (first|refine X_opc rfl ?_|refine X_dopc rfl ?_|refine ⟨(by show drawK _ _=true; kernel_rfl:drawX _ _ _),?_⟩|exact (by show drawK _ _=true; kernel_rfl:drawX _ _ _)|simp -dsimp (maxSteps:=20000000) (disch:=omega) only [simx,zzC,zzB,tys,ite_self,opnL,callB,callX,readsB,stepOp,nilCmp,ofVal,opBuiltin,opLen,PV.sk,scalBin,scalUn,intBin,opLoad,natOf,opConvert,opField,cellsP,oneP,Value.oneCell',opStore,toIV,scalT,scalA,scalC,boxesA,boxesC,zipB_none,zipB_mx,isZ,opZip,zeroP,opAppendZ,opMakeMap,opLookup,mboxB,opUpdate,↓reduceIte,Nat.reduceSub,Nat.reduceEqDiff,Nat.reduceAdd,Nat.reduceMul,Nat.reduceLT,Nat.reduceLeDiff,Int.reduceToNat,Int.reduceLE,Int.reduceLT,Int.reduceNeg,reduceCtorEq,gos,Int.reduceAdd,Int.reduceSub,Int.reduceMul,Int.reduceEq])
              refine ⟨cj,(fgt_nil),⟨by rw [fx],rfl⟩,by rw [fx]; exact drop_nil _⟩
            · repeat (first|refine X_opc rfl ?_|refine X_dopc rfl ?_|refine ⟨(by show drawK _ _=true; kernel_rfl:drawX _ _ _),?_⟩|exact (by show drawK _ _=true; kernel_rfl:drawX _ _ _)|simp -dsimp (maxSteps:=20000000) (disch:=omega) only [simx,zzC,zzB,tys,ite_self,opnL,callB,callX,readsB,stepOp,nilCmp,ofVal,opBuiltin,opLen,PV.sk,scalBin,scalUn,intBin,opLoad,natOf,opConvert,opField,cellsP,oneP,Value.oneCell',opStore,toIV,scalT,scalA,scalC,boxesA,boxesC,zipB_none,zipB_mx,isZ,opZip,zeroP,opAppendZ,opMakeMap,opLookup,mboxB,opUpdate,↓reduceIte,Nat.reduceSub,Nat.reduceEqDiff,Nat.reduceAdd,Nat.reduceMul,Nat.reduceLT,Nat.reduceLeDiff,Int.reduceToNat,Int.reduceLE,Int.reduceLT,Int.reduceNeg,reduceCtorEq,gos,Int.reduceAdd,Int.reduceSub,Int.reduceMul,Int.reduceEq,cj,g1])
              refine X_append_room 3 [.int .i64 0] r (by simp only [tys]) (by simp only [tys]) rfl (by simp [Heap.put_at]) rl (by omega) rfl (by omega) (by simp only [tys]; omega) (by rw [mx_len]; omega) ?_
              rw [roomC_app zl (by omega)]
              repeat (first|refine X_opc rfl ?_|refine X_dopc rfl ?_|refine ⟨(by show drawK _ _=true; kernel_rfl:drawX _ _ _),?_⟩|exact (by show drawK _ _=true; kernel_rfl:drawX _ _ _)|simp -dsimp (maxSteps:=20000000) (disch:=omega) only [simx,zzC,zzB,tys,ite_self,opnL,callB,callX,readsB,stepOp,nilCmp,ofVal,opBuiltin,opLen,PV.sk,scalBin,scalUn,intBin,opLoad,natOf,opConvert,opField,cellsP,oneP,Value.oneCell',opStore,toIV,scalT,scalA,scalC,boxesA,boxesC,zipB_none,zipB_mx,isZ,opZip,zeroP,opAppendZ,opMakeMap,opLookup,mboxB,opUpdate,↓reduceIte,Nat.reduceSub,Nat.reduceEqDiff,Nat.reduceAdd,Nat.reduceMul,Nat.reduceLT,Nat.reduceLeDiff,Int.reduceToNat,Int.reduceLE,Int.reduceLT,Int.reduceNeg,reduceCtorEq,gos,Int.reduceAdd,Int.reduceSub,Int.reduceMul,Int.reduceEq])
              refine ⟨cj,(fgt_nil),⟨by rw [fx,List.length_append],rfl⟩,?_⟩
              rw [fx]
              funext c
              simp (maxSteps:=20000000) only [Heap.drop_at,rowH_app,Heap.put_at,Heap.none_at,List.mem_cons,List.not_mem_nil,or_false]
              by_cases e0:c=(5,5)::(9,1)::base
              · subst e0; simp []
              simp [e0]
          · have hj:j=L.length:=by omega
            subst hj
            rw [List.take_length,hFl]
            have rz:roomC F.length z F=F:=by unfold roomC; rw [List.drop_eq_nil_of_le (by omega),List.append_nil]
            rw [rz]
            have e2:F.take F.length=F:=List.take_length
            repeat (first|refine X_opc rfl ?_|refine X_dopc rfl ?_|refine ⟨(by show drawK _ _=true; kernel_rfl:drawX _ _ _),?_⟩|exact (by show drawK _ _=true; kernel_rfl:drawX _ _ _)|simp -dsimp (maxSteps:=20000000) (disch:=omega) only [simx,zzC,zzB,tys,ite_self,opnL,callB,callX,readsB,stepOp,nilCmp,ofVal,opBuiltin,opLen,PV.sk,scalBin,scalUn,intBin,opLoad,natOf,opConvert,opField,cellsP,oneP,Value.oneCell',opStore,toIV,scalT,scalA,scalC,boxesA,boxesC,zipB_none,zipB_mx,isZ,opZip,zeroP,opAppendZ,opMakeMap,opLookup,mboxB,opUpdate,↓reduceIte,Nat.reduceSub,Nat.reduceEqDiff,Nat.reduceAdd,Nat.reduceMul,Nat.reduceLT,Nat.reduceLeDiff,Int.reduceToNat,Int.reduceLE,Int.reduceLT,Int.reduceNeg,reduceCtorEq,zzR,gos,Int.reduceAdd,Int.reduceSub,Int.reduceMul,Int.reduceEq,e2])
end Go.Proofs.Ytmalpmnmknpphaa.TM
namespace Go.Proofs.Ytmalpmnmknpphaa.TM
open Go Go.RowKit
attribute [local irreducible] K W WOps Effs Xg Xo Xr Xdg Xdo Xdr Xif CallsP CallR
theorem clone13_walk {l:List Int} (hn:l.length ≤ 65536):CallsP Try.prog 127 [lu l] (lu l):=by
  rcases Nat.eq_zero_or_pos l.length with h|h
  · obtain rfl:l=[]:=List.eq_nil_of_length_eq_zero h
    exact cloneE_walk
  · have h1:¬ l.length=0:=by omega
    have e2:(l.map iu).take l.length=l.map iu:=List.take_of_length_le (by rw [List.length_map]; exact Nat.le_refl _)
    refine X_startP (n:=8) (m:=1) (rs:=[.tmp 2]) Try.func127 rfl rfl rfl rfl (by decide) fun base => ?_
    repeat (first|refine X_opc rfl ?_|refine X_dopc rfl ?_|refine ⟨(by show drawK _ _=true; kernel_rfl:drawX _ _ _),?_⟩|exact (by show drawK _ _=true; kernel_rfl:drawX _ _ _)|simp -dsimp (maxSteps:=20000000) (disch:=omega) only [simx,zzC,zzB,tys,ite_self,opnL,callB,callX,readsB,stepOp,nilCmp,ofVal,opBuiltin,opLen,PV.sk,scalBin,scalUn,intBin,opLoad,natOf,opConvert,opField,cellsP,oneP,Value.oneCell',opStore,toIV,scalT,scalA,scalC,boxesA,boxesC,zipB_none,zipB_mx,isZ,opZip,zeroP,opAppendZ,opMakeMap,opLookup,mboxB,opUpdate,↓reduceIte,Nat.reduceSub,Nat.reduceEqDiff,Nat.reduceAdd,Nat.reduceMul,Nat.reduceLT,Nat.reduceLeDiff,Int.reduceToNat,Int.reduceLE,Int.reduceLT,Int.reduceNeg,reduceCtorEq,gos,Int.reduceAdd,Int.reduceSub,Int.reduceMul,Int.reduceEq,h1,h])
    refine X_app_full (cs:=[]) 22 [.int .u64 0] (l.map iu) (by simp only [tys]) (by simp only [tys]) rfl (by simp [Heap.put_at]) rfl h (by simp) (by simp only [tys]; omega) (by rw [mx_len]; omega) ?_
    repeat (first|refine X_opc rfl ?_|refine X_dopc rfl ?_|refine ⟨(by show drawK _ _=true; kernel_rfl:drawX _ _ _),?_⟩|exact (by show drawK _ _=true; kernel_rfl:drawX _ _ _)|simp -dsimp (maxSteps:=20000000) (disch:=omega) only [simx,zzC,zzB,tys,ite_self,opnL,callB,callX,readsB,stepOp,nilCmp,ofVal,opBuiltin,opLen,PV.sk,scalBin,scalUn,intBin,opLoad,natOf,opConvert,opField,cellsP,oneP,Value.oneCell',opStore,toIV,scalT,scalA,scalC,boxesA,boxesC,zipB_none,zipB_mx,isZ,opZip,zeroP,opAppendZ,opMakeMap,opLookup,mboxB,opUpdate,↓reduceIte,Nat.reduceSub,Nat.reduceEqDiff,Nat.reduceAdd,Nat.reduceMul,Nat.reduceLT,Nat.reduceLeDiff,Int.reduceToNat,Int.reduceLE,Int.reduceLT,Int.reduceNeg,reduceCtorEq,zzR,gos,Int.reduceAdd,Int.reduceSub,Int.reduceMul,Int.reduceEq,Nat.zero_add,List.nil_append,List.length_map,e2])
theorem next_walk {h:Heap} {base b:Name} {m n:Nat} {xs:List IV} (hb:h b=some (.var [.i (.l m xs)])) (hx:xs.length=m) (hn:n ≤ m) (hm:m ≤ 65536) :
    CallR Try.prog base 126 [.ref b 0 1,i64 n] h (.i (.l n (xs.take n))) (h.put b (.var [.i (.l (m - n) (xs.drop n))])):=by
  have e1:(xs.drop n).take (m - n)=xs.drop n:=List.take_of_length_le (by rw [List.length_drop]; omega)
  have nn:n ≤ n:=Nat.le_refl n
  have mm:m ≤ m:=Nat.le_refl m
  refine X_startR (n:=23) (m:=2) (rs:=[.tmp 4]) Try.func126 rfl rfl rfl rfl (by decide) ?_
  repeat (first|refine X_opc rfl ?_|refine X_dopc rfl ?_|refine ⟨(by show drawK _ _=true; kernel_rfl:drawX _ _ _),?_⟩|exact (by show drawK _ _=true; kernel_rfl:drawX _ _ _)|simp -dsimp (maxSteps:=20000000) (disch:=omega) only [simx,zzC,zzB,tys,ite_self,opnL,callB,callX,readsB,stepOp,nilCmp,ofVal,opBuiltin,opLen,PV.sk,scalBin,scalUn,intBin,opLoad,natOf,opConvert,opField,cellsP,oneP,Value.oneCell',opStore,toIV,scalT,scalA,scalC,boxesA,boxesC,zipB_none,zipB_mx,isZ,opZip,zeroP,opAppendZ,opMakeMap,opLookup,mboxB,opUpdate,↓reduceIte,Nat.reduceSub,Nat.reduceEqDiff,Nat.reduceAdd,Nat.reduceMul,Nat.reduceLT,Nat.reduceLeDiff,Int.reduceToNat,Int.reduceLE,Int.reduceLT,Int.reduceNeg,reduceCtorEq,zzR,gos,Int.reduceAdd,Int.reduceSub,Int.reduceMul,Int.reduceEq,hb,hx,hn,nn,mm,e1,Nat.zero_le,Nat.sub_zero,List.drop_zero,SK.len])
def wrapL (l:List Int):List Int:=l.map IntKind.i64.wrap
set_option maxHeartbeats 4000000 in
theorem places_walk {h:Heap} {base b:Name} {m n:Nat} {l:List Int} (hb:h b=some (.var [.i (.l m (l.map iu))])) (hx:l.length=m) (hn:n ≤ m) (hm:m ≤ 65536) (n1:h ((5,3)::base)=none) (n2:h ((5,4)::base)=none) (nv:noVar ((5,3)::base) h) (hne:b ≠ (5,3)::base) (hne2:b ≠ (5,4)::base) :
    CallR Try.prog base 95 [.ref b 0 1,i64 n] h (rowP ((5,4)::base) 1 n ((wrapL (l.take n)).map ii)) (rowH (h.put b (.var [.i (.l (m - n) ((l.drop n).map iu))])) ((5,4)::base) n ((wrapL (l.take n)).map ii)):=by
  have q:=fun bs => next_walk (base:=bs) hb (by rw [List.length_map]; exact hx) hn hm
  rw [← List.map_take,← List.map_drop] at q
  have tl:(l.take n).length=n:=by rw [List.length_take]; omega
  have wl:(wrapL (l.take n)).length=n:=by unfold wrapL; rw [List.length_map]; exact tl
  have nv2:noVar ((5,3)::base) (h.put b (.var [.i (.l (m - n) ((l.drop n).map iu))])):=noVar_var nv (by simp [refsL,refsP])
  have m1:(h.put b (.var [.i (.l (m - n) ((l.drop n).map iu))])) ((5,3)::base)=none:=by rw [Heap.put_at,if_neg (Ne.symm hne)]; exact n1
  have m2:(h.put b (.var [.i (.l (m - n) ((l.drop n).map iu))])) ((5,4)::base)=none:=by rw [Heap.put_at,if_neg (Ne.symm hne2)]; exact n2
  obtain ⟨F,hF⟩:∃ F:Nat → Int,F=fun j => (wrapL (l.take n)).getD j 0:=⟨_,rfl⟩
  have Ft:tbl n F=wrapL (l.take n):=by
    rw [hF]; exact tbl_of wl |>.symm
  have Fj:∀ j,j < n → F j=IntKind.i64.wrap ((l.take n).getD j 0):=fun j hj => by
    rw [hF]
    show (wrapL (l.take n)).getD j 0=_
    unfold wrapL
    rw [List.getD_eq_getElem?_getD,List.getElem?_map,getD_at' (d:=0) (show j < (l.take n).length by omega)]; rfl
  have gj:∀ j,j < n → ((l.take n).map iu)[j]?=some (iu ((l.take n).getD j 0)):=fun j hj => by rw [List.getElem?_map,getD_some tl hj]; rfl
  rw [← Ft]
  clear Ft hF wl hb nv n2
  generalize h.put b (.var [.i (.l (m - n) ((l.drop n).map iu))])=h1 at *
  generalize l.take n=X at *
  refine X_startR (n:=23) (m:=2) (rs:=[.tmp 4]) Try.func95 rfl rfl rfl rfl (by decide) ?_
  repeat (first|refine X_opc rfl ?_|refine X_dopc rfl ?_|refine ⟨(by show drawK _ _=true; kernel_rfl:drawX _ _ _),?_⟩|exact (by show drawK _ _=true; kernel_rfl:drawX _ _ _)|simp -dsimp (maxSteps:=20000000) (disch:=omega) only [simx,zzC,zzB,tys,ite_self,opnL,callB,callX,readsB,stepOp,nilCmp,ofVal,opBuiltin,opLen,PV.sk,scalBin,scalUn,intBin,opLoad,natOf,opConvert,opField,cellsP,oneP,Value.oneCell',opStore,toIV,scalT,scalA,scalC,boxesA,boxesC,zipB_none,zipB_mx,isZ,opZip,zeroP,opAppendZ,opMakeMap,opLookup,mboxB,opUpdate,↓reduceIte,Nat.reduceSub,Nat.reduceEqDiff,Nat.reduceAdd,Nat.reduceMul,Nat.reduceLT,Nat.reduceLeDiff,Int.reduceToNat,Int.reduceLE,Int.reduceLT,Int.reduceNeg,reduceCtorEq,gos,Int.reduceAdd,Int.reduceSub,Int.reduceMul,Int.reduceEq])
  refine X_call_sh rfl (by simp only [tys]) rfl (q _) ?_
  repeat (first|refine X_opc rfl ?_|refine X_dopc rfl ?_|refine ⟨(by show drawK _ _=true; kernel_rfl:drawX _ _ _),?_⟩|exact (by show drawK _ _=true; kernel_rfl:drawX _ _ _)|simp -dsimp (maxSteps:=20000000) (disch:=omega) only [simx,zzC,zzB,tys,ite_self,opnL,callB,callX,readsB,stepOp,nilCmp,ofVal,opBuiltin,opLen,PV.sk,scalBin,scalUn,intBin,opLoad,natOf,opConvert,opField,cellsP,oneP,Value.oneCell',opStore,toIV,scalT,scalA,scalC,boxesA,boxesC,zipB_none,zipB_mx,isZ,opZip,zeroP,opAppendZ,opMakeMap,opLookup,mboxB,opUpdate,↓reduceIte,Nat.reduceSub,Nat.reduceEqDiff,Nat.reduceAdd,Nat.reduceMul,Nat.reduceLT,Nat.reduceLeDiff,Int.reduceToNat,Int.reduceLE,Int.reduceLT,Int.reduceNeg,reduceCtorEq,gos,Int.reduceAdd,Int.reduceSub,Int.reduceMul,Int.reduceEq,SK.len])
  refine X_loopH [5,10,11,12] [(5,3)::base] (0) (n) (fun j => True) (fun j => [(5,rowP ((5,4)::base) 1 j ((tbl j F).map ii)),(12,i64 j)]) (fun j => rowH h1 ((5,4)::base) j ((tbl j F).map ii)) ?_ ?_ ?_ ?_ ?_ (by decide) ?_
  · exact fgt_cons n1 (by simp -dsimp only [simx,zzC,zzB,tys,ite_self,opnL,notIn_cons,notIn_nil] <;> simp [refsP,mem_refs_rowP]) nv2 fgt_nil
  · ((simp -dsimp (disch:=omega) only [simx,zzB,tys,ite_self,opnL,callB,callX,readsB,stepOp,nilCmp,ofVal,opBuiltin,opLen,PV.sk,scalBin,scalUn,intBin,opLoad,natOf,opConvert,opField,cellsP,oneP,Value.oneCell',opStore,toIV,scalT,scalA,scalC,boxesA,boxesC,zipB_none,zipB_mx,isZ,opZip,zeroP,opAppendZ,opMakeMap,opLookup,mboxB,opUpdate,↓reduceIte,Nat.reduceSub,Nat.reduceEqDiff,Nat.reduceAdd,Nat.reduceMul,Nat.reduceLT,Nat.reduceLeDiff,Int.reduceToNat,Int.reduceLE,Int.reduceLT,Int.reduceNeg,reduceCtorEq,gos,Int.reduceAdd,Int.reduceSub,Int.reduceMul,Int.reduceEq]) <;> first|rfl|simp [rowP])
  · funext c
    rw [Heap.drop_at,rowH_zero]
    split
    · rename_i e
      rw [List.mem_singleton.1 e]; exact m1.symm
    · rfl
  · omega
  · trivial
  · intro j hj _
    by_cases cj:j < n
    · have t1:=tbl_succ j F
      have l1:=tbl_len j F
      have g1:=gj j cj
      have f1:=Fj j cj
      clear gj Fj q
      generalize F j=s at f1 t1
      generalize X.getD j 0=x at g1 f1
      repeat (first|refine X_opc rfl ?_|refine X_dopc rfl ?_|refine ⟨(by show drawK _ _=true; kernel_rfl:drawX _ _ _),?_⟩|exact (by show drawK _ _=true; kernel_rfl:drawX _ _ _)|simp -dsimp (maxSteps:=20000000) (disch:=omega) only [simx,zzC,zzB,tys,ite_self,opnL,callB,callX,readsB,stepOp,nilCmp,ofVal,opBuiltin,opLen,PV.sk,scalBin,scalUn,intBin,opLoad,natOf,opConvert,opField,cellsP,oneP,Value.oneCell',opStore,toIV,scalT,scalA,scalC,boxesA,boxesC,zipB_none,zipB_mx,isZ,opZip,zeroP,opAppendZ,opMakeMap,opLookup,mboxB,opUpdate,↓reduceIte,Nat.reduceSub,Nat.reduceEqDiff,Nat.reduceAdd,Nat.reduceMul,Nat.reduceLT,Nat.reduceLeDiff,Int.reduceToNat,Int.reduceLE,Int.reduceLT,Int.reduceNeg,reduceCtorEq,gos,Int.reduceAdd,Int.reduceSub,Int.reduceMul,Int.reduceEq,cj,g1,m1,SK.len,List.length_map])
      rw [← f1]
      refine X_append_one 3 [.int .i64 0] [ii s] (by simp only [tys]) (by simp only [tys]) rfl (by decide) (by rw [List.length_map,l1,Nat.mul_one]) (by simp [Heap.put_at,rowH_app,m2]) (by simp [Heap.put_at]; rfl) rfl (by simp only [tys]; omega) (by rw [mx_len]; omega) ?_
      repeat (first|refine X_opc rfl ?_|refine X_dopc rfl ?_|refine ⟨(by show drawK _ _=true; kernel_rfl:drawX _ _ _),?_⟩|exact (by show drawK _ _=true; kernel_rfl:drawX _ _ _)|simp -dsimp (maxSteps:=20000000) (disch:=omega) only [simx,zzC,zzB,tys,ite_self,opnL,callB,callX,readsB,stepOp,nilCmp,ofVal,opBuiltin,opLen,PV.sk,scalBin,scalUn,intBin,opLoad,natOf,opConvert,opField,cellsP,oneP,Value.oneCell',opStore,toIV,scalT,scalA,scalC,boxesA,boxesC,zipB_none,zipB_mx,isZ,opZip,zeroP,opAppendZ,opMakeMap,opLookup,mboxB,opUpdate,↓reduceIte,Nat.reduceSub,Nat.reduceEqDiff,Nat.reduceAdd,Nat.reduceMul,Nat.reduceLT,Nat.reduceLeDiff,Int.reduceToNat,Int.reduceLE,Int.reduceLT,Int.reduceNeg,reduceCtorEq,gos,Int.reduceAdd,Int.reduceSub,Int.reduceMul,Int.reduceEq,cj])
      refine ⟨cj,fgt_cons n1 (by simp -dsimp only [simx,zzC,zzB,tys,ite_self,opnL,notIn_cons,notIn_nil] <;> simp [refsP,mem_refs_rowP]) (by repeat (first|exact nv2|refine noVar_row ?_|refine noVar_rowH ?_)) fgt_nil,?_,?_⟩
      · rw [t1]; simp
      · funext c
        simp (maxSteps:=20000000) only [Heap.drop_at,rowH_app,Heap.put_at,Heap.none_at,List.mem_cons,List.not_mem_nil,or_false]
        by_cases e0:c=(5,3)::base
        · subst e0; simp [t1,m1,m2]
        by_cases e1:c=(5,4)::base
        · subst e1; simp [t1,m1,m2]
        simp [e0,e1,t1,m1,m2]
    · obtain rfl:n=j:=by omega
      repeat (first|refine X_opc rfl ?_|refine X_dopc rfl ?_|refine ⟨(by show drawK _ _=true; kernel_rfl:drawX _ _ _),?_⟩|exact (by show drawK _ _=true; kernel_rfl:drawX _ _ _)|simp -dsimp (maxSteps:=20000000) (disch:=omega) only [simx,zzC,zzB,tys,ite_self,opnL,callB,callX,readsB,stepOp,nilCmp,ofVal,opBuiltin,opLen,PV.sk,scalBin,scalUn,intBin,opLoad,natOf,opConvert,opField,cellsP,oneP,Value.oneCell',opStore,toIV,scalT,scalA,scalC,boxesA,boxesC,zipB_none,zipB_mx,isZ,opZip,zeroP,opAppendZ,opMakeMap,opLookup,mboxB,opUpdate,↓reduceIte,Nat.reduceSub,Nat.reduceEqDiff,Nat.reduceAdd,Nat.reduceMul,Nat.reduceLT,Nat.reduceLeDiff,Int.reduceToNat,Int.reduceLE,Int.reduceLT,Int.reduceNeg,reduceCtorEq,zzR,gos,Int.reduceAdd,Int.reduceSub,Int.reduceMul,Int.reduceEq])
def cutR (l:List Int) (each many:Nat):List (List Int):=(List.range many).map fun j => (l.drop (j * each)).take each
theorem cutR_next (l:List Int) (each j:Nat):cutR l each (j + 1)=cutR l each j ++ [(l.drop (j * each)).take each]:=by
  unfold cutR; rw [List.range_succ,List.map_append]; rfl
theorem cutR_len (l:List Int) (each many:Nat):(cutR l each many).length=many:=by simp [cutR]
abbrev lrow (u:List Int):IV:=.l u.length (u.map iu)
set_option maxHeartbeats 4000000 in
theorem rows13_walk {h:Heap} {base b:Name} {m many each:Nat} {l:List Int} (hb:h b=some (.var [.i (.l m (l.map iu))])) (hx:l.length=m) (hn:many * each ≤ m) (hm:m ≤ 65536) (hmany:many ≤ 64) (n1:h ((4,5)::base)=none) (n2:h ((4,6)::base)=none) (nv:noVar ((4,5)::base) h) (hne:b ≠ (4,5)::base) (hne2:b ≠ (4,6)::base) :
    CallR Try.prog base 96 [.ref b 0 1,i64 many,i64 each] h (rowP ((4,6)::base) 1 many ((cutR l each many).map lrow)) (rowH (h.put b (.var [.i (.l (m - many * each) ((l.drop (many * each)).map iu))])) ((4,6)::base) many ((cutR l each many).map lrow)):=by
  refine X_startR (n:=20) (m:=3) (rs:=[.tmp 6]) Try.func96 rfl rfl rfl rfl (by decide) ?_
  repeat (first|refine X_opc rfl ?_|refine X_dopc rfl ?_|refine ⟨(by show drawK _ _=true; kernel_rfl:drawX _ _ _),?_⟩|exact (by show drawK _ _=true; kernel_rfl:drawX _ _ _)|simp -dsimp (maxSteps:=20000000) (disch:=omega) only [simx,zzC,zzB,tys,ite_self,opnL,callB,callX,readsB,stepOp,nilCmp,ofVal,opBuiltin,opLen,PV.sk,scalBin,scalUn,intBin,opLoad,natOf,opConvert,opField,cellsP,oneP,Value.oneCell',opStore,toIV,scalT,scalA,scalC,boxesA,boxesC,zipB_none,zipB_mx,isZ,opZip,zeroP,opAppendZ,opMakeMap,opLookup,mboxB,opUpdate,↓reduceIte,Nat.reduceSub,Nat.reduceEqDiff,Nat.reduceAdd,Nat.reduceMul,Nat.reduceLT,Nat.reduceLeDiff,Int.reduceToNat,Int.reduceLE,Int.reduceLT,Int.reduceNeg,reduceCtorEq,gos,Int.reduceAdd,Int.reduceSub,Int.reduceMul,Int.reduceEq])
  refine X_loopH [0,2,7,8,9] [(4,5)::base] (0) (many) (fun j => True) (fun j => [(7,rowP ((4,6)::base) 1 j ((cutR l each j).map lrow)),(9,i64 j)]) (fun j => rowH (h.put b (.var [.i (.l (m - j * each) ((l.drop (j * each)).map iu))])) ((4,6)::base) j ((cutR l each j).map lrow)) ?_ ?_ ?_ ?_ ?_ (by decide) ?_
  · exact fgt_cons n1 (by simp -dsimp only [simx,zzC,zzB,tys,ite_self,opnL,notIn_cons,notIn_nil] <;> simp [refsP,mem_refs_rowP,Ne.symm hne]) nv fgt_nil
  · ((simp -dsimp (disch:=omega) only [simx,zzB,tys,ite_self,opnL,callB,callX,readsB,stepOp,nilCmp,ofVal,opBuiltin,opLen,PV.sk,scalBin,scalUn,intBin,opLoad,natOf,opConvert,opField,cellsP,oneP,Value.oneCell',opStore,toIV,scalT,scalA,scalC,boxesA,boxesC,zipB_none,zipB_mx,isZ,opZip,zeroP,opAppendZ,opMakeMap,opLookup,mboxB,opUpdate,↓reduceIte,Nat.reduceSub,Nat.reduceEqDiff,Nat.reduceAdd,Nat.reduceMul,Nat.reduceLT,Nat.reduceLeDiff,Int.reduceToNat,Int.reduceLE,Int.reduceLT,Int.reduceNeg,reduceCtorEq,gos,Int.reduceAdd,Int.reduceSub,Int.reduceMul,Int.reduceEq]) <;> first|rfl|simp [rowP])
  · funext c
    rw [Heap.drop_at,rowH_zero]
    split
    · rename_i e
      rw [List.mem_singleton.1 e,Heap.put_at,if_neg (Ne.symm hne)]; exact n1.symm
    · rw [Heap.put_at]
      split
      · rename_i e; rw [e,hb]; simp
      · rfl
  · omega
  · trivial
  · intro j hj _
    by_cases cj:j < many
    · have jb:j * each + each ≤ many * each:=by have:=Nat.mul_le_mul_right each (show j + 1 ≤ many by omega); rw [Nat.succ_mul] at this; exact this
      have sm:(j + 1) * each=j * each + each:=Nat.succ_mul j each
      have cn:=cutR_next l each j
      have cl':=cutR_len l each j
      have dl:(l.drop (j * each)).length=m - j * each:=by rw [List.length_drop]; omega
      have tl:((l.drop (j * each)).take each).length=each:=by rw [List.length_take]; omega
      have dd:(l.drop (j * each)).drop each=l.drop ((j + 1) * each):=by rw [List.drop_drop,sm]
      have sub:m - j * each - each=m - (j + 1) * each:=by omega
      have q:=fun (bs:Name) (h2:Heap) (hb2:h2 b=some (.var [.i (.l (m - j * each) ((l.drop (j * each)).map iu))])) => next_walk (base:=bs) (n:=each) hb2 (by rw [List.length_map]; exact dl) (by omega) (by omega)
      rw [← List.map_take,← List.map_drop,dd,sub] at q
      have cw:=clone13_walk (l:=(l.drop (j * each)).take each) (by omega)
      rw [show lu ((l.drop (j * each)).take each)=.i (.l each (((l.drop (j * each)).take each).map iu)) by rw [lu,tl]] at cw
      have lr:lrow ((l.drop (j * each)).take each)=.l each (((l.drop (j * each)).take each).map iu):=by rw [lrow,tl]
      generalize (l.drop (j * each)).take each=X at *
      generalize hY:(l.drop ((j + 1) * each)).map iu=Y at *
      generalize (l.drop (j * each)).map iu=Z at *
      generalize hm2:m - (j + 1) * each=m2 at *
      generalize m - j * each=m1 at *
      have nb:rowH (h.put b (.var [.i (.l m1 Z)])) ((4,6)::base) j ((cutR l each j).map lrow) b=some (.var [.i (.l m1 Z)]):=by rw [rowH_ne _ _ _ hne2,Heap.put_at,if_pos rfl]
      repeat (first|refine X_opc rfl ?_|refine X_dopc rfl ?_|refine ⟨(by show drawK _ _=true; kernel_rfl:drawX _ _ _),?_⟩|exact (by show drawK _ _=true; kernel_rfl:drawX _ _ _)|simp -dsimp (maxSteps:=20000000) (disch:=omega) only [simx,zzC,zzB,tys,ite_self,opnL,callB,callX,readsB,stepOp,nilCmp,ofVal,opBuiltin,opLen,PV.sk,scalBin,scalUn,intBin,opLoad,natOf,opConvert,opField,cellsP,oneP,Value.oneCell',opStore,toIV,scalT,scalA,scalC,boxesA,boxesC,zipB_none,zipB_mx,isZ,opZip,zeroP,opAppendZ,opMakeMap,opLookup,mboxB,opUpdate,↓reduceIte,Nat.reduceSub,Nat.reduceEqDiff,Nat.reduceAdd,Nat.reduceMul,Nat.reduceLT,Nat.reduceLeDiff,Int.reduceToNat,Int.reduceLE,Int.reduceLT,Int.reduceNeg,reduceCtorEq,gos,Int.reduceAdd,Int.reduceSub,Int.reduceMul,Int.reduceEq,cj])
      refine X_call_sh rfl (by simp only [tys]) rfl (q _ _ nb) ?_
      have hs1:¬ (4,5)::base=b:=fun e => hne e.symm
      repeat (first|((first|refine X_call_fn2 rfl (by simp only [tys]) ?_|refine X_dcall_fn2 rfl (by simp only [tys]) ?_); apply Exists.intro; apply And.intro; (focus (simp -dsimp only [simx,zzC,zzB,tys,ite_self,opnL,callB,callX,readsB,stepOp,nilCmp,ofVal,opBuiltin,opLen,PV.sk,scalBin,scalUn,intBin,opLoad,natOf,opConvert,opField,cellsP,oneP,Value.oneCell',opStore,toIV,scalT,scalA,scalC,boxesA,boxesC,zipB_none,zipB_mx,isZ,opZip,zeroP,opAppendZ,opMakeMap,opLookup,mboxB,opUpdate,↓reduceIte,Nat.reduceSub,Nat.reduceEqDiff,Nat.reduceAdd,Nat.reduceMul,Nat.reduceLT,Nat.reduceLeDiff,Int.reduceToNat,Int.reduceLE,Int.reduceLT,Int.reduceNeg,reduceCtorEq,zzL,if_true,if_false] <;> rfl)); apply Exists.intro; apply And.intro; (focus (first|exact cw)))|refine X_opc rfl ?_|refine X_dopc rfl ?_|refine ⟨(by show drawK _ _=true; kernel_rfl:drawX _ _ _),?_⟩|exact (by show drawK _ _=true; kernel_rfl:drawX _ _ _)|simp -dsimp (maxSteps:=20000000) (disch:=omega) only [simx,zzC,zzB,tys,ite_self,opnL,callB,callX,readsB,stepOp,nilCmp,ofVal,opBuiltin,opLen,PV.sk,scalBin,scalUn,intBin,opLoad,natOf,opConvert,opField,cellsP,oneP,Value.oneCell',opStore,toIV,scalT,scalA,scalC,boxesA,boxesC,zipB_none,zipB_mx,isZ,opZip,zeroP,opAppendZ,opMakeMap,opLookup,mboxB,opUpdate,↓reduceIte,Nat.reduceSub,Nat.reduceEqDiff,Nat.reduceAdd,Nat.reduceMul,Nat.reduceLT,Nat.reduceLeDiff,Int.reduceToNat,Int.reduceLE,Int.reduceLT,Int.reduceNeg,reduceCtorEq,gos,Int.reduceAdd,Int.reduceSub,Int.reduceMul,Int.reduceEq,n1,hs1])
      refine X_append_one 23 [.slice none 0 0] [IV.l each (X.map iu)] (by simp only [tys]) (by simp only [tys]) rfl (by decide) (by rw [List.length_map,cl',Nat.mul_one]) (by simp [Heap.put_at,rowH_app,n2,Ne.symm hne2]) (by simp [Heap.put_at]; rfl) rfl (by simp only [tys]; omega) (by rw [mx_len]; omega) ?_
      repeat (first|refine X_opc rfl ?_|refine X_dopc rfl ?_|refine ⟨(by show drawK _ _=true; kernel_rfl:drawX _ _ _),?_⟩|exact (by show drawK _ _=true; kernel_rfl:drawX _ _ _)|simp -dsimp (maxSteps:=20000000) (disch:=omega) only [simx,zzC,zzB,tys,ite_self,opnL,callB,callX,readsB,stepOp,nilCmp,ofVal,opBuiltin,opLen,PV.sk,scalBin,scalUn,intBin,opLoad,natOf,opConvert,opField,cellsP,oneP,Value.oneCell',opStore,toIV,scalT,scalA,scalC,boxesA,boxesC,zipB_none,zipB_mx,isZ,opZip,zeroP,opAppendZ,opMakeMap,opLookup,mboxB,opUpdate,↓reduceIte,Nat.reduceSub,Nat.reduceEqDiff,Nat.reduceAdd,Nat.reduceMul,Nat.reduceLT,Nat.reduceLeDiff,Int.reduceToNat,Int.reduceLE,Int.reduceLT,Int.reduceNeg,reduceCtorEq,gos,Int.reduceAdd,Int.reduceSub,Int.reduceMul,Int.reduceEq,cj])
      refine ⟨cj,fgt_cons n1 (by simp -dsimp only [simx,zzC,zzB,tys,ite_self,opnL,notIn_cons,notIn_nil] <;> simp [refsP,mem_refs_rowP,Ne.symm hne]) (by repeat (first|exact nv|refine noVar_row ?_|refine noVar_rowH ?_|refine noVar_var ?_ (by simp [refsL,refsP]))) fgt_nil,?_,?_⟩
      · rw [cn,List.map_append,← lr]; simp
      · rw [cn,List.map_append]
        simp only [List.map_cons,List.map_nil,lr]
        rw [hm2,hY]
        funext c
        simp only [Heap.drop_at,rowH_app,Heap.put_at,List.mem_cons,List.not_mem_nil,or_false]
        by_cases e0:c=(4,5)::base
        · subst e0; simp [Ne.symm hne,n1]
        by_cases e1:c=(4,6)::base
        · subst e1; simp
        by_cases e2:c=b
        · subst e2; simp [e0,e1]
        simp [e0,e1,e2]
    · obtain rfl:many=j:=by omega
      repeat (first|refine X_opc rfl ?_|refine X_dopc rfl ?_|refine ⟨(by show drawK _ _=true; kernel_rfl:drawX _ _ _),?_⟩|exact (by show drawK _ _=true; kernel_rfl:drawX _ _ _)|simp -dsimp (maxSteps:=20000000) (disch:=omega) only [simx,zzC,zzB,tys,ite_self,opnL,callB,callX,readsB,stepOp,nilCmp,ofVal,opBuiltin,opLen,PV.sk,scalBin,scalUn,intBin,opLoad,natOf,opConvert,opField,cellsP,oneP,Value.oneCell',opStore,toIV,scalT,scalA,scalC,boxesA,boxesC,zipB_none,zipB_mx,isZ,opZip,zeroP,opAppendZ,opMakeMap,opLookup,mboxB,opUpdate,↓reduceIte,Nat.reduceSub,Nat.reduceEqDiff,Nat.reduceAdd,Nat.reduceMul,Nat.reduceLT,Nat.reduceLeDiff,Int.reduceToNat,Int.reduceLE,Int.reduceLT,Int.reduceNeg,reduceCtorEq,zzR,gos,Int.reduceAdd,Int.reduceSub,Int.reduceMul,Int.reduceEq])
def ofC (l:List Int) (r R C:Nat):CupT:=(wrapL (l.take r),wrapL ((l.drop r).take r),cutR (l.drop (2 * r)) r R,cutR (l.drop (2 * r + R * r)) C r)
end Go.Proofs.Ytmalpmnmknpphaa.TM
namespace Go.Proofs.Ytmalpmnmknpphaa.TM
open Go Go.RowKit
section
variable {P R C r r':Nat} {A:Mx} {rw cw rw' cw':Nat → Nat} {c u c' u':Mx}
theorem Cp.tri (hP:Prm P) (H:Cp P R C r A rw cw c u) {k:Nat} (hk:k ≤ r) {d:Nat → Int} (h:∀ j,j < k → sumN k (fun m => d m * u m (cw j)) % P=0):∀ n m,m < n → m < k → d m % P=0
  | 0,_,hm,_ => by omega
  | n + 1,m,hm,hmk => by
    have ih:=Cp.tri hP H hk h n
    have h1:=h m hmk
    rw [sumN_only (k:=m) hmk fun i hi hne => by
      rcases Nat.lt_or_gt_of_ne hne with hl|hg
      · exact em_z (ih i (by omega) hi)
      · exact em_z' (H.uz m i hg (by omega))] at h1
    rw [Int.mul_comm] at h1
    exact prm_mul0 hP h1 (H.upiv m (by omega))
theorem Cp.row_at (H:Cp P R C r A rw cw c u) {i k:Nat} (hi:i < R) (hk:k ≤ r) (h2:∀ m,k ≤ m → m < r → i ≤ rw m) {j:Nat} (hj:j < C) :
    A i j % P=(sumN k (fun m => c i m * u m j) + (if k < r ∧ rw k=i then u k j else 0)) % P:=by
  have tail:∀ d,k + d ≤ r → sumN (k + d) (fun m => c i m * u m j) % P=(sumN k (fun m => c i m * u m j) + (if 0 < d ∧ rw k=i then u k j else 0)) % P:=by
    intro d
    induction d with
    | zero => intro _; rw [if_neg (by omega),Int.add_zero]; rfl
    | succ d ih =>
      intro hr
      rw [← Nat.add_assoc,sumN]
      by_cases e:d=0
      · subst e
        by_cases e2:rw k=i
        · rw [if_pos ⟨by omega,e2⟩]
          have h1:=H.c1 k (by omega)
          rw [e2] at h1
          refine em_add rfl ?_
          have h3:=em_mul (p:=P) (c:=u k j) (d:=u k j) (show c i k % P=1 % P by
            rw [h1]
            have h4:=Int.emod_emod_of_dvd (c i k) (Int.dvd_refl (P:Int))
            rw [h1] at h4; exact h4.symm) rfl
          rw [Int.one_mul] at h3
          exact h3
        · rw [if_neg (fun h => e2 h.2)]
          refine em_add rfl ?_
          have:=h2 k (Nat.le_refl k) (by omega)
          exact em_z (H.cz k (by omega) i (by omega))
      · have h5:c i (k + d) * u (k + d) j % P=0:=em_z (H.cz (k + d) (by omega) i (by
          have h3:=H.rinc k (k + d) (by omega) (by omega)
          have h4:=h2 k (Nat.le_refl k) (by omega)
          omega))
        rw [em_add (ih (by omega)) (h5.trans (Int.zero_emod _).symm),Int.add_zero]
        by_cases e2:rw k=i
        · rw [if_pos ⟨by omega,e2⟩,if_pos ⟨by omega,e2⟩]
        · rw [if_neg (fun h => e2 h.2),if_neg (fun h => e2 h.2)]
  have t:=tail (r - k) (by omega)
  rw [show k + (r - k)=r by omega] at t
  rw [H.made i hi j hj,t]
  congr 3
  by_cases e:k < r
  · have:0 < r - k:=by omega
    simp only [e,this,true_and]
  · have:¬ 0 < r - k:=by omega
    simp only [e,this,false_and]
theorem Cp.own_eq (H:Cp P R C r A rw cw c u) (K:Cp P R C r' A rw' cw' c' u') {k:Nat} (h1:k < r) (h2:k < r') (he:∀ j,j < C → u k j % P=u' k j % P):cw' k=cw k:=by
  rcases Nat.lt_trichotomy (cw' k) (cw k) with h|h|h
  · have h3:=H.uh k h1 _ h
    rw [he _ (K.clt k h2)] at h3
    exact absurd h3 (K.upiv k h2)
  · exact h
  · have h3:=K.uh k h2 _ h
    rw [← he _ (H.clt k h1)] at h3
    exact absurd h3 (H.upiv k h1)
theorem Cp.same (hP:Prm P) (H:Cp P R C r A rw cw c u) (K:Cp P R C r' A rw' cw' c' u'):∀ i,i ≤ R → ∃ k,k ≤ r ∧ k ≤ r' ∧ (∀ m,m < k → rw m < i ∧ rw' m=rw m ∧ cw' m=cw m ∧ ∀ j,j < C → u m j % P=u' m j % P) ∧ (∀ m,k ≤ m → m < r → i ≤ rw m) ∧ (∀ m,k ≤ m → m < r' → i ≤ rw' m) ∧ ∀ q,q < i → ∀ m,m < k → c q m % P=c' q m % P
  | 0,_ => ⟨0,Nat.zero_le _,Nat.zero_le _,fun m hm => by omega,fun _ _ _ => Nat.zero_le _,fun _ _ _ => Nat.zero_le _,fun q hq => by omega⟩
  | i + 1,hi => by
    obtain ⟨k,k1,k2,hm,h3,h4,h5⟩:=Cp.same hP H K i (by omega)
    have e1:=fun j (hj:j < C) => H.row_at (i:=i) (by omega) k1 h3 hj
    have e2:=fun j (hj:j < C) => K.row_at (i:=i) (by omega) k2 h4 hj
    have co:∀ m,m < k → c i m % P=c' i m % P:=by
      have tr:=Cp.tri hP H k1 (d:=fun m => c i m - c' i m) (fun j hj => by
        have hc:=H.clt j (by omega)
        have a1:=e1 _ hc
        have a2:=e2 _ hc
        have z1:(if k < r ∧ rw k=i then u k (cw j) else 0) % (P:Int)=0:=by
          split
          · rename_i h; exact H.uz j k hj h.1
          · rfl
        have z2:(if k < r' ∧ rw' k=i then u' k (cw j) else 0) % (P:Int)=0:=by
          split
          · rename_i h
            rw [← (hm j hj).2.2.1]; exact K.uz j k hj h.1
          · rfl
        have b1:A i (cw j) % P=sumN k (fun m => c i m * u m (cw j)) % P:=by
          rw [a1,em_add rfl (show _ % (P:Int)=0 % P by rw [z1]; rfl),Int.add_zero]
        have b2:A i (cw j) % P=sumN k (fun m => c' i m * u m (cw j)) % P:=by
          rw [a2,em_add rfl (show _ % (P:Int)=0 % P by rw [z2]; rfl),Int.add_zero]
          exact sumN_mod fun m hm' => em_mul rfl ((hm m hm').2.2.2 _ hc).symm
        have b3:=emod_sub0.1 (b1.symm.trans b2)
        rw [← sumN_sub] at b3
        rw [← b3]
        congr 1
        exact sumN_congr fun m _ => Int.sub_mul ..) k
      exact fun m hm' => emod_sub0.2 (tr m hm' hm')
    have eu:∀ j,j < C → (if k < r ∧ rw k=i then u k j else 0) % (P:Int)=(if k < r' ∧ rw' k=i then u' k j else 0) % P:=fun j hj => by
      have s:sumN k (fun m => c i m * u m j) % P=sumN k (fun m => c' i m * u' m j) % P:=sumN_mod fun m hm' => em_mul (co m hm') ((hm m hm').2.2.2 j hj)
      have a:=(e1 j hj).symm.trans (e2 j hj)
      have b:=emod_sub0.1 a
      have d:=emod_sub0.1 s
      refine emod_sub0.2 ?_
      have q:=em_sub (p:=P) (show _ % (P:Int)=0 % P by rw [b]; rfl) (show _ % (P:Int)=0 % P by rw [d]; rfl)
      rw [Int.sub_self,Int.zero_emod] at q
      rw [← q]
      congr 1
      omega
    by_cases a1:k < r ∧ rw k=i
    · have a2:k < r' ∧ rw' k=i:=Classical.byContradiction fun hn => by
        have h6:=eu _ (H.clt k a1.1)
        rw [if_pos a1,if_neg hn] at h6
        exact H.upiv k a1.1 h6
      have ek:∀ j,j < C → u k j % P=u' k j % P:=fun j hj => by
        have h6:=eu j hj
        rwa [if_pos a1,if_pos a2] at h6
      refine ⟨k + 1,a1.1,a2.1,fun m hm' => ?_,fun m h6 h7 => ?_,fun m h6 h7 => ?_,fun q hq m hm' => ?_⟩
      · by_cases e:m=k
        · subst e
          exact ⟨by omega,by omega,H.own_eq K a1.1 a2.1 ek,ek⟩
        · obtain ⟨g1,g2⟩:=hm m (by omega)
          exact ⟨by omega,g2⟩
      · have:=H.rinc k m (by omega) h7; omega
      · have:=K.rinc k m (by omega) h7; omega
      · by_cases e:m=k
        · subst e
          by_cases e2:q=i
          · subst e2
            have g1:=H.c1 m a1.1
            have g2:=K.c1 m a2.1
            rw [a1.2] at g1
            rw [a2.2] at g2
            rw [g1,g2]
          · rw [H.cz m a1.1 q (by omega),K.cz m a2.1 q (by omega)]
        · by_cases e2:q=i
          · subst e2; exact co m (by omega)
          · exact h5 q (by omega) m (by omega)
    · have a2:¬ (k < r' ∧ rw' k=i):=fun hn => by
        have h6:=eu _ (K.clt k hn.1)
        rw [if_neg a1,if_pos hn] at h6
        exact K.upiv k hn.1 h6.symm
      refine ⟨k,k1,k2,fun m hm' => ?_,fun m h6 h7 => ?_,fun m h6 h7 => ?_,fun q hq m hm' => ?_⟩
      · obtain ⟨g1,g2⟩:=hm m hm'
        exact ⟨by omega,g2⟩
      · have g1:=h3 k (Nat.le_refl k) (by omega)
        rcases Nat.lt_or_ge k m with h|h
        · have:=H.rinc k m h h7; omega
        · have:m=k:=by omega
          subst this
          have:rw m ≠ i:=fun e => a1 ⟨h7,e⟩
          omega
      · have g1:=h4 k (Nat.le_refl k) (by omega)
        rcases Nat.lt_or_ge k m with h|h
        · have:=K.rinc k m h h7; omega
        · have:m=k:=by omega
          subst this
          have:rw' m ≠ i:=fun e => a2 ⟨h7,e⟩
          omega
      · by_cases e2:q=i
        · subst e2; exact co m hm'
        · exact h5 q (by omega) m hm'
theorem Cp.all_same (hP:Prm P) (H:Cp P R C r A rw cw c u) (K:Cp P R C r' A rw' cw' c' u'):r'=r ∧ (∀ m,m < r → rw' m=rw m ∧ cw' m=cw m ∧ ∀ j,j < C → u m j % P=u' m j % P) ∧ ∀ i,i < R → ∀ m,m < r → c i m % P=c' i m % P:=by
  obtain ⟨k,k1,k2,hm,h3,h4,h5⟩:=Cp.same hP H K R (Nat.le_refl R)
  have e1:k=r:=by
    rcases Nat.lt_or_ge k r with h|h
    · have:=h3 k (Nat.le_refl k) h; have:=H.rlt k h; omega
    · omega
  have e2:k=r':=by
    rcases Nat.lt_or_ge k r' with h|h
    · have:=h4 k (Nat.le_refl k) h; have:=K.rlt k h; omega
    · omega
  subst e1
  exact ⟨e2.symm,fun m hm' => (hm m hm').2,h5⟩
end
theorem cup_uniq {P R C:Nat} {A:Mx} {c d:CupT} (hP:Prm P) (hw:CupW P R C c) (H:CpC P R C A c) (kw:CupW P R C d) (K:CpC P R C A d):c=d:=by
  obtain ⟨e1,e2,e3⟩:=Cp.all_same hP H K
  obtain ⟨rw0,cw,cc,uu⟩:=c
  obtain ⟨rw1,cw1,cc1,uu1⟩:=d
  have g1:=hw.ql
  have g2:=kw.ql
  have g3:=hw.ul
  have g4:=kw.ul
  have g5:=hw.cl
  have g6:=kw.cl
  simp only at e1 e2 e3 g1 g2 g3 g4 g5 g6
  have x1:rw0=rw1:=list_ext0 rfl e1 fun i hi => by
    have a:=hw.rb (rw0.getD i 0) (getD_mm hi)
    have b:=kw.rb (rw1.getD i 0) (getD_mm (by simp only; omega))
    have:=(e2 i hi).1
    unfold rwC at this
    simp only at this
    omega
  have x2:cw=cw1:=list_ext0 g1 (by omega) fun i hi => by
    have a:=hw.qb (cw.getD i 0) (getD_mm (by simp only; omega))
    have b:=kw.qb (cw1.getD i 0) (getD_mm (by simp only; omega))
    have:=(e2 i hi).2.1
    unfold cwC at this
    simp only at this
    omega
  have x3:cc=cc1:=List.ext_getElem (by omega) fun i h1 h2 => by
    obtain ⟨a1,a2⟩:=hw.cr cc[i] (List.getElem_mem h1)
    obtain ⟨b1,b2⟩:=kw.cr cc1[i] (List.getElem_mem h2)
    simp only at a1 b1
    refine list_ext0 a1 (by omega) fun m hm => ?_
    have h:=e3 i (by omega) m hm
    unfold ccC at h
    simp only at h
    rw [List.getD_eq_getElem?_getD (l:=cc),List.getElem?_eq_getElem h1,List.getD_eq_getElem?_getD (l:=cc1),List.getElem?_eq_getElem h2] at h
    simp only [Option.getD_some] at h
    rwa [in_mod (getD_of a2 (by omega)),in_mod (getD_of b2 (by omega))] at h
  have x4:uu=uu1:=List.ext_getElem (by omega) fun i h1 h2 => by
    obtain ⟨a1,a2⟩:=hw.ur uu[i] (List.getElem_mem h1)
    obtain ⟨b1,b2⟩:=kw.ur uu1[i] (List.getElem_mem h2)
    refine list_ext0 a1 b1 fun j hj => ?_
    have h:=(e2 i (by omega)).2.2 j hj
    unfold uuC at h
    simp only at h
    rw [List.getD_eq_getElem?_getD (l:=uu),List.getElem?_eq_getElem h1,List.getD_eq_getElem?_getD (l:=uu1),List.getElem?_eq_getElem h2] at h
    simp only [Option.getD_some] at h
    rwa [in_mod (getD_of a2 (by omega)),in_mod (getD_of b2 (by omega))] at h
  rw [x1,x2,x3,x4]
end Go.Proofs.Ytmalpmnmknpphaa.TM
namespace Go.Proofs.Ytmalpmnmknpphaa.TM
open Go Go.RowKit
attribute [local irreducible] K W WOps Effs Xg Xo Xr Xdg Xdo Xdr Xif CallsP CallR
def mkP (p:Int) (X Y:Nat → Int):Nat → Int
  | 0 => 0
  | k + 1 => (mkP p X Y k + X k * Y k % p) % p
theorem mkP_in {p:Int} (hp:Md p) (X Y:Nat → Int):∀ k,In p (mkP p X Y k)
  | 0 => ⟨by show (0:Int) ≤ 0; omega,by have:=hp.1; show (0:Int) < p; omega⟩
  | k + 1 => in_emod hp _
def mkG (p:Int) (cc uu:List (List Int)) (i q k:Nat):Int:=mkP p (fun k => (cc.getD i []).getD k 0) (fun k => (uu.getD k []).getD q 0) k
def makeM (p:Int) (cc uu:List (List Int)) (R K C:Nat):List Int:=tbl (R * C) (fun t => mkG p cc uu (t / C) (t % C) K)
section
variable {p:Int} {cc uu:List (List Int)} {K C i k q R:Nat}
end
end Go.Proofs.Ytmalpmnmknpphaa.TM
namespace Go.Proofs.Ytmalpmnmknpphaa.TM
open Go Go.RowKit
attribute [local irreducible] K W WOps Effs Xg Xo Xr Xdg Xdo Xdr Xif CallsP CallR
def dtN (p:Int) (c:CupT):Nat → Int
  | 0 => 1
  | j + 1 => dtN p c j * (c.2.2.2.getD j []).getD (c.2.1.getD j 0).toNat 0 % p
theorem dtN_in {p:Int} (hp:Md p) (c:CupT):∀ j,In p (dtN p c j)
  | 0 => ⟨by show (0:Int) ≤ 1; decide,by have:=hp.1; show (1:Int) < p; omega⟩
  | j + 1 => in_emod hp _
theorem dtN_eq (p:Int) (c:CupT):∀ j,dtN p c j % p=prodN j (fun k => uuC c k (cwC c k)) % p
  | 0 => rfl
  | j + 1 => by rw [dtN,em_refl,prodN]; exact em_mul (dtN_eq p c j) rfl
theorem cols_ord {P R:Nat} {A:Mx} {c:CupT} (h1:1 ≤ R) (h2:R ≤ 64) (hw:CupW P R R c) (H:CpC P R R A c) (hr:c.1.length=R):orderB c.2.1=true ∧ sgnR c.2.1=sgnI (fun k => (cwC c k:Int)) R:=by
  have e:c.2.1=tbl R (fun k => (cwC c k:Int)):=by
    rw [← hr]
    refine (tbl_of hw.ql).trans (tbl_congr fun k hk => ?_)
    have:=hw.qb _ (getD_mm (l:=c.2.1) (d:=0) (i:=k) (by rw [hw.ql]; exact hk))
    unfold cwC; omega
  have i1:InjN (fun k => (cwC c k:Int)) R:=fun i j hi hj he => H.cdis (by omega) (by omega) (by have:(cwC c i:Int)=cwC c j:=he; omega)
  have i2:InN (fun k => (cwC c k:Int)) R:=fun i hi => ⟨by show (0:Int) ≤ (cwC c i:Int); omega,by have:=H.clt i (by omega); show (cwC c i:Int) < R; omega⟩
  have o:=ord_tbl h1 h2 i1 i2
  rw [e]
  exact ⟨(orderB_iff _).2 o,sgn_tbl o⟩
end Go.Proofs.Ytmalpmnmknpphaa.TM
namespace Go.Proofs.Ytmalpmnmknpphaa.TM
open Go Go.RowKit
section
variable {P R C:Nat} {l b:List Int}
theorem CpC.rle_c {A:Mx} {c:CupT} (H:CpC P R C A c):c.1.length ≤ C :=
  pigeon C c.1.length (cwC c) (fun i hi => H.clt i hi) (fun i j hij hj he => by have:=H.cdis (by omega) hj he; omega)
end
end Go.Proofs.Ytmalpmnmknpphaa.TM
namespace Go.Proofs.Ytmalpmnmknpphaa.TM
open Go Go.RowKit
theorem apX_cong {p:Int} {C:Nat} {A B:Mx} {x:Nat → Int} {i:Nat} (h:∀ j,j < C → A i j % p=B i j % p):apX C A x i % p=apX C B x i % p:=sumN_mod fun j hj => em_mul (h j hj) rfl
theorem apX_id {C:Nat} {x:Nat → Int} {i:Nat} (hi:i < C):apX C idX x i=x i:=by
  unfold apX
  rw [← sumN_one x hi]
  refine sumN_congr fun j _ => ?_
  unfold idX
  by_cases e:j=i
  · rw [if_pos e,if_pos e,Int.one_mul]
  · rw [if_neg e,if_neg e,Int.zero_mul]
def InvX (P R:Nat) (A U:Mx):Prop:=∀ i j,i < R → j < R → mulX R A U i j % P=idX i j % P
def InjX (P R:Nat) (A:Mx):Prop:=∀ x:Nat → Int,(∀ i,i < R → apX R A x i % P=0) → ∀ j,j < R → x j % P=0
section
variable {P R:Nat} {A B U V:Mx}
theorem InvX.ap (h:InvX P R A U) (x:Nat → Int) {i:Nat} (hi:i < R):apX R A (apX R U x) i % P=x i % P:=by
  rw [← apX_mul,apX_cong (B:=idX) (fun j hj => h i j hi hj),apX_id hi]
theorem InvX.left (h:InvX P R A U) (hI:InjX P R A):InvX P R U A:=fun k j hk hj => by
  refine emod_sub0.2 (hI (fun k => mulX R U A k j - idX k j) (fun i hi => ?_) k hk)
  rw [apX_sub]
  refine emod_sub0.1 ?_
  have h1:apX R A (fun j_1 => mulX R U A j_1 j) i % P=A i j % P:=h.ap (fun m => A m j) hi
  rw [h1]
  have h2:apX R A (fun m => idX m j) i=A i j:=by
    unfold apX
    rw [← sumN_one (fun m => A i m) hj]
    refine sumN_congr fun m _ => ?_
    show A i m * (if j=m then 1 else 0)=if m=j then A i m else 0
    by_cases e:m=j
    · rw [if_pos e.symm,if_pos e,Int.mul_one]
    · rw [if_neg (fun h => e h.symm),if_neg e,Int.mul_zero]
  rw [h2]
theorem InvX.mul (h:InvX P R A U) (k:InvX P R B V):InvX P R (mulX R A B) (mulX R V U):=fun i j hi hj => by
  have e:mulX R (mulX R A B) (mulX R V U) i j=apX R A (apX R B (apX R V (fun k => U k j))) i:=by
    show apX R (mulX R A B) (apX R V (fun k => U k j)) i=_
    rw [apX_mul]
  rw [e]
  exact (apX_mod (fun m hm => k.ap (fun k => U k j) hm) i).trans (h i j hi hj)
theorem InvX.cong {A' U':Mx} (h:InvX P R A U) (ha:∀ i j,i < R → j < R → A' i j % P=A i j % P) (hu:∀ i j,i < R → j < R → U' i j % P=U i j % P):InvX P R A' U':=fun i j hi hj => by
  rw [← h i j hi hj]
  exact sumN_mod fun k hk => em_mul (ha i k hi hk) (hu k j hk hj)
theorem InvX.lp (hP:Prm P) (hp:Md P) (h:InvX P R A U):Lp R A * Lp R U % P=1:=by
  rw [← Lp_mulX hP hp,Lp_mod R h,Lp_id]
  exact Int.emod_eq_of_lt (by decide) (by have:=hp.1; omega)
end
section
variable {P R:Nat} {l:List Int}
end
end Go.Proofs.Ytmalpmnmknpphaa.TM
namespace Go.Proofs.Ytmalpmnmknpphaa.TM
open Go Go.RowKit
theorem has_in13 {P:Nat} (hp:Md P) {x:List Int} (h:∀ a ∈ x,In P a):HasB P x=true:=(has_iff _ _).2 ⟨fun a ha => (h a ha).2,hp.1,hp.2⟩
def mkA (c:CupT):Mx:=fun i j => sumN c.1.length (fun k => ccC c i k * uuC c k j)
section
variable {P R C:Nat} {c:CupT}
theorem rows_inc {rws:List Int} {Q:Int} (h:∀ j,j < rws.length → goodR rws Q j):∀ d k,k + d + 1 < rws.length → rws.getD k 0 < rws.getD (k + d + 1) 0
  | 0,k,hk => (h (k + 1) hk).1
  | d + 1,k,hk => by
    have h1:=rows_inc h d k (by omega)
    have h2:=(h (k + d + 1 + 1) (by omega)).1
    have h3:lastV rws (k + d + 1 + 1)=rws.getD (k + d + 1) 0:=rfl
    rw [show k + (d + 1) + 1=k + d + 1 + 1 by omega]
    omega
theorem flat_mem {L:List (List Int)} {u:List Int} {a:Int} (hu:u ∈ L) (ha:a ∈ u):a ∈ L.flatten:=List.mem_flatten.2 ⟨u,hu,ha⟩
theorem has_cup (h:hasP P R C c) (w1:∀ u ∈ c.2.2.1,∀ a ∈ u,0 ≤ a) (w2:∀ u ∈ c.2.2.2,∀ a ∈ u,0 ≤ a):Md P ∧ CupW P R C c ∧ CpC P R C (mkA c) c:=by
  obtain ⟨hR,hC,hn,⟨u1,u2⟩,⟨k1,k2⟩,f1,f2,hk⟩:=h
  obtain ⟨g1,g2,g3⟩:=(has_iff _ _).1 f1
  obtain ⟨g4,_,_⟩:=(has_iff _ _).1 f2
  have hp:Md P:=⟨g2,g3⟩
  have rr:=namedP_row hn
  have ur:∀ u ∈ c.2.2.2,u.length=C ∧ ∀ a ∈ u,In P a:=fun u hu => ⟨by have:=u2 u hu; omega,fun a ha => ⟨w2 u hu a ha,g1 a (flat_mem hu ha)⟩⟩
  have cr:∀ u ∈ c.2.2.1,u.length=c.1.length ∧ ∀ a ∈ u,In P a:=fun u hu => ⟨by have:=k2 u hu; omega,fun a ha => ⟨w1 u hu a ha,g4 a (flat_mem hu ha)⟩⟩
  have rs:∀ k,k < c.1.length → zerB ((c.2.2.2.getD k []).take (c.2.1.getD k 0).toNat)=true ∧ (∀ a ∈ c.2.1.take k,(c.2.2.2.getD k []).getD a.toNat 0=0) ∧ ¬ (c.2.2.2.getD k []).getD (c.2.1.getD k 0).toNat 0=0:=fun k hk' => by
    have:=(hk k hk').1
    unfold restB at this
    simp only [Bool.and_eq_true,Bool.not_eq_true',decide_eq_false_iff_not] at this
    exact ⟨this.1,(badC_iff _ _ _).1 this.2.1,this.2.2⟩
  have ps:=fun k hk' => partB_iff.1 (hk k hk').2
  have ql:c.2.1.length=c.1.length:=hn.2.2.1.symm
  have cq:∀ k,k < c.1.length → 0 ≤ c.2.1.getD k 0 ∧ c.2.1.getD k 0 < C:=fun k hk' => by
    have:=hn.2.1 k (by omega)
    exact ⟨this.1,this.2.1⟩
  have W:CupW P R C c:=⟨ql,by omega,by omega,fun a ha => by
      obtain ⟨k,hk',rfl⟩:=List.getElem_of_mem ha
      have h1:=rr k hk'
      rwa [List.getD_eq_getElem?_getD,List.getElem?_eq_getElem hk'] at h1,fun a ha => namedP_col hn ha,ur,cr,fun k hk' => (rs k hk').2.2,by have:=hn.2.2.2.1; omega⟩
  have uin:∀ k j,k < c.1.length → j < C → In P (uuC c k j):=fun k j hk' hj => by
    obtain ⟨a,b⟩:=ur (c.2.2.2.getD k []) (getD_mm (by have:=W.ul; omega))
    exact getD_of b (by omega)
  refine ⟨hp,W,?_,?_,?_,?_,?_,?_,?_,?_,fun i _ j _ => rfl⟩
  · intro k hk'
    have:=rr k hk'
    unfold rwC; omega
  · intro j k hjk hk'
    have h1:=rows_inc hn.1 (k - j - 1) j (by omega)
    rw [show j + (k - j - 1) + 1=k by omega] at h1
    have:=rr j (by omega)
    have:=rr k hk'
    unfold rwC; omega
  · intro k hk'
    have:=cq k hk'
    unfold cwC; omega
  · intro k hk'
    rw [in_mod (uin k _ hk' (by have:=cq k hk'; unfold cwC; omega))]
    exact (rs k hk').2.2
  · intro j k hjk hk'
    have h1:=(rs k hk').2.1 (c.2.1.getD j 0) (by
      rw [List.getD_eq_getElem?_getD,List.getElem?_eq_getElem (show j < c.2.1.length by omega)]
      refine List.mem_take_iff_getElem.2 ⟨j,by omega,rfl⟩)
    show uuC c k (cwC c j) % (P:Int)=0
    rw [show uuC c k (cwC c j)=0 from h1]; rfl
  · intro k hk' j hj
    have h1:=(zerB_iff _).1 (rs k hk').1 j (by
      obtain ⟨a,_⟩:=ur (c.2.2.2.getD k []) (getD_mm (by have:=W.ul; omega))
      have:=cq k hk'
      unfold cwC at hj
      rw [List.length_take]; omega)
    rw [List.getD_eq_getElem?_getD,List.getElem?_take,if_pos (by unfold cwC at hj; exact hj),← List.getD_eq_getElem?_getD] at h1
    rw [show uuC c k j=0 from h1]; rfl
  · intro k hk'
    rw [show ccC c (rwC c k) k=1 from (ps k hk').2]
    exact Int.emod_eq_of_lt (by decide) (by have:=hp.1; omega)
  · intro k hk' i hi
    rw [show ccC c i k=0 from (ps k hk').1 i hi]; rfl
theorem cup_has {A:Mx} (hP:Prm P) (hp:Md P) (hR:1 ≤ R ∧ R ≤ 64) (hC:1 ≤ C ∧ C ≤ 64) (W:CupW P R C c) (H:CpC P R C A c):hasP P R C c:=by
  have rk:=H.rle
  have ck:c.1.length ≤ C:=CpC.rle_c H
  have rq:∀ k,k < c.1.length → c.1.getD k 0=((rwC c k:Nat):Int):=fun k hk => by
    have:=W.rb _ (getD_mm (l:=c.1) (d:=0) hk)
    unfold rwC; omega
  have cq:∀ k,k < c.1.length → c.2.1.getD k 0=((cwC c k:Nat):Int):=fun k hk => by
    have:=W.qb _ (getD_mm (l:=c.2.1) (d:=0) (i:=k) (by rw [W.ql]; exact hk))
    unfold cwC; omega
  have uin:∀ k j,k < c.1.length → j < C → In P (uuC c k j):=fun k j hk hj => by
    obtain ⟨a,b⟩:=W.ur (c.2.2.2.getD k []) (getD_mm (by have:=W.ul; omega))
    exact getD_of b (by omega)
  have cin:∀ i k,i < R → k < c.1.length → In P (ccC c i k):=fun i k hi hk => by
    obtain ⟨a,b⟩:=W.cr (c.2.2.1.getD i []) (getD_mm (by have:=W.cl; omega))
    exact getD_of b (by omega)
  have one:(1:Int) % P=1:=Int.emod_eq_of_lt (by decide) (by have:=hp.1; omega)
  refine ⟨by omega,by omega,⟨fun j hj => ?_,fun j hj => ?_,W.ql.symm,by omega,by omega⟩,⟨by have:=W.ul; omega,fun u hu => by have:=(W.ur u hu).1; omega⟩,⟨by have:=W.cl; omega,fun u hu => by have:=(W.cr u hu).1; omega⟩,?_,?_,fun k hk => ⟨?_,?_⟩⟩
  · have h1:=H.rlt j hj
    refine ⟨?_,by rw [rq j hj]; omega⟩
    cases j with
    | zero => rw [show lastV c.1 0=-1 from rfl,rq 0 hj]; omega
    | succ j =>
      have h2:=H.rinc j (j + 1) (by omega) hj
      rw [show lastV c.1 (j + 1)=c.1.getD j 0 from rfl,rq (j + 1) hj,rq j (by omega)]
      omega
  · have hj':j < c.1.length:=by rw [← W.ql]; exact hj
    have h1:=H.clt j hj'
    refine ⟨by rw [cq j hj']; omega,by rw [cq j hj']; omega,fun hm => ?_⟩
    obtain ⟨i,hi,e⟩:=List.mem_take_iff_getElem.1 hm
    have e2:c.2.1.getD i 0=c.2.1.getD j 0:=by
      rw [← e,List.getD_eq_getElem?_getD,List.getElem?_eq_getElem (show i < c.2.1.length by omega)]; rfl
    rw [cq i (by omega),cq j hj'] at e2
    have:=H.cdis (j:=i) (k:=j) (by omega) hj' (by omega)
    omega
  · exact has_in13 hp fun a ha => by
      obtain ⟨u,hu,ha⟩:=List.mem_flatten.1 ha
      exact (W.ur u hu).2 a ha
  · exact has_in13 hp fun a ha => by
      obtain ⟨u,hu,ha⟩:=List.mem_flatten.1 ha
      exact (W.cr u hu).2 a ha
  · unfold restB
    have ul:=(W.ur (c.2.2.2.getD k []) (getD_mm (by have:=W.ul; omega))).1
    have hck:=H.clt k hk
    simp only [Bool.and_eq_true,Bool.not_eq_true',decide_eq_false_iff_not]
    refine ⟨(zerB_iff _).2 fun j hj => ?_,(badC_iff _ _ _).2 fun a ha => ?_,W.nz k hk⟩
    · rw [List.length_take] at hj
      rw [List.getD_eq_getElem?_getD,List.getElem?_take,if_pos (by omega),← List.getD_eq_getElem?_getD]
      have h1:=H.uh k hk j (by unfold cwC; omega)
      rwa [in_mod (uin k j hk (by unfold cwC at hck; omega))] at h1
    · obtain ⟨i,hi,e⟩:=List.mem_take_iff_getElem.1 ha
      have e2:a=c.2.1.getD i 0:=by
        rw [← e,List.getD_eq_getElem?_getD,List.getElem?_eq_getElem (show i < c.2.1.length by omega)]; rfl
      have h1:=H.uz i k (by omega) hk
      rw [in_mod (uin k _ hk (H.clt i (by omega)))] at h1
      rw [e2]; exact h1
  · refine partB_iff.2 ⟨fun q hq => ?_,?_⟩
    · have h1:=H.cz k hk q hq
      rwa [in_mod (cin q k (by have:=H.rlt k hk; unfold rwC at this; omega) hk)] at h1
    · have h1:=H.c1 k hk
      rwa [in_mod (cin _ k (H.rlt k hk) hk)] at h1
end
section
variable {P R C:Nat} {c:CupT}
theorem ctM_len (p:Int) (c:CupT) (x:List Int):(ctM p c x).length=c.2.2.1.length:=rowsT_len ..
theorem ctM_get (W:CupW P R C c) {x:List Int} (hx:x.length=C) {i:Nat} (hi:i < R):(ctM P c x).getD i 0=apX C (mkA c) (fun j => x.getD j 0) i % P:=by
  have cl:=W.cl
  have ul:=W.ul
  unfold ctM
  rw [show rowsT (P:Int) c.2.2.1 (rowsT P c.2.2.2 x)=tbl c.2.2.1.length (fun j => dotI (c.2.2.1.getD j []) (rowsT P c.2.2.2 x) % P) from rfl,tbl_getD _ (by omega)]
  obtain ⟨a,_⟩:=W.cr (c.2.2.1.getD i []) (getD_mm (by omega))
  rw [dotI_eq c.1.length _ _ a (by rw [rowsT_len]; omega)]
  have e:∀ k,k < c.1.length → (rowsT P c.2.2.2 x).getD k 0=apX C (uuC c) (fun j => x.getD j 0) k % P:=fun k hk => by
    obtain ⟨a,_⟩:=W.ur (c.2.2.2.getD k []) (getD_mm (by omega))
    unfold rowsT
    rw [tbl_getD _ (by omega),dotI_eq C _ _ a hx]; rfl
  have s:sumN c.1.length (fun k => (c.2.2.1.getD i []).getD k 0 * (rowsT P c.2.2.2 x).getD k 0) % P=sumN c.1.length (fun k => ccC c i k * apX C (uuC c) (fun j => x.getD j 0) k) % P:=sumN_mod fun k hk => em_mul rfl (by rw [e k hk,em_refl])
  rw [s]
  congr 1
  unfold apX mkA
  rw [sumN_congr fun k _ => (sumN_mul C (ccC c i k) (fun j => uuC c k j * x.getD j 0)).symm,sumN_swap]
  refine sumN_congr fun j _ => ?_
  rw [← sumN_mulr]
  exact sumN_congr fun k _ => by rw [Int.mul_assoc]
theorem made_look {l:List Int} (hl:l.length=R * C) (W:CupW P R C c) (h:∀ i,i < R → ∀ j,j < C → cl C l i j % P=mkA c i j % P) {x:List Int} (hx:x.length=C):timesM P R C l x=ctM P c x:=by
  refine list_ext0 (timesM_len ..) (by rw [ctM_len]; exact W.cl) fun i hi => ?_
  rw [timesM_ap hl hx hi,ctM_get W hx hi]
  exact sumN_mod fun j hj => em_mul (h i hi j hj) rfl
end
theorem take_is {P R C:Nat} {l:List Int} {c:CupT} (hP:Prm P) (M:Mt P R C l) (hin:∀ a ∈ l,In P a) (W:CupW P R C c) (H:CpC P R C (mkA c) c):tkCup P C R l=c ↔ ∀ i,i < R → ∀ j,j < C → cl C l i j % P=mkA c i j % P:=by
  have K:=tkCup_Cp hP M hin
  have kw:=tkCup_W hP M hin
  constructor
  · intro e i hi j hj
    rw [e] at K
    exact K.made i hi j hj
  · intro h
    exact cup_uniq hP kw (Cp.cong K fun i j hi hj => h i hi j hj) W H
end Go.Proofs.Ytmalpmnmknpphaa.TM
namespace Go.Proofs.Ytmalpmnmknpphaa.TM
open Go Go.RowKit
attribute [local irreducible] K W WOps Effs Xg Xo Xr Xdg Xdo Xdr Xif CallsP CallR
set_option maxHeartbeats 4000000 in
theorem det13_of {P R:Nat} {c:CupT} (hP:Prm P) (hp:Md P) (r1:1 ≤ R) (r2:R ≤ 64) (hw:CupW P R R c) (H:CpC P R R (mkA c) c) (hh:CallsP Try.prog 39 [u64 P,cupQ c,i64 R,i64 R] (bl true)) :
    CallsP Try.prog 49 [u64 P,cupQ c,i64 R] (.tup [u64 (Lp R (mkA c) % P),i64 0]):=by
  have hl:=H.lp
  have co:=fun h => cols_ord r1 r2 hw H h
  rw [hl]
  unfold pdX
  clear hl H
  have di:=dtN_in hp c
  have de:=dtN_eq P c R
  generalize hG:prodN R (fun k => uuC c k (cwC c k))=G at de ⊢
  generalize hS:sgnI (fun k => (cwC c k:Int)) R=S at co ⊢
  have s1:S=1 ∨ S=-1:=by rw [← hS]; exact sgnI_one _ _
  clear hG hS
  obtain ⟨rw0,cw,cc,uu⟩:=c
  have rle:=hw.rle
  have ul:=hw.ul
  have ql:=hw.ql
  simp only at rle ul ql co ⊢
  by_cases hr:rw0.length=R
  case neg =>
    rw [if_neg hr,Int.zero_emod]
    have h1:(rw0.length:Int) < R:=by omega
    refine X_startP (n:=62) (m:=3) (rs:=[.tmp 6,.tmp 7]) Try.func49 rfl rfl rfl rfl (by decide) fun base => ?_
    repeat (first|((first|refine X_call_fn2 rfl (by simp only [tys]) ?_|refine X_dcall_fn2 rfl (by simp only [tys]) ?_); apply Exists.intro; apply And.intro; (focus (simp -dsimp only [simx,zzC,zzB,tys,ite_self,opnL,callB,callX,readsB,stepOp,nilCmp,ofVal,opBuiltin,opLen,PV.sk,scalBin,scalUn,intBin,opLoad,natOf,opConvert,opField,cellsP,oneP,Value.oneCell',opStore,toIV,scalT,scalA,scalC,boxesA,boxesC,zipB_none,zipB_mx,isZ,opZip,zeroP,opAppendZ,opMakeMap,opLookup,mboxB,opUpdate,↓reduceIte,Nat.reduceSub,Nat.reduceEqDiff,Nat.reduceAdd,Nat.reduceMul,Nat.reduceLT,Nat.reduceLeDiff,Int.reduceToNat,Int.reduceLE,Int.reduceLT,Int.reduceNeg,reduceCtorEq,zzL,if_true,if_false] <;> rfl)); apply Exists.intro; apply And.intro; (focus (first|exact hh)))|refine X_opc rfl ?_|refine X_dopc rfl ?_|refine ⟨(by show drawK _ _=true; kernel_rfl:drawX _ _ _),?_⟩|exact (by show drawK _ _=true; kernel_rfl:drawX _ _ _)|simp -dsimp (maxSteps:=20000000) (disch:=omega) only [simx,zzC,zzB,tys,ite_self,opnL,callB,callX,readsB,stepOp,nilCmp,ofVal,opBuiltin,opLen,PV.sk,scalBin,scalUn,intBin,opLoad,natOf,opConvert,opField,cellsP,oneP,Value.oneCell',opStore,toIV,scalT,scalA,scalC,boxesA,boxesC,zipB_none,zipB_mx,isZ,opZip,zeroP,opAppendZ,opMakeMap,opLookup,mboxB,opUpdate,↓reduceIte,Nat.reduceSub,Nat.reduceEqDiff,Nat.reduceAdd,Nat.reduceMul,Nat.reduceLT,Nat.reduceLeDiff,Int.reduceToNat,Int.reduceLE,Int.reduceLT,Int.reduceNeg,reduceCtorEq,zzR,gos,Int.reduceAdd,Int.reduceSub,Int.reduceMul,Int.reduceEq,SK.len,h1])
  rw [if_pos hr]
  obtain ⟨o1,o2⟩:=co hr
  have h1:¬ (rw0.length:Int) < R:=by omega
  have q2:=sign_walk cw (by rw [ql,mx_len]; omega)
  unfold signR at q2
  rw [if_pos o1,o2] at q2
  have q3:=Sub_in hp ⟨Int.le_refl 0,by have:=hp.1; omega⟩ (di R)
  have e3:(0 - dtN P (rw0,cw,cc,uu) R) % P=G * -1 % P:=by
    rw [em_sub (rfl:(0:Int) % P=0 % P) de]
    congr 1
    omega
  have e2:dtN P (rw0,cw,cc,uu) R=G * 1 % P:=by
    rw [Int.mul_one,← de,in_mod (di R)]
  rw [e3] at q3
  have ur:uu.length=R:=by omega
  refine X_startP (n:=62) (m:=3) (rs:=[.tmp 6,.tmp 7]) Try.func49 rfl rfl rfl rfl (by decide) fun base => ?_
  repeat (first|((first|refine X_call_fn2 rfl (by simp only [tys]) ?_|refine X_dcall_fn2 rfl (by simp only [tys]) ?_); apply Exists.intro; apply And.intro; (focus (simp -dsimp only [simx,zzC,zzB,tys,ite_self,opnL,callB,callX,readsB,stepOp,nilCmp,ofVal,opBuiltin,opLen,PV.sk,scalBin,scalUn,intBin,opLoad,natOf,opConvert,opField,cellsP,oneP,Value.oneCell',opStore,toIV,scalT,scalA,scalC,boxesA,boxesC,zipB_none,zipB_mx,isZ,opZip,zeroP,opAppendZ,opMakeMap,opLookup,mboxB,opUpdate,↓reduceIte,Nat.reduceSub,Nat.reduceEqDiff,Nat.reduceAdd,Nat.reduceMul,Nat.reduceLT,Nat.reduceLeDiff,Int.reduceToNat,Int.reduceLE,Int.reduceLT,Int.reduceNeg,reduceCtorEq,zzL,if_true,if_false] <;> rfl)); apply Exists.intro; apply And.intro; (focus (first|exact hh)))|refine X_opc rfl ?_|refine X_dopc rfl ?_|refine ⟨(by show drawK _ _=true; kernel_rfl:drawX _ _ _),?_⟩|exact (by show drawK _ _=true; kernel_rfl:drawX _ _ _)|simp -dsimp (maxSteps:=20000000) (disch:=omega) only [simx,zzC,zzB,tys,ite_self,opnL,callB,callX,readsB,stepOp,nilCmp,ofVal,opBuiltin,opLen,PV.sk,scalBin,scalUn,intBin,opLoad,natOf,opConvert,opField,cellsP,oneP,Value.oneCell',opStore,toIV,scalT,scalA,scalC,boxesA,boxesC,zipB_none,zipB_mx,isZ,opZip,zeroP,opAppendZ,opMakeMap,opLookup,mboxB,opUpdate,↓reduceIte,Nat.reduceSub,Nat.reduceEqDiff,Nat.reduceAdd,Nat.reduceMul,Nat.reduceLT,Nat.reduceLeDiff,Int.reduceToNat,Int.reduceLE,Int.reduceLT,Int.reduceNeg,reduceCtorEq,gos,Int.reduceAdd,Int.reduceSub,Int.reduceMul,Int.reduceEq,SK.len,h1,ur])
  refine X_loopH [0,4,8,25,26,27] [] (0) (R) (fun j => True) (fun j => [(8,u64 (dtN P (rw0,cw,cc,uu) j)),(27,i64 j)]) (fun j => Heap.none.put ((0,0)::base) (.var [li rw0,li cw,llP cc,llP uu])) ?_ ?_ ?_ ?_ ?_ (by decide) ?_
  · exact (fgt_nil)
  · ((simp -dsimp (disch:=omega) only [simx,zzB,tys,ite_self,opnL,callB,callX,readsB,stepOp,nilCmp,ofVal,opBuiltin,opLen,PV.sk,scalBin,scalUn,intBin,opLoad,natOf,opConvert,opField,cellsP,oneP,Value.oneCell',opStore,toIV,scalT,scalA,scalC,boxesA,boxesC,zipB_none,zipB_mx,isZ,opZip,zeroP,opAppendZ,opMakeMap,opLookup,mboxB,opUpdate,↓reduceIte,Nat.reduceSub,Nat.reduceEqDiff,Nat.reduceAdd,Nat.reduceMul,Nat.reduceLT,Nat.reduceLeDiff,Int.reduceToNat,Int.reduceLE,Int.reduceLT,Int.reduceNeg,reduceCtorEq,gos,Int.reduceAdd,Int.reduceSub,Int.reduceMul,Int.reduceEq]) <;> first|rfl|simp [dtN])
  · exact drop_nil _
  · omega
  · trivial
  · intro j hj _
    by_cases cj:j < R
    · have hq:=hw.qb (cw.getD j 0) (getD_mm (by simp only; omega))
      obtain ⟨q,hqe⟩:∃ q:Nat,cw.getD j 0=q:=⟨(cw.getD j 0).toNat,by omega⟩
      obtain ⟨u1,u2⟩:=hw.ur (uu.getD j []) (getD_mm (by simp only; omega))
      have qC:q < R:=by omega
      have g1:(uu.map fun u => IV.l u.length (u.map iu))[j]?=some (.l R ((uu.getD j []).map iu)):=by rw [List.getElem?_map,getD_at' (d:=[]) (by omega),Option.map_some,u1]
      have g2:(cw.map ii)[j]?=some (ii (q:Int)):=by rw [List.getElem?_map,getD_at' (d:=0) (by omega),Option.map_some,hqe]
      have g3:((uu.getD j []).map iu)[q]?=some (iu ((uu.getD j []).getD q 0)):=by rw [List.getElem?_map,getD_some u1 qC]; rfl
      have m1:=Mul_in hp (di j) (getD_of u2 (i:=q) (by omega))
      have dn:dtN P (rw0,cw,cc,uu) (j + 1)=dtN P (rw0,cw,cc,uu) j * (uu.getD j []).getD q 0 % P:=by
        rw [dtN]; simp only [hqe,Int.toNat_natCast]
      rw [← dn] at m1
      obtain ⟨D1,hD1⟩:∃ D,dtN P (rw0,cw,cc,uu) (j + 1)=D:=⟨_,rfl⟩
      rw [hD1] at m1
      clear dn e2 e3 q3 di de
      generalize dtN P (rw0,cw,cc,uu) j=D0 at m1 ⊢
      obtain ⟨U,hU⟩:∃ U,uu.getD j []=U:=⟨_,rfl⟩
      rw [hU] at g1 g3 m1
      generalize U.getD q 0=x at g3 m1
      have cj2:j < cw.length:=by omega
      repeat (first|((first|refine X_call_fn2 rfl (by simp only [tys]) ?_|refine X_dcall_fn2 rfl (by simp only [tys]) ?_); apply Exists.intro; apply And.intro; (focus (simp -dsimp only [simx,zzC,zzB,tys,ite_self,opnL,callB,callX,readsB,stepOp,nilCmp,ofVal,opBuiltin,opLen,PV.sk,scalBin,scalUn,intBin,opLoad,natOf,opConvert,opField,cellsP,oneP,Value.oneCell',opStore,toIV,scalT,scalA,scalC,boxesA,boxesC,zipB_none,zipB_mx,isZ,opZip,zeroP,opAppendZ,opMakeMap,opLookup,mboxB,opUpdate,↓reduceIte,Nat.reduceSub,Nat.reduceEqDiff,Nat.reduceAdd,Nat.reduceMul,Nat.reduceLT,Nat.reduceLeDiff,Int.reduceToNat,Int.reduceLE,Int.reduceLT,Int.reduceNeg,reduceCtorEq,zzL,if_true,if_false] <;> rfl)); apply Exists.intro; apply And.intro; (focus (first|exact m1)))|refine X_opc rfl ?_|refine X_dopc rfl ?_|refine ⟨(by show drawK _ _=true; kernel_rfl:drawX _ _ _),?_⟩|exact (by show drawK _ _=true; kernel_rfl:drawX _ _ _)|simp -dsimp (maxSteps:=20000000) (disch:=omega) only [simx,zzC,zzB,tys,ite_self,opnL,callB,callX,readsB,stepOp,nilCmp,ofVal,opBuiltin,opLen,PV.sk,scalBin,scalUn,intBin,opLoad,natOf,opConvert,opField,cellsP,oneP,Value.oneCell',opStore,toIV,scalT,scalA,scalC,boxesA,boxesC,zipB_none,zipB_mx,isZ,opZip,zeroP,opAppendZ,opMakeMap,opLookup,mboxB,opUpdate,↓reduceIte,Nat.reduceSub,Nat.reduceEqDiff,Nat.reduceAdd,Nat.reduceMul,Nat.reduceLT,Nat.reduceLeDiff,Int.reduceToNat,Int.reduceLE,Int.reduceLT,Int.reduceNeg,reduceCtorEq,gos,Int.reduceAdd,Int.reduceSub,Int.reduceMul,Int.reduceEq,cj,cj2,ur,g1,g2,g3,qC,hr,SK.len,List.length_map])
      refine ⟨cj,(fgt_nil),?_,drop_nil _⟩
      rw [hD1]
      exact ⟨rfl,rfl⟩
    · have ej:R=j:=by omega
      subst ej
      clear de di
      generalize dtN P (rw0,cw,cc,uu) R=D at e2 e3 q3 ⊢
      rcases s1 with rfl|rfl
      · subst e2
        repeat (first|((first|refine X_call_fn2 rfl (by simp only [tys]) ?_|refine X_dcall_fn2 rfl (by simp only [tys]) ?_); apply Exists.intro; apply And.intro; (focus (simp -dsimp only [simx,zzC,zzB,tys,ite_self,opnL,callB,callX,readsB,stepOp,nilCmp,ofVal,opBuiltin,opLen,PV.sk,scalBin,scalUn,intBin,opLoad,natOf,opConvert,opField,cellsP,oneP,Value.oneCell',opStore,toIV,scalT,scalA,scalC,boxesA,boxesC,zipB_none,zipB_mx,isZ,opZip,zeroP,opAppendZ,opMakeMap,opLookup,mboxB,opUpdate,↓reduceIte,Nat.reduceSub,Nat.reduceEqDiff,Nat.reduceAdd,Nat.reduceMul,Nat.reduceLT,Nat.reduceLeDiff,Int.reduceToNat,Int.reduceLE,Int.reduceLT,Int.reduceNeg,reduceCtorEq,zzL,if_true,if_false] <;> rfl)); apply Exists.intro; apply And.intro; (focus (first|exact q2)))|refine X_opc rfl ?_|refine X_dopc rfl ?_|refine ⟨(by show drawK _ _=true; kernel_rfl:drawX _ _ _),?_⟩|exact (by show drawK _ _=true; kernel_rfl:drawX _ _ _)|simp -dsimp (maxSteps:=20000000) (disch:=omega) only [simx,zzC,zzB,tys,ite_self,opnL,callB,callX,readsB,stepOp,nilCmp,ofVal,opBuiltin,opLen,PV.sk,scalBin,scalUn,intBin,opLoad,natOf,opConvert,opField,cellsP,oneP,Value.oneCell',opStore,toIV,scalT,scalA,scalC,boxesA,boxesC,zipB_none,zipB_mx,isZ,opZip,zeroP,opAppendZ,opMakeMap,opLookup,mboxB,opUpdate,↓reduceIte,Nat.reduceSub,Nat.reduceEqDiff,Nat.reduceAdd,Nat.reduceMul,Nat.reduceLT,Nat.reduceLeDiff,Int.reduceToNat,Int.reduceLE,Int.reduceLT,Int.reduceNeg,reduceCtorEq,zzR,gos,Int.reduceAdd,Int.reduceSub,Int.reduceMul,Int.reduceEq,SK.len])
      · repeat (first|((first|refine X_call_fn2 rfl (by simp only [tys]) ?_|refine X_dcall_fn2 rfl (by simp only [tys]) ?_); apply Exists.intro; apply And.intro; (focus (simp -dsimp only [simx,zzC,zzB,tys,ite_self,opnL,callB,callX,readsB,stepOp,nilCmp,ofVal,opBuiltin,opLen,PV.sk,scalBin,scalUn,intBin,opLoad,natOf,opConvert,opField,cellsP,oneP,Value.oneCell',opStore,toIV,scalT,scalA,scalC,boxesA,boxesC,zipB_none,zipB_mx,isZ,opZip,zeroP,opAppendZ,opMakeMap,opLookup,mboxB,opUpdate,↓reduceIte,Nat.reduceSub,Nat.reduceEqDiff,Nat.reduceAdd,Nat.reduceMul,Nat.reduceLT,Nat.reduceLeDiff,Int.reduceToNat,Int.reduceLE,Int.reduceLT,Int.reduceNeg,reduceCtorEq,zzL,if_true,if_false] <;> rfl)); apply Exists.intro; apply And.intro; (focus (first|exact q2|exact q3)))|refine X_opc rfl ?_|refine X_dopc rfl ?_|refine ⟨(by show drawK _ _=true; kernel_rfl:drawX _ _ _),?_⟩|exact (by show drawK _ _=true; kernel_rfl:drawX _ _ _)|simp -dsimp (maxSteps:=20000000) (disch:=omega) only [simx,zzC,zzB,tys,ite_self,opnL,callB,callX,readsB,stepOp,nilCmp,ofVal,opBuiltin,opLen,PV.sk,scalBin,scalUn,intBin,opLoad,natOf,opConvert,opField,cellsP,oneP,Value.oneCell',opStore,toIV,scalT,scalA,scalC,boxesA,boxesC,zipB_none,zipB_mx,isZ,opZip,zeroP,opAppendZ,opMakeMap,opLookup,mboxB,opUpdate,↓reduceIte,Nat.reduceSub,Nat.reduceEqDiff,Nat.reduceAdd,Nat.reduceMul,Nat.reduceLT,Nat.reduceLeDiff,Int.reduceToNat,Int.reduceLE,Int.reduceLT,Int.reduceNeg,reduceCtorEq,zzR,gos,Int.reduceAdd,Int.reduceSub,Int.reduceMul,Int.reduceEq,SK.len])
end Go.Proofs.Ytmalpmnmknpphaa.TM
namespace Go.Proofs.Ytmalpmnmknpphaa.TM
open Go Go.RowKit
attribute [local irreducible] K W WOps Effs Xg Xo Xr Xdg Xdo Xdr Xif CallsP CallR
def hdN (c:CupT) (j:Nat):Int:=if j=0 then c.1.length else IntKind.u64.wrap ((c.1 ++ c.2.1).getD (j - 1) 0)
def numL (c:CupT):List Int:=tbl ((c.1 ++ c.2.1).length + 1) (hdN c) ++ c.2.2.1.flatten ++ c.2.2.2.flatten
theorem concatI13_walk {a b:List Int} (ha:a.length ≤ 4096) (hb:b.length ≤ 4096):CallsP Try.prog 97 [.i (.l 2 [.l a.length (a.map ii),.l b.length (b.map ii)])] (li (a ++ b)):=by
  have h:=concatI_walk [a.map ii,b.map ii] (by simp) (by simp; omega)
  simpa [llL,ivN,li,List.map_append] using h
set_option maxHeartbeats 4000000 in
theorem numbers_walk {c:CupT} (h1:c.1.length ≤ 100) (h2:c.2.1.length ≤ 100) (h3:c.2.2.1.length ≤ 100) (h4:c.2.2.2.length ≤ 100) (h5:c.2.2.1.flatten.length ≤ 100000) (h6:c.2.2.2.flatten.length ≤ 100000):CallsP Try.prog 44 [cupQ c] (lu (numL c)):=by
  have q1:=concatI13_walk (a:=c.1) (b:=c.2.1) (by omega) (by omega)
  have q2:=concat13_walk (L:=c.2.2.1) (by omega) (by omega)
  have q3:=concat13_walk (L:=c.2.2.2) (by omega) (by omega)
  have q4:=concat13_walk (L:=[tbl ((c.1 ++ c.2.1).length + 1) (hdN c),c.2.2.1.flatten,c.2.2.2.flatten]) (by simp) (by
    simp only [List.flatten_cons,List.flatten_nil,List.length_append,List.append_nil,tbl_len]
    omega)
  rw [show [tbl ((c.1 ++ c.2.1).length + 1) (hdN c),c.2.2.1.flatten,c.2.2.2.flatten].flatten=numL c by unfold numL; simp] at q4
  have w0:IntKind.u64.wrap (c.1.length:Int)=c.1.length:=uw_of (by omega) (by omega)
  have f0:hdN c 0=c.1.length:=rfl
  have fk:∀ k,hdN c (k + 1)=IntKind.u64.wrap ((c.1 ++ c.2.1).getD k 0):=fun k => rfl
  have nl:(c.1 ++ c.2.1).length ≤ 200:=by rw [List.length_append]; omega
  generalize numL c=Z at q4 ⊢
  obtain ⟨F,hF⟩:∃ F,F=hdN c:=⟨_,rfl⟩
  rw [← hF] at q4 f0 fk
  clear hF h5 h6
  obtain ⟨rws,cls,cc,uu⟩:=c
  simp only at q1 q2 q3 q4 w0 f0 fk nl h1 h2 h3 h4 ⊢
  generalize rws ++ cls=X at q1 q4 fk nl
  generalize cc.flatten=cf at q2 q4
  generalize uu.flatten=uf at q3 q4
  have xj:∀ j,j < X.length → (X.map ii)[j]?=some (ii (X.getD j 0)):=fun j hj => by rw [List.getElem?_map,getD_some rfl hj]; rfl
  have t0:tbl 1 F=[(rws.length:Int)]:=by rw [tbl_succ,f0]; rfl
  refine X_startP (n:=37) (m:=1) (rs:=[.tmp 2]) Try.func44 rfl rfl rfl rfl (by decide) fun base => ?_
  repeat (first|((first|refine X_call_fn2 rfl (by simp only [tys]) ?_|refine X_dcall_fn2 rfl (by simp only [tys]) ?_); apply Exists.intro; apply And.intro; (focus (simp -dsimp only [simx,zzC,zzB,tys,ite_self,opnL,callB,callX,readsB,stepOp,nilCmp,ofVal,opBuiltin,opLen,PV.sk,scalBin,scalUn,intBin,opLoad,natOf,opConvert,opField,cellsP,oneP,Value.oneCell',opStore,toIV,scalT,scalA,scalC,boxesA,boxesC,zipB_none,zipB_mx,isZ,opZip,zeroP,opAppendZ,opMakeMap,opLookup,mboxB,opUpdate,↓reduceIte,Nat.reduceSub,Nat.reduceEqDiff,Nat.reduceAdd,Nat.reduceMul,Nat.reduceLT,Nat.reduceLeDiff,Int.reduceToNat,Int.reduceLE,Int.reduceLT,Int.reduceNeg,reduceCtorEq,zzL,if_true,if_false] <;> rfl)); apply Exists.intro; apply And.intro; (focus (first|exact q1)))|refine X_opc rfl ?_|refine X_dopc rfl ?_|refine ⟨(by show drawK _ _=true; kernel_rfl:drawX _ _ _),?_⟩|exact (by show drawK _ _=true; kernel_rfl:drawX _ _ _)|simp -dsimp (maxSteps:=20000000) (disch:=omega) only [simx,zzC,zzB,tys,ite_self,opnL,callB,callX,readsB,stepOp,nilCmp,ofVal,opBuiltin,opLen,PV.sk,scalBin,scalUn,intBin,opLoad,natOf,opConvert,opField,cellsP,oneP,Value.oneCell',opStore,toIV,scalT,scalA,scalC,boxesA,boxesC,zipB_none,zipB_mx,isZ,opZip,zeroP,opAppendZ,opMakeMap,opLookup,mboxB,opUpdate,↓reduceIte,Nat.reduceSub,Nat.reduceEqDiff,Nat.reduceAdd,Nat.reduceMul,Nat.reduceLT,Nat.reduceLeDiff,Int.reduceToNat,Int.reduceLE,Int.reduceLT,Int.reduceNeg,reduceCtorEq,gos,Int.reduceAdd,Int.reduceSub,Int.reduceMul,Int.reduceEq,w0,SK.len])
  refine X_loopH [1,3,16,17,18] [(2,4)::base,(5,3)::base] (0) (X.length) (fun j => True) (fun j => [(3,.view ((1,4)::base) 0 1 (j + 1) (j + 1)),(18,i64 j)]) (fun j => (Heap.none.put ((0,0)::base) (.var [li rws,li cls,llP cc,llP uu])).put ((1,4)::base) (.row false ((tbl (j + 1) F).map iu))) ?_ ?_ ?_ ?_ ?_ (by decide) ?_
  · exact (fgt_cons (by simp only [Heap.none_at]) (by (simp -dsimp only [zzB,tys,ite_self,opnL,callB,callX,readsB,stepOp,nilCmp,ofVal,opBuiltin,opLen,PV.sk,scalBin,scalUn,intBin,opLoad,natOf,opConvert,opField,cellsP,oneP,Value.oneCell',opStore,toIV,scalT,scalA,scalC,boxesA,boxesC,zipB_none,zipB_mx,isZ,opZip,zeroP,opAppendZ,opMakeMap,opLookup,mboxB,opUpdate,↓reduceIte,Nat.reduceSub,Nat.reduceEqDiff,Nat.reduceAdd,Nat.reduceMul,Nat.reduceLT,Nat.reduceLeDiff,Int.reduceToNat,Int.reduceLE,Int.reduceLT,Int.reduceNeg,reduceCtorEq,notIn_cons,notIn_nil]) <;> simp [refsL,refsP,mem_refs_rowP]) (by repeat (first|exact noVar_none _|refine noVar_row ?_|refine noVar_map ?_|refine noVar_rowH ?_|refine noVar_var ?_ (by simp [refsL,refsP,mem_refs_rowP]))) (fgt_cons (by simp only [Heap.none_at]) (by (simp -dsimp only [zzB,tys,ite_self,opnL,callB,callX,readsB,stepOp,nilCmp,ofVal,opBuiltin,opLen,PV.sk,scalBin,scalUn,intBin,opLoad,natOf,opConvert,opField,cellsP,oneP,Value.oneCell',opStore,toIV,scalT,scalA,scalC,boxesA,boxesC,zipB_none,zipB_mx,isZ,opZip,zeroP,opAppendZ,opMakeMap,opLookup,mboxB,opUpdate,↓reduceIte,Nat.reduceSub,Nat.reduceEqDiff,Nat.reduceAdd,Nat.reduceMul,Nat.reduceLT,Nat.reduceLeDiff,Int.reduceToNat,Int.reduceLE,Int.reduceLT,Int.reduceNeg,reduceCtorEq,notIn_cons,notIn_nil]) <;> simp [refsL,refsP,mem_refs_rowP]) (by repeat (first|exact noVar_none _|refine noVar_row ?_|refine noVar_map ?_|refine noVar_rowH ?_|refine noVar_var ?_ (by simp [refsL,refsP,mem_refs_rowP]))) (fgt_nil)))
  · ((simp -dsimp (disch:=omega) only [simx,zzB,tys,ite_self,opnL,callB,callX,readsB,stepOp,nilCmp,ofVal,opBuiltin,opLen,PV.sk,scalBin,scalUn,intBin,opLoad,natOf,opConvert,opField,cellsP,oneP,Value.oneCell',opStore,toIV,scalT,scalA,scalC,boxesA,boxesC,zipB_none,zipB_mx,isZ,opZip,zeroP,opAppendZ,opMakeMap,opLookup,mboxB,opUpdate,↓reduceIte,Nat.reduceSub,Nat.reduceEqDiff,Nat.reduceAdd,Nat.reduceMul,Nat.reduceLT,Nat.reduceLeDiff,Int.reduceToNat,Int.reduceLE,Int.reduceLT,Int.reduceNeg,reduceCtorEq,gos,Int.reduceAdd,Int.reduceSub,Int.reduceMul,Int.reduceEq]) <;> first|rfl|simp)
  · rw [t0]
    funext c
    simp (maxSteps:=20000000) only [Heap.drop_at,rowH_app,Heap.put_at,Heap.none_at,List.mem_cons,List.not_mem_nil,or_false]
    by_cases e0:c=(0,0)::base
    · subst e0; simp []
    by_cases e1:c=(1,4)::base
    · subst e1; simp []
    by_cases e2:c=(2,4)::base
    · subst e2; simp []
    by_cases e3:c=(5,3)::base
    · subst e3; simp []
    simp [e0,e1,e2,e3]
  · omega
  · trivial
  · intro j hj _
    by_cases cj:j < X.length
    · have g1:=xj j cj
      have f1:=fk j
      have t1:=tbl_succ (j + 1) F
      have l1:=tbl_len (j + 1) F
      clear xj fk q4 t0
      generalize F (j + 1)=s at f1 t1
      generalize X.getD j 0=x at g1 f1
      repeat (first|refine X_opc rfl ?_|refine X_dopc rfl ?_|refine ⟨(by show drawK _ _=true; kernel_rfl:drawX _ _ _),?_⟩|exact (by show drawK _ _=true; kernel_rfl:drawX _ _ _)|simp -dsimp (maxSteps:=20000000) (disch:=omega) only [simx,zzC,zzB,tys,ite_self,opnL,callB,callX,readsB,stepOp,nilCmp,ofVal,opBuiltin,opLen,PV.sk,scalBin,scalUn,intBin,opLoad,natOf,opConvert,opField,cellsP,oneP,Value.oneCell',opStore,toIV,scalT,scalA,scalC,boxesA,boxesC,zipB_none,zipB_mx,isZ,opZip,zeroP,opAppendZ,opMakeMap,opLookup,mboxB,opUpdate,↓reduceIte,Nat.reduceSub,Nat.reduceEqDiff,Nat.reduceAdd,Nat.reduceMul,Nat.reduceLT,Nat.reduceLeDiff,Int.reduceToNat,Int.reduceLE,Int.reduceLT,Int.reduceNeg,reduceCtorEq,gos,Int.reduceAdd,Int.reduceSub,Int.reduceMul,Int.reduceEq,cj,g1,SK.len,List.length_map])
      rw [← f1]
      refine X_append_own (cs:=(tbl (j + 1) F).map iu) (b:=(1,4)::base) (bx:=(5,3)::base) 22 [.int .u64 0] [iu s] (by simp only [tys]) (by simp only [tys]) rfl (by decide) (by simp [Heap.put_at]) (by rw [List.length_map,l1]) (by rw [List.length_map,l1,Nat.mul_one]) (by simp [Heap.put_at]; rfl) rfl (by simp only [tys]; omega) (by rw [mx_len]; omega) ?_
      repeat (first|refine X_opc rfl ?_|refine X_dopc rfl ?_|refine ⟨(by show drawK _ _=true; kernel_rfl:drawX _ _ _),?_⟩|exact (by show drawK _ _=true; kernel_rfl:drawX _ _ _)|simp -dsimp (maxSteps:=20000000) (disch:=omega) only [simx,zzC,zzB,tys,ite_self,opnL,callB,callX,readsB,stepOp,nilCmp,ofVal,opBuiltin,opLen,PV.sk,scalBin,scalUn,intBin,opLoad,natOf,opConvert,opField,cellsP,oneP,Value.oneCell',opStore,toIV,scalT,scalA,scalC,boxesA,boxesC,zipB_none,zipB_mx,isZ,opZip,zeroP,opAppendZ,opMakeMap,opLookup,mboxB,opUpdate,↓reduceIte,Nat.reduceSub,Nat.reduceEqDiff,Nat.reduceAdd,Nat.reduceMul,Nat.reduceLT,Nat.reduceLeDiff,Int.reduceToNat,Int.reduceLE,Int.reduceLT,Int.reduceNeg,reduceCtorEq,gos,Int.reduceAdd,Int.reduceSub,Int.reduceMul,Int.reduceEq,cj])
      refine ⟨cj,(fgt_cons (by simp only [Heap.none_at]) (by (simp -dsimp only [zzB,tys,ite_self,opnL,callB,callX,readsB,stepOp,nilCmp,ofVal,opBuiltin,opLen,PV.sk,scalBin,scalUn,intBin,opLoad,natOf,opConvert,opField,cellsP,oneP,Value.oneCell',opStore,toIV,scalT,scalA,scalC,boxesA,boxesC,zipB_none,zipB_mx,isZ,opZip,zeroP,opAppendZ,opMakeMap,opLookup,mboxB,opUpdate,↓reduceIte,Nat.reduceSub,Nat.reduceEqDiff,Nat.reduceAdd,Nat.reduceMul,Nat.reduceLT,Nat.reduceLeDiff,Int.reduceToNat,Int.reduceLE,Int.reduceLT,Int.reduceNeg,reduceCtorEq,notIn_cons,notIn_nil]) <;> simp [refsL,refsP,mem_refs_rowP]) (by repeat (first|exact noVar_none _|refine noVar_row ?_|refine noVar_map ?_|refine noVar_rowH ?_|refine noVar_var ?_ (by simp [refsL,refsP,mem_refs_rowP]))) (fgt_cons (by simp only [Heap.none_at]) (by (simp -dsimp only [zzB,tys,ite_self,opnL,callB,callX,readsB,stepOp,nilCmp,ofVal,opBuiltin,opLen,PV.sk,scalBin,scalUn,intBin,opLoad,natOf,opConvert,opField,cellsP,oneP,Value.oneCell',opStore,toIV,scalT,scalA,scalC,boxesA,boxesC,zipB_none,zipB_mx,isZ,opZip,zeroP,opAppendZ,opMakeMap,opLookup,mboxB,opUpdate,↓reduceIte,Nat.reduceSub,Nat.reduceEqDiff,Nat.reduceAdd,Nat.reduceMul,Nat.reduceLT,Nat.reduceLeDiff,Int.reduceToNat,Int.reduceLE,Int.reduceLT,Int.reduceNeg,reduceCtorEq,notIn_cons,notIn_nil]) <;> simp [refsL,refsP,mem_refs_rowP]) (by repeat (first|exact noVar_none _|refine noVar_row ?_|refine noVar_map ?_|refine noVar_rowH ?_|refine noVar_var ?_ (by simp [refsL,refsP,mem_refs_rowP]))) (fgt_nil))),?_,?_⟩
      · simp [l1]
      · funext c
        simp (maxSteps:=20000000) only [Heap.drop_at,rowH_app,Heap.put_at,Heap.none_at,List.mem_cons,List.not_mem_nil,or_false]
        by_cases e0:c=(0,0)::base
        · subst e0; simp [t1,List.map_append]
        by_cases e1:c=(1,4)::base
        · subst e1; simp [t1,List.map_append]
        by_cases e2:c=(2,4)::base
        · subst e2; simp [t1,List.map_append]
        by_cases e3:c=(5,3)::base
        · subst e3; simp [t1,List.map_append]
        simp [e0,e1,e2,e3,t1,List.map_append]
    · obtain rfl:X.length=j:=by omega
      have l1:=tbl_len (X.length + 1) F
      generalize tbl (X.length + 1) F=Y at q4 l1 ⊢
      rw [← l1]
      have tk:(Y.map iu).take Y.length=Y.map iu:=List.take_of_length_le (by rw [List.length_map]; exact Nat.le_refl _)
      repeat (first|((first|refine X_call_fn2 rfl (by simp only [tys]) ?_|refine X_dcall_fn2 rfl (by simp only [tys]) ?_); apply Exists.intro; apply And.intro; (focus (simp -dsimp only [simx,zzC,zzB,tys,ite_self,opnL,callB,callX,readsB,stepOp,nilCmp,ofVal,opBuiltin,opLen,PV.sk,scalBin,scalUn,intBin,opLoad,natOf,opConvert,opField,cellsP,oneP,Value.oneCell',opStore,toIV,scalT,scalA,scalC,boxesA,boxesC,zipB_none,zipB_mx,isZ,opZip,zeroP,opAppendZ,opMakeMap,opLookup,mboxB,opUpdate,↓reduceIte,Nat.reduceSub,Nat.reduceEqDiff,Nat.reduceAdd,Nat.reduceMul,Nat.reduceLT,Nat.reduceLeDiff,Int.reduceToNat,Int.reduceLE,Int.reduceLT,Int.reduceNeg,reduceCtorEq,zzL,if_true,if_false,tk,List.length_map] <;> rfl)); apply Exists.intro; apply And.intro; (focus (first|exact q2|exact q3|exact q4)))|refine X_opc rfl ?_|refine X_dopc rfl ?_|refine ⟨(by show drawK _ _=true; kernel_rfl:drawX _ _ _),?_⟩|exact (by show drawK _ _=true; kernel_rfl:drawX _ _ _)|simp -dsimp (maxSteps:=20000000) (disch:=omega) only [simx,zzC,zzB,tys,ite_self,opnL,callB,callX,readsB,stepOp,nilCmp,ofVal,opBuiltin,opLen,PV.sk,scalBin,scalUn,intBin,opLoad,natOf,opConvert,opField,cellsP,oneP,Value.oneCell',opStore,toIV,scalT,scalA,scalC,boxesA,boxesC,zipB_none,zipB_mx,isZ,opZip,zeroP,opAppendZ,opMakeMap,opLookup,mboxB,opUpdate,↓reduceIte,Nat.reduceSub,Nat.reduceEqDiff,Nat.reduceAdd,Nat.reduceMul,Nat.reduceLT,Nat.reduceLeDiff,Int.reduceToNat,Int.reduceLE,Int.reduceLT,Int.reduceNeg,reduceCtorEq,zzR,gos,Int.reduceAdd,Int.reduceSub,Int.reduceMul,Int.reduceEq,tk,SK.len,List.length_map])
set_option maxHeartbeats 4000000 in
theorem of13_walk {l L:List Int} {r R C:Nat} (h1:1 ≤ r) (h2:r ≤ 64) (hR:1 ≤ R ∧ R ≤ 64) (hC:1 ≤ C ∧ C ≤ 64) (hl:l.length=2 * r + R * r + r * C) (hL:L=(r:Int)::l):CallsP Try.prog 43 [lu L,i64 R,i64 C] (.tup [cupQ (ofC l r R C),i64 0]):=by
  have d1:=side13_walk (R:Int)
  rw [show (decide ((1:Int) ≤ R) && decide ((R:Int) ≤ 64))=true by simp; omega] at d1
  have d2:=side13_walk (C:Int)
  rw [show (decide ((1:Int) ≤ C) && decide ((C:Int) ≤ 64))=true by simp; omega] at d2
  have b1:R * r ≤ 64 * 64:=Nat.mul_le_mul hR.2 h2
  have b2:r * C ≤ 64 * 64:=Nat.mul_le_mul h2 hC.2
  have lL:(L.length:Int)=1 + 2 * (r:Int) + ((R * r:Nat):Int) + ((r * C:Nat):Int):=by rw [hL,List.length_cons]; omega
  have lL2:L.length=l.length + 1:=by rw [hL,List.length_cons]
  have gL:(L.map iu)[0]?=some (iu (r:Int)):=by rw [hL]; rfl
  have dL:(L.map iu).drop 1=l.map iu:=by rw [hL]; rfl
  have f0:IntKind.i64.wrap (r:Int)=r:=iw_of (by omega) (by omega)
  have f1:IntKind.i64.wrap ((R:Int) * (r:Int))=((R * r:Nat):Int):=by rw [← Int.natCast_mul]; exact iw_of (by omega) (by omega)
  have f2:IntKind.i64.wrap ((r:Int) * (C:Int))=((r * C:Nat):Int):=by rw [← Int.natCast_mul]; exact iw_of (by omega) (by omega)
  have L1:¬ (L.length:Int) < 1:=by omega
  have L0:0 < L.length:=by omega
  have L3:1 ≤ L.length:=by omega
  have L2:¬ (1 + 2 * (r:Int) + ((R * r:Nat):Int) + ((r * C:Nat):Int)) < 1:=by omega
  have rl:¬ (64:Int) < r:=by omega
  have dd1:(l.drop r).length=l.length - r:=List.length_drop
  have dd2:(l.drop (2 * r)).length=l.length - 2 * r:=List.length_drop
  have dd3:(l.drop (2 * r + R * r)).length=l.length - 2 * r - R * r:=by rw [List.length_drop]; omega
  have dr1:(l.drop r).drop r=l.drop (2 * r):=by rw [List.drop_drop]; congr 1; omega
  have dr2:(l.drop (2 * r)).drop (R * r)=l.drop (2 * r + R * r):=by rw [List.drop_drop]
  obtain ⟨n,hn⟩:∃ n,n=l.length:=⟨_,rfl⟩
  have llen:L.length - 1=n:=by omega
  have tkl:(l.map iu).take n=l.map iu:=List.take_of_length_le (by rw [List.length_map]; omega)
  have p1:=fun base (h:Heap) (b:Name) (hb:h b=some (.var [.i (.l n (l.map iu))])) => places_walk (base:=base) (n:=r) hb hn.symm (by omega) (by omega)
  have p2:=fun base (h:Heap) (b:Name) (hb:h b=some (.var [.i (.l (n - r) ((l.drop r).map iu))])) => places_walk (base:=base) (n:=r) hb (by omega) (by omega) (by omega)
  rw [dr1,show n - r - r=n - 2 * r by omega] at p2
  have p3:=fun base (h:Heap) (b:Name) (hb:h b=some (.var [.i (.l (n - 2 * r) ((l.drop (2 * r)).map iu))])) => rows13_walk (base:=base) (many:=R) (each:=r) hb (by omega) (by omega) (by omega) hR.2
  rw [dr2] at p3
  have p4:=fun base (h:Heap) (b:Name) (hb:h b=some (.var [.i (.l (n - 2 * r - R * r) ((l.drop (2 * r + R * r)).map iu))])) => rows13_walk (base:=base) (many:=r) (each:=C) hb (by omega) (by omega) (by omega) h2
  unfold ofC
  have e1:(wrapL (l.take r)).length=r:=by unfold wrapL; rw [List.length_map,List.length_take]; omega
  have e2:(wrapL ((l.drop r).take r)).length=r:=by unfold wrapL; rw [List.length_map,List.length_take]; omega
  have e3:=cutR_len (l.drop (2 * r)) r R
  have e4:=cutR_len (l.drop (2 * r + R * r)) C r
  generalize wrapL (l.take r)=w1 at *
  generalize wrapL ((l.drop r).take r)=w2 at *
  generalize cutR (l.drop (2 * r)) r R=w3 at *
  generalize cutR (l.drop (2 * r + R * r)) C r=w4 at *
  have t1:(w1.map ii).take r=w1.map ii:=List.take_of_length_le (by rw [List.length_map]; omega)
  have t2:(w2.map ii).take r=w2.map ii:=List.take_of_length_le (by rw [List.length_map]; omega)
  have t3:(w3.map lrow).take R=w3.map lrow:=List.take_of_length_le (by rw [List.length_map]; omega)
  have t4:(w4.map lrow).take r=w4.map lrow:=List.take_of_length_le (by rw [List.length_map]; omega)
  have rp1:=fun s z cs => rowP_pos s z cs (show 0 < r by omega)
  have rh1:=fun h s cs => rowH_pos h s cs (show 0 < r by omega)
  have rp2:=fun s z cs => rowP_pos s z cs (show 0 < R by omega)
  have rh2:=fun h s cs => rowH_pos h s cs (show 0 < R by omega)
  simp only [rp1,rh1] at p1 p2 p4
  simp only [rp2,rh2] at p3
  clear rp1 rh1 rp2 rh2
  refine X_startP (n:=73) (m:=3) (rs:=[.cell 6 55,.tmp 7]) Try.func43 rfl rfl rfl rfl (by decide) fun base => ?_
  repeat (first|((first|refine X_call_fn2 rfl (by simp only [tys]) ?_|refine X_dcall_fn2 rfl (by simp only [tys]) ?_); apply Exists.intro; apply And.intro; (focus (simp -dsimp only [simx,zzC,zzB,tys,ite_self,opnL,callB,callX,readsB,stepOp,nilCmp,ofVal,opBuiltin,opLen,PV.sk,scalBin,scalUn,intBin,opLoad,natOf,opConvert,opField,cellsP,oneP,Value.oneCell',opStore,toIV,scalT,scalA,scalC,boxesA,boxesC,zipB_none,zipB_mx,isZ,opZip,zeroP,opAppendZ,opMakeMap,opLookup,mboxB,opUpdate,↓reduceIte,Nat.reduceSub,Nat.reduceEqDiff,Nat.reduceAdd,Nat.reduceMul,Nat.reduceLT,Nat.reduceLeDiff,Int.reduceToNat,Int.reduceLE,Int.reduceLT,Int.reduceNeg,reduceCtorEq,zzL,if_true,if_false] <;> rfl)); apply Exists.intro; apply And.intro; (focus (first|exact d1|exact d2)))|refine X_opc rfl ?_|refine X_dopc rfl ?_|refine ⟨(by show drawK _ _=true; kernel_rfl:drawX _ _ _),?_⟩|exact (by show drawK _ _=true; kernel_rfl:drawX _ _ _)|simp -dsimp (maxSteps:=20000000) (disch:=omega) only [simx,zzC,zzB,tys,ite_self,opnL,callB,callX,readsB,stepOp,nilCmp,ofVal,opBuiltin,opLen,PV.sk,scalBin,scalUn,intBin,opLoad,natOf,opConvert,opField,cellsP,oneP,Value.oneCell',opStore,toIV,scalT,scalA,scalC,boxesA,boxesC,zipB_none,zipB_mx,isZ,opZip,zeroP,opAppendZ,opMakeMap,opLookup,mboxB,opUpdate,↓reduceIte,Nat.reduceSub,Nat.reduceEqDiff,Nat.reduceAdd,Nat.reduceMul,Nat.reduceLT,Nat.reduceLeDiff,Int.reduceToNat,Int.reduceLE,Int.reduceLT,Int.reduceNeg,reduceCtorEq,gos,Int.reduceAdd,Int.reduceSub,Int.reduceMul,Int.reduceEq,gL,dL,L0,L1,L2,L3,rl,f0,f1,f2,lL,llen,tkl,SK.len,List.length_map])
  refine X_call_sh rfl (by simp only [tys]) rfl (p1 _ _ ((6,3)::base) (by simp [Heap.put_at]) (by simp [Heap.put_at,Heap.none_at]) (by simp [Heap.put_at,Heap.none_at]) (by repeat (first|exact noVar_none _|refine noVar_row ?_|refine noVar_var ?_ (by simp [refsL,refsP]))) (by simp) (by simp)) ?_
  repeat (first|refine X_opc rfl ?_|refine X_dopc rfl ?_|refine ⟨(by show drawK _ _=true; kernel_rfl:drawX _ _ _),?_⟩|exact (by show drawK _ _=true; kernel_rfl:drawX _ _ _)|simp -dsimp (maxSteps:=20000000) (disch:=omega) only [simx,zzC,zzB,tys,ite_self,opnL,callB,callX,readsB,stepOp,nilCmp,ofVal,opBuiltin,opLen,PV.sk,scalBin,scalUn,intBin,opLoad,natOf,opConvert,opField,cellsP,oneP,Value.oneCell',opStore,toIV,scalT,scalA,scalC,boxesA,boxesC,zipB_none,zipB_mx,isZ,opZip,zeroP,opAppendZ,opMakeMap,opLookup,mboxB,opUpdate,↓reduceIte,Nat.reduceSub,Nat.reduceEqDiff,Nat.reduceAdd,Nat.reduceMul,Nat.reduceLT,Nat.reduceLeDiff,Int.reduceToNat,Int.reduceLE,Int.reduceLT,Int.reduceNeg,reduceCtorEq,gos,Int.reduceAdd,Int.reduceSub,Int.reduceMul,Int.reduceEq])
  refine X_call_sh rfl (by simp only [tys]) rfl (p2 _ _ ((6,3)::base) (by simp [Heap.put_at]) (by simp [Heap.put_at,Heap.none_at]) (by simp [Heap.put_at,Heap.none_at]) (by repeat (first|exact noVar_none _|refine noVar_row ?_|refine noVar_var ?_ (by simp [refsL,refsP]))) (by simp) (by simp)) ?_
  repeat (first|refine X_opc rfl ?_|refine X_dopc rfl ?_|refine ⟨(by show drawK _ _=true; kernel_rfl:drawX _ _ _),?_⟩|exact (by show drawK _ _=true; kernel_rfl:drawX _ _ _)|simp -dsimp (maxSteps:=20000000) (disch:=omega) only [simx,zzC,zzB,tys,ite_self,opnL,callB,callX,readsB,stepOp,nilCmp,ofVal,opBuiltin,opLen,PV.sk,scalBin,scalUn,intBin,opLoad,natOf,opConvert,opField,cellsP,oneP,Value.oneCell',opStore,toIV,scalT,scalA,scalC,boxesA,boxesC,zipB_none,zipB_mx,isZ,opZip,zeroP,opAppendZ,opMakeMap,opLookup,mboxB,opUpdate,↓reduceIte,Nat.reduceSub,Nat.reduceEqDiff,Nat.reduceAdd,Nat.reduceMul,Nat.reduceLT,Nat.reduceLeDiff,Int.reduceToNat,Int.reduceLE,Int.reduceLT,Int.reduceNeg,reduceCtorEq,gos,Int.reduceAdd,Int.reduceSub,Int.reduceMul,Int.reduceEq])
  refine X_call_sh rfl (by simp only [tys]) rfl (p3 _ _ ((6,3)::base) (by simp [Heap.put_at]) (by simp [Heap.put_at,Heap.none_at]) (by simp [Heap.put_at,Heap.none_at]) (by repeat (first|exact noVar_none _|refine noVar_row ?_|refine noVar_var ?_ (by simp [refsL,refsP]))) (by simp) (by simp)) ?_
  repeat (first|refine X_opc rfl ?_|refine X_dopc rfl ?_|refine ⟨(by show drawK _ _=true; kernel_rfl:drawX _ _ _),?_⟩|exact (by show drawK _ _=true; kernel_rfl:drawX _ _ _)|simp -dsimp (maxSteps:=20000000) (disch:=omega) only [simx,zzC,zzB,tys,ite_self,opnL,callB,callX,readsB,stepOp,nilCmp,ofVal,opBuiltin,opLen,PV.sk,scalBin,scalUn,intBin,opLoad,natOf,opConvert,opField,cellsP,oneP,Value.oneCell',opStore,toIV,scalT,scalA,scalC,boxesA,boxesC,zipB_none,zipB_mx,isZ,opZip,zeroP,opAppendZ,opMakeMap,opLookup,mboxB,opUpdate,↓reduceIte,Nat.reduceSub,Nat.reduceEqDiff,Nat.reduceAdd,Nat.reduceMul,Nat.reduceLT,Nat.reduceLeDiff,Int.reduceToNat,Int.reduceLE,Int.reduceLT,Int.reduceNeg,reduceCtorEq,gos,Int.reduceAdd,Int.reduceSub,Int.reduceMul,Int.reduceEq])
  refine X_call_sh rfl (by simp only [tys]) rfl (p4 _ _ ((6,3)::base) (by simp [Heap.put_at]) (by simp [Heap.put_at,Heap.none_at]) (by simp [Heap.put_at,Heap.none_at]) (by repeat (first|exact noVar_none _|refine noVar_row ?_|refine noVar_var ?_ (by simp [refsL,refsP]))) (by simp) (by simp)) ?_
  repeat (first|refine X_opc rfl ?_|refine X_dopc rfl ?_|refine ⟨(by show drawK _ _=true; kernel_rfl:drawX _ _ _),?_⟩|exact (by show drawK _ _=true; kernel_rfl:drawX _ _ _)|simp -dsimp (maxSteps:=20000000) (disch:=omega) only [simx,zzC,zzB,tys,ite_self,opnL,callB,callX,readsB,stepOp,nilCmp,ofVal,opBuiltin,opLen,PV.sk,scalBin,scalUn,intBin,opLoad,natOf,opConvert,opField,cellsP,oneP,Value.oneCell',opStore,toIV,scalT,scalA,scalC,boxesA,boxesC,zipB_none,zipB_mx,isZ,opZip,zeroP,opAppendZ,opMakeMap,opLookup,mboxB,opUpdate,↓reduceIte,Nat.reduceSub,Nat.reduceEqDiff,Nat.reduceAdd,Nat.reduceMul,Nat.reduceLT,Nat.reduceLeDiff,Int.reduceToNat,Int.reduceLE,Int.reduceLT,Int.reduceNeg,reduceCtorEq,zzR,gos,Int.reduceAdd,Int.reduceSub,Int.reduceMul,Int.reduceEq,t1,t2,t3,t4,e1,e2,e3,e4,List.length_map])
  show _=some (PV.tup [.agg [li w1,li w2,llP w3,llP w4],i64 0])
  rw [li,li,llP,llP,e1,e2,e3,e4]
set_option maxHeartbeats 4000000 in
set_option maxRecDepth 100000 in
theorem awake13_walk:CallsP Try.prog 37 [] (bl true):=by
  have p7:Prm 7:=prm7
  have M:Mt ((7:Nat):Int) (1:Nat) (2:Nat) [0,2]:=⟨⟨by decide,by decide⟩,by decide,by decide,by decide,by decide,rfl,by decide⟩
  have hi:∀ a ∈ [0,2],In ((7:Nat):Int) a:=by show ∀ x ∈ ([0,2]:List Int),0 ≤ x ∧ x < ((7:Nat):Int); decide
  have M5:Mt ((7:Nat):Int) (1:Nat) (1:Nat) [5]:=⟨⟨by decide,by decide⟩,by decide,by decide,by decide,by decide,rfl,by decide⟩
  have hi5:∀ a ∈ [5],In ((7:Nat):Int) a:=by show ∀ x ∈ ([5]:List Int),0 ≤ x ∧ x < ((7:Nat):Int); decide
  have t:tkCup ((7:Nat):Int) 2 1 [0,2]=([0],[1],[[1]],[[0,2]]):=by decide +kernel
  have t5:tkCup ((7:Nat):Int) 1 1 [5]=([0],[0],[[1]],[[5]]):=by decide +kernel
  have W:=tkCup_W p7 M hi
  have H:=tkCup_Cp p7 M hi
  have W5:=tkCup_W p7 M5 hi5
  have H5:=tkCup_Cp p7 M5 hi5
  rw [t] at W H
  rw [t5] at W5 H5
  obtain ⟨b,d1,hb⟩:=has13_walk (p:=((7:Nat):Int)) (R:=(1:Nat)) (C:=(2:Nat)) (c:=([0],[1],[[1]],[[0,2]])) (by decide) (by decide) (by decide) (by decide)
  obtain rfl:b=true:=hb.2 (cup_has p7 M.hp (by decide) (by decide) W H)
  obtain ⟨b5,d2,hb5⟩:=has13_walk (p:=((7:Nat):Int)) (R:=(1:Nat)) (C:=(1:Nat)) (c:=([0],[0],[[1]],[[5]])) (by decide) (by decide) (by decide) (by decide)
  obtain rfl:b5=true:=hb5.2 (cup_has p7 M5.hp (by decide) (by decide) W5 H5)
  have d3:=looks13_of M hi W d1 (x:=[3,4]) (by show ∀ x ∈ ([3,4]:List Int),0 ≤ x ∧ x < ((7:Nat):Int); decide) rfl
  rw [show decide (timesM ((7:Nat):Int) 1 2 [0,2] [3,4]=ctM ((7:Nat):Int) ([0],[1],[[1]],[[0,2]]) [3,4])=true by decide +kernel] at d3
  have H52:CpC 7 1 1 (mkA ([0],[0],[[1]],[[5]])) ([0],[0],[[1]],[[5]]):=Cp.cong H5 fun i j hi hj => H5.made i hi j hj
  have d4:=det13_of p7 M5.hp (by decide) (by decide) W5 H52 d2
  rw [show Lp 1 (mkA ([0],[0],[[1]],[[5]])) % ((7:Nat):Int)=5 by decide +kernel] at d4
  have d5:=numbers_walk (c:=([0],[1],[[1]],[[0,2]])) (by decide) (by decide) (by decide) (by decide) (by decide) (by decide)
  rw [show numL ([0],[1],[[1]],[[0,2]])=[1,0,1,1,0,2] by decide +kernel] at d5
  have d6:=of13_walk (l:=[0,1,1,0,2]) (L:=[1,0,1,1,0,2]) (r:=1) (R:=1) (C:=2) (by decide) (by decide) (by decide) (by decide) (by decide) rfl
  rw [show ofC [0,1,1,0,2] 1 1 2=([0],[1],[[1]],[[0,2]]) by decide +kernel] at d6
  have d7:=same1_walk [1,0,1,1,0,2] [1,0,1,1,0,2] (by decide)
  rw [decide_eq_true rfl] at d7
  have d8:=same13_walk ([0],[1],[[1]],[[0,2]]) ([0],[1],[[1]],[[0,2]]) (by decide) (by decide) (by decide) (by decide) (by decide) (by decide)
  rw [decide_eq_true rfl] at d8
  have d9:CallsP Try.prog 81 [cupQ ([0],[1],[[1]],[[0,2]]),i64 1,i64 2] (i64 5):=by
    have s1:=side13_walk 1
    rw [show (decide ((1:Int) ≤ 1) && decide ((1:Int) ≤ 64))=true by decide] at s1
    have s2:=side13_walk 2
    rw [show (decide ((1:Int) ≤ 2) && decide ((2:Int) ≤ 64))=true by decide] at s2
    have s3:=sized_walk (l:=[[0,2]]) 1 2 (by decide)
    rw [(sizedB_iff _ _ _).2 ⟨by decide,by decide⟩] at s3
    have s4:=sized_walk (l:=[[1]]) 1 1 (by decide)
    rw [(sizedB_iff _ _ _).2 ⟨by decide,by decide⟩] at s4
    refine X_startP (n:=46) (m:=3) (rs:=[.tmp 6]) Try.func81 rfl rfl rfl rfl (by decide) fun base => ?_
    repeat (first|((first|refine X_call_fn2 rfl (by simp only [tys]) ?_|refine X_dcall_fn2 rfl (by simp only [tys]) ?_); apply Exists.intro; apply And.intro; (focus (simp -dsimp only [simx,zzC,zzB,tys,ite_self,opnL,callB,callX,readsB,stepOp,nilCmp,ofVal,opBuiltin,opLen,PV.sk,scalBin,scalUn,intBin,opLoad,natOf,opConvert,opField,cellsP,oneP,Value.oneCell',opStore,toIV,scalT,scalA,scalC,boxesA,boxesC,zipB_none,zipB_mx,isZ,opZip,zeroP,opAppendZ,opMakeMap,opLookup,mboxB,opUpdate,↓reduceIte,Nat.reduceSub,Nat.reduceEqDiff,Nat.reduceAdd,Nat.reduceMul,Nat.reduceLT,Nat.reduceLeDiff,Int.reduceToNat,Int.reduceLE,Int.reduceLT,Int.reduceNeg,reduceCtorEq,zzL,if_true,if_false] <;> rfl)); apply Exists.intro; apply And.intro; (focus (first|exact s1|exact s2|exact s3|exact s4)))|refine X_opc rfl ?_|refine X_dopc rfl ?_|refine ⟨(by show drawK _ _=true; kernel_rfl:drawX _ _ _),?_⟩|exact (by show drawK _ _=true; kernel_rfl:drawX _ _ _)|simp -dsimp (maxSteps:=20000000) (disch:=omega) only [simx,zzC,zzB,tys,ite_self,opnL,callB,callX,readsB,stepOp,nilCmp,ofVal,opBuiltin,opLen,PV.sk,scalBin,scalUn,intBin,opLoad,natOf,opConvert,opField,cellsP,oneP,Value.oneCell',opStore,toIV,scalT,scalA,scalC,boxesA,boxesC,zipB_none,zipB_mx,isZ,opZip,zeroP,opAppendZ,opMakeMap,opLookup,mboxB,opUpdate,↓reduceIte,Nat.reduceSub,Nat.reduceEqDiff,Nat.reduceAdd,Nat.reduceMul,Nat.reduceLT,Nat.reduceLeDiff,Int.reduceToNat,Int.reduceLE,Int.reduceLT,Int.reduceNeg,reduceCtorEq,zzR,gos,Int.reduceAdd,Int.reduceSub,Int.reduceMul,Int.reduceEq,SK.len])
    rfl
  clear W H W5 H5 H52 M hi M5 hi5 t t5 hb hb5 p7
  refine X_startP (n:=80) (m:=0) (rs:=[.tmp 0]) Try.func37 rfl rfl rfl rfl (by decide) fun base => ?_
  repeat (first|((first|refine X_call_fn2 rfl (by simp only [tys]) ?_|refine X_dcall_fn2 rfl (by simp only [tys]) ?_); apply Exists.intro; apply And.intro; (focus (simp -dsimp only [simx,zzC,zzB,tys,ite_self,opnL,callB,callX,readsB,stepOp,nilCmp,ofVal,opBuiltin,opLen,PV.sk,scalBin,scalUn,intBin,opLoad,natOf,opConvert,opField,cellsP,oneP,Value.oneCell',opStore,toIV,scalT,scalA,scalC,boxesA,boxesC,zipB_none,zipB_mx,isZ,opZip,zeroP,opAppendZ,opMakeMap,opLookup,mboxB,opUpdate,↓reduceIte,Nat.reduceSub,Nat.reduceEqDiff,Nat.reduceAdd,Nat.reduceMul,Nat.reduceLT,Nat.reduceLeDiff,Int.reduceToNat,Int.reduceLE,Int.reduceLT,Int.reduceNeg,reduceCtorEq,zzL,if_true,if_false] <;> rfl)); apply Exists.intro; apply And.intro; (focus (first|exact d1|exact d2|exact d3|exact d4|exact d5|exact d6|exact d7|exact d8|exact d9)))|refine X_opc rfl ?_|refine X_dopc rfl ?_|refine ⟨(by show drawK _ _=true; kernel_rfl:drawX _ _ _),?_⟩|exact (by show drawK _ _=true; kernel_rfl:drawX _ _ _)|simp -dsimp (maxSteps:=20000000) (disch:=omega) only [simx,zzC,zzB,tys,ite_self,opnL,callB,callX,readsB,stepOp,nilCmp,ofVal,opBuiltin,opLen,PV.sk,scalBin,scalUn,intBin,opLoad,natOf,opConvert,opField,cellsP,oneP,Value.oneCell',opStore,toIV,scalT,scalA,scalC,boxesA,boxesC,zipB_none,zipB_mx,isZ,opZip,zeroP,opAppendZ,opMakeMap,opLookup,mboxB,opUpdate,↓reduceIte,Nat.reduceSub,Nat.reduceEqDiff,Nat.reduceAdd,Nat.reduceMul,Nat.reduceLT,Nat.reduceLeDiff,Int.reduceToNat,Int.reduceLE,Int.reduceLT,Int.reduceNeg,reduceCtorEq,zzR,gos,Int.reduceAdd,Int.reduceSub,Int.reduceMul,Int.reduceEq,SK.len])
end Go.Proofs.Ytmalpmnmknpphaa.TM
namespace Go.Proofs.Ytmalpmnmknpphaa.TM
open Go Go.RowKit
attribute [local irreducible] K W WOps Effs Xg Xo Xr Xdg Xdo Xdr Xif CallsP CallR
theorem mkP_sum13 {p:Int} (X Y:Nat → Int):∀ k,mkP p X Y k % p=sumN k (fun m => X m * Y m) % p
  | 0 => rfl
  | k + 1 => by rw [mkP,em_refl,sumN]; exact em_add (mkP_sum13 X Y k) em_refl
theorem makeM_mt {P R C:Nat} {c:CupT} (hp:Md P) (r1:1 ≤ R) (r2:R ≤ 64) (c1:1 ≤ C) (c2:C ≤ 64):Mt P R C (makeM P c.2.2.1 c.2.2.2 R c.1.length C) ∧ (∀ a ∈ makeM P c.2.2.1 c.2.2.2 R c.1.length C,In P a) ∧ ∀ i,i < R → ∀ j,j < C → cl C (makeM P c.2.2.1 c.2.2.2 R c.1.length C) i j % P=mkA c i j % P:=by
  have ain:∀ a ∈ makeM P c.2.2.1 c.2.2.2 R c.1.length C,In P a:=fun a ha => by
    obtain ⟨q,_,rfl⟩:=tbl_mem ha
    exact mkP_in hp _ _ _
  refine ⟨⟨hp,r1,r2,c1,c2,tbl_len ..,fun a ha => (ain a ha).2⟩,ain,fun i hi j hj => ?_⟩
  unfold makeM
  rw [cl_tbl _ hi hj,dc_div hj,dc_mod hj]
  unfold mkG
  rw [mkP_sum13]; rfl
end Go.Proofs.Ytmalpmnmknpphaa.TM
namespace Go.Proofs.Ytmalpmnmknpphaa.TM
open Go Go.RowKit
theorem zeroV_get0 {n i:Nat} (h:i < n):(zeroV n).getD i 0=0:=tbl_getD _ h
def vecL (P n C:Nat):List Int:=tbl C (vec P n)
theorem vecL_len (P n C:Nat):(vecL P n C).length=C:=tbl_len ..
theorem vecL_get {P n C i:Nat} (h:i < C):(vecL P n C).getD i 0=vec P n i:=tbl_getD _ h
theorem vecL_in {P:Nat} (h:0 < P) (n C:Nat):∀ a ∈ vecL P n C,In P a:=fun a ha => by
  obtain ⟨q,_,rfl⟩:=tbl_mem ha
  exact vec_in h n q
theorem cnt_le (f:Nat → Bool):∀ n,cntN n f ≤ n
  | 0 => Nat.le_refl 0
  | n + 1 => by rw [cntN]; have:=cnt_le f n; split <;> omega
theorem rk_of {P R C:Nat} {l:List Int} (hP:Prm P) (M:Mt P R C l) (hin:∀ a ∈ l,In P a):Rk P R C (tkCup P C R l).1.length (cl C l):=⟨_,_,_,_,tkCup_Cp hP M hin⟩
section
variable {P R C:Nat} {l b:List Int}
theorem ker_vec (hl:l.length=R * C) {n:Nat}:kB P R C (cl C l) n=true ↔ timesM P R C l (vecL P n C)=zeroV R:=by
  have e:∀ i,i < R → (timesM P R C l (vecL P n C)).getD i 0=apX C (cl C l) (vec P n) i % P:=fun i hi => by
    rw [timesM_ap hl (vecL_len ..) hi]
    congr 1
    exact sumN_congr fun j hj => by show cl C l i j * (vecL P n C).getD j 0=_; rw [vecL_get hj]
  rw [kB_iff]
  constructor
  · intro h
    refine list_ext0 (timesM_len ..) (zeroV_len R) fun i hi => ?_
    rw [e i hi,h i hi,zeroV_get0 hi]
  · intro h i hi
    rw [← e i hi,h,zeroV_get0 hi]
theorem cnt_ker (hP:Prm P) (M:Mt P R C l) (hin:∀ a ∈ l,In P a):cntN (P ^ C) (kB P R C (cl C l))=P ^ (C - (tkCup P C R l).1.length):=by
  have H:=rk_of hP M hin
  have h1:=H.kc hP
  have h2:=H.le_cols hP
  have p0:0 < P:=by have:=hP.1; omega
  refine Nat.eq_of_mul_eq_mul_left (Nat.pow_pos (n:=(tkCup P C R l).1.length) p0) ?_
  rw [h1,← Nat.pow_add]
  congr 1; omega
theorem rank_zero (hP:Prm P) (M:Mt P R C l) (hin:∀ a ∈ l,In P a) (h:(tkCup P C R l).1.length=0):l=zeroV (R * C):=by
  have H:=tkCup_Cp hP M hin
  refine list_ext0 M.len (zeroV_len _) fun q hq => ?_
  rw [zeroV_get0 hq]
  have hC:0 < C:=M.c1
  have h1:q / C < R:=Nat.div_lt_of_lt_mul (by rw [Nat.mul_comm]; exact hq)
  have h2:=H.made (q / C) h1 (q % C) (Nat.mod_lt _ hC)
  rw [h] at h2
  have e:cl C l (q / C) (q % C)=l.getD q 0:=by
    unfold cl
    rw [show q / C * C + q % C=q by rw [Nat.mul_comm]; exact Nat.div_add_mod q C]
  rw [e,in_mod (getD_of hin (by rw [M.len]; exact hq))] at h2
  rw [h2]; simp [sumN]
end
def wrongM (P:Int) (m c:List Int):List Int:=tbl m.length (fun q => (m.getD q 0 - c.getD q 0) % P)
theorem wrongM_len (P:Int) (m c:List Int):(wrongM P m c).length=m.length:=tbl_len ..
theorem wrongM_in {P:Int} (hp:Md P) (m c:List Int):∀ a ∈ wrongM P m c,In P a:=fun a ha => by
  obtain ⟨q,_,rfl⟩:=tbl_mem ha
  exact in_emod hp _
section
variable {P R S C:Nat} {a b c:List Int}
end
end Go.Proofs.Ytmalpmnmknpphaa.TM
namespace Go.Proofs.Ytmalpmnmknpphaa.TM
open Go
def lowerJB (h:Heap) (b:Name) (p:PV):Option IV:=if (boxesC p).contains b then none else lowerJ h p
def lowerCA (h:Heap) (b:Name):PV → Option PV
  | .view c off z n top => if c=b then some (.view c off z n top) else match h c with
    | some (.var cs) => if cs.length=top ∧ off + n * z ≤ cs.length then (mapO (lowerJB h b) ((cs.drop off).take (n * z))).map fun xs => .i (.l n xs) else none
    | _ => lowerC h (.view c off z n top)
  | p => if (boxesC p).contains b then none else lowerC h p
def lowerAA (h:Heap) (b:Name):PV → Option PV
  | .agg cs => (mapO (lowerCA h b) cs).map .agg
  | p => lowerCA h b p
def lowerTA (h:Heap) (b:Name):PV → Option PV
  | .tup cs => (mapO (lowerAA h b) cs).map .tup
  | p => lowerAA h b p
section
variable {P:Program} {β:Pl} {h1:Heap} {w:World} {b:Name} {cs0:List IV}
theorem not_box {p:PV} (h:¬ (boxesC p).contains b=true):∀ c ∈ boxesC p,c ≠ b:=fun c hc e => h (by subst e; simpa using hc)
theorem lowerCA_rep (H1 : HInv β h1 w) {h' : Heap} (hb : h1 b = some (.row false cs0)) (hb' : h' b = some (.row false cs0)) {p q : PV} {v : Value} (hp : Rep β h1 w p v) (hl : lowerCA h1 b p = some q)
    (hR1:∀ a v,Rd β h1 w a v → Rd β h' w a v) (hR2:∀ c,c ≠ b → ∀ x,h1 c=some x → ∀ j v,w.cell? ⟨β c,j,none⟩=some v → Rd β h' w ⟨β c,j,none⟩ v):Rep β h' w q v:=by
  have low:∀ p q v,(∀ c ∈ boxesC p,c ≠ b) → Rep β h1 w p v → lowerC h1 p=some q → Rep β h' w q v:=fun p q v hne hp hq =>
    lowerC_rep H1 hp hq (fun c _ fz cs hb => ⟨fz,hb⟩) hR1 fun c hc x hx j v hcell => hR2 c (hne c hc) x hx j v hcell
  unfold lowerCA at hl
  split at hl
  · rename_i c off z n top
    split at hl
    · rename_i hcb
      subst hcb
      cases hl
      cases hp with
      | view b' off z n top x a cap hbx hrow ht hn ha hv =>
        rw [hb] at hbx; cases hbx
        exact .view c off z n top _ a cap hb' rfl ht hn ha hv
    · rename_i hcb
      split at hl
      · rename_i cs hbv
        split at hl
        case isFalse => cases hl
        rename_i hc
        cases hm:mapO (lowerJB h1 b) ((cs.drop off).take (n * z)) with
        | none => simp [hm] at hl
        | some xs =>
          simp [hm] at hl
          subst hl
          obtain ⟨hlen,hg⟩:=mapO_get hm
          cases hp with
          | view _ _ _ _ _ x a cap hbx hrow ht hn ha hva =>
            rw [hbv] at hbx; cases hbx
            rcases hva hc.1 with ⟨h0,hc0,_⟩|⟨h0,hs0,_⟩
            · subst h0
              have:xs=[]:=List.eq_nil_of_length_eq_zero (by rw [hlen]; simp)
              subst this
              cases a with
              | none => rw [hc0]; exact .i _ _ .nil
              | some a => exact .i _ _ (.l _ _ a cap (fun _ => undef) hn (fun j hj => by simp at hj) (fun j hj => by simp at hj) (fun j y hj => by simp at hj))
            · subst h0
              obtain ⟨c',e,hcc,hr,hcell⟩:=box_cell H1 hbv
              have hlen2:((cs.drop off).take (n * z)).length=n * z:=by simp; omega
              refine .i _ _ (.l _ _ _ cap (fun j => c'.getD (off + j) undef) hn (fun j hj => ?_) (fun j hj => ?_) (fun j y hj => ?_))
              · rw [add_lit]
                exact hR2 c hcb _ hbv _ _ (hcell _ (by have:=hr.1; omega))
              · have hlt:off + j < cs.length:=by omega
                exact (hr.2 (off + j) cs[off + j] (List.getElem?_eq_getElem hlt)).1
              · have hjl:j < xs.length:=(List.getElem?_eq_some_iff.1 hj).1
                have hj2:j < ((cs.drop off).take (n * z)).length:=by omega
                obtain ⟨x,hx,hxy⟩:=hg j _ (List.getElem?_eq_getElem hj2)
                rw [hxy] at hj; cases hj
                unfold lowerJB at hx
                split at hx
                case isTrue => cases hx
                rename_i hnb
                unfold lowerJ at hx
                split at hx
                · rename_i x' hlc
                  cases hx
                  have h7:=(hr.2 _ _ (take_drop_get (List.getElem?_eq_getElem hj2)).2).2
                  have h8:Rep β h' w (.i _) (c'.getD (off + j) undef):=low _ _ _ (not_box hnb) h7 hlc
                  generalize c'.getD (off + j) undef=u at h8
                  cases h8 with|i _ _ h9 => exact h9
                · cases hx
      · exact low _ _ _ (fun d hd => by simp [boxesC] at hd; subst hd; exact hcb) hp hl
  · split at hl
    case isTrue => cases hl
    rename_i hnb
    exact low _ _ _ (not_box hnb) hp hl
theorem lowerAA_rep (H1 : HInv β h1 w) {h' : Heap} (hb : h1 b = some (.row false cs0)) (hb' : h' b = some (.row false cs0)) {p q : PV} {v : Value} (hp : Rep β h1 w p v) (hl : lowerAA h1 b p = some q)
    (hR1:∀ a v,Rd β h1 w a v → Rd β h' w a v) (hR2:∀ c,c ≠ b → ∀ x,h1 c=some x → ∀ j v,w.cell? ⟨β c,j,none⟩=some v → Rd β h' w ⟨β c,j,none⟩ v):Rep β h' w q v:=by
  unfold lowerAA at hl
  split at hl
  · rename_i cs
    cases hm:mapO (lowerCA h1 b) cs with
    | none => simp [hm] at hl
    | some qs =>
      simp [hm] at hl
      subst hl
      obtain ⟨hlen,hg⟩:=mapO_get hm
      cases hp with
      | agg cs arr hla hs =>
        refine .agg _ _ (by omega) fun j x hj => ?_
        have hlt:j < cs.length:=by rw [← hlen]; exact (List.getElem?_eq_some_iff.1 hj).1
        obtain ⟨y,hy,hqy⟩:=hg j _ (List.getElem?_eq_getElem hlt)
        rw [hqy] at hj; cases hj
        exact lowerCA_rep H1 hb hb' (hs j _ (List.getElem?_eq_getElem hlt)) hy hR1 hR2
  · exact lowerCA_rep H1 hb hb' hp hl hR1 hR2
theorem lowerTA_rep (H1 : HInv β h1 w) {h' : Heap} (hb : h1 b = some (.row false cs0)) (hb' : h' b = some (.row false cs0)) {p q : PV} {v : Value} (hp : Rep β h1 w p v) (hl : lowerTA h1 b p = some q)
    (hR1:∀ a v,Rd β h1 w a v → Rd β h' w a v) (hR2:∀ c,c ≠ b → ∀ x,h1 c=some x → ∀ j v,w.cell? ⟨β c,j,none⟩=some v → Rd β h' w ⟨β c,j,none⟩ v):Rep β h' w q v:=by
  unfold lowerTA at hl
  split at hl
  · rename_i cs
    cases hm:mapO (lowerAA h1 b) cs with
    | none => simp [hm] at hl
    | some qs =>
      simp [hm] at hl
      subst hl
      obtain ⟨hlen,hg⟩:=mapO_get hm
      cases hp with
      | tup cs arr hla hs =>
        refine .tup _ _ (by omega) fun j x hj => ?_
        have hlt:j < cs.length:=by rw [← hlen]; exact (List.getElem?_eq_some_iff.1 hj).1
        obtain ⟨y,hy,hqy⟩:=hg j _ (List.getElem?_eq_getElem hlt)
        rw [hqy] at hj; cases hj
        exact lowerAA_rep H1 hb hb' (hs j _ (List.getElem?_eq_getElem hlt)) hy hR1 hR2
  · exact lowerAA_rep H1 hb hb' hp hl hR1 hR2
end
theorem CallsA.of_low {P : Program} (hm : P.follows .mixedOrders = true) {g : FuncId} {args : List PV} {vf : Name → PV} {cs : List IV}
    (h:∀ base,∃ b u hu u',CallR P base g args Heap.none u hu ∧ hu b=some (.row false cs) ∧ lowerTA hu b u=some u' ∧ ∀ s,adoptT (Heap.none.put b (.row false cs)) b s u'=some (vf s)):CallsA P g args vf cs:=by
  intro base
  obtain ⟨b,u,hu,u',h1,hb,h2,h3⟩:=h base
  have hb':(Heap.none.put b (.row false cs)) b=some (.row false cs):=by simp [Heap.put_at]
  have only:∀ c x,(Heap.none.put b (.row false cs)) c=some x → c=b ∧ x=.row false cs:=fun c x hx => by
    by_cases e:c=b
    · subst e; rw [hb'] at hx; cases hx; exact ⟨rfl,rfl⟩
    · rw [Heap.put_at,if_neg e] at hx; cases hx
  refine ⟨b,u',_,CallR.of_sound ?_,hb',h3⟩
  intro β w rargs H Hr
  refine (CallR_sound hm _ _ _ _ _ _ h1 β w rargs H Hr).mono ?_
  rintro e w' ⟨rv,β1,rfl,H1,hrep,E1⟩
  have hRd:∀ a v,Rd β1 hu w' a v → Rd β1 (Heap.none.put b (.row false cs)) w' a v:=fun a v hrd => ⟨⟨hrd.1.1,fun c x hc ho => by
    obtain ⟨rfl,rfl⟩:=only c x hc
    exact hrd.1.2 c _ hb rfl⟩,hrd.2⟩
  refine ⟨rv,β1,rfl,⟨fun c c' x x' hc hc' _ => by rw [(only c x hc).1,(only c' x' hc').1],fun c x hc => by
    obtain ⟨rfl,rfl⟩:=only c x hc
    exact H1.nf c _ hb,H1.flt,fun c x hc => ?_⟩,?_,⟨E1.os,E1.tape,E1.output,E1.size,E1.F,fun blk hl hs => ⟨fun c x hc ho => ?_,(E1.stab blk hl hs).2⟩,fun c x hc => (by cases hc),E1.sz⟩⟩
  · obtain ⟨rfl,rfl⟩:=only c x hc
    obtain ⟨c2,e2,ho,hc1,hc2⟩:=H1.cells hb rfl
    exact ⟨_,ho,c2,e2,rfl,hc1,fun j y hj => ⟨(hc2 j y hj).1,(hc2 j y hj).2.mono hRd⟩⟩
  · refine lowerTA_rep H1 hb hb' hrep h2 hRd fun c hcb x hx j v hcell => ⟨⟨H1.nf c x hx,fun d y hd ho => ?_⟩,hcell⟩
    obtain ⟨rfl,rfl⟩:=only d y hd
    exact fun he => hcb (H1.inj _ c _ x hb hx he).symm
  · obtain ⟨rfl,rfl⟩:=only c x hc
    exact (E1.stab blk hl hs).1 c _ hb rfl
end Go.Proofs.Ytmalpmnmknpphaa.TM
namespace Go.Proofs.Ytmalpmnmknpphaa.TM
open Go Go.RowKit
attribute [local irreducible] K W WOps Effs Xg Xo Xr Xdg Xdo Xdr Xif CallsP CallR
theorem vec_u64 {P n j:Nat} (hn:n < 18446744073709551616):((n / P ^ j:Nat):Int) < 18446744073709551616:=by
  have:=Nat.div_le_self n (P ^ j); omega
set_option maxHeartbeats 4000000 in
theorem vector12_walk {P:Nat} (hp:1 ≤ P) (n C:Nat) (c1:1 ≤ C) (c2:C ≤ 64) (hn:n < 18446744073709551616):CallsP Try.prog 16 [u64 P,u64 n,i64 C] (lu (vecL P n C)):=by
  have p0:¬ (P:Int)=0:=by omega
  unfold vecL
  have hq:∀ j,(((n / P ^ j:Nat):Int)) / (P:Int)=((n / P ^ (j + 1):Nat):Int):=fun j => by
    rw [Nat.pow_succ,← Nat.div_div_eq_div_mul]; rfl
  have hr:∀ j,(((n / P ^ j:Nat):Int)) % (P:Int)=vec P n j:=fun j => rfl
  have hb:∀ j,((n / P ^ j:Nat):Int) < 18446744073709551616:=fun j => vec_u64 hn
  have q0:((n:Nat):Int)=((n / P ^ 0:Nat):Int):=by rw [Nat.pow_zero,Nat.div_one]
  obtain ⟨F,hF⟩:∃ F,F=vec P n:=⟨_,rfl⟩
  obtain ⟨G,hG⟩:∃ G:Nat → Nat,G=fun j => n / P ^ j:=⟨_,rfl⟩
  have hq':∀ j,((G j:Nat):Int) / (P:Int)=((G (j + 1):Nat):Int):=fun j => by rw [hG]; exact hq j
  have hr':∀ j,((G j:Nat):Int) % (P:Int)=F j:=fun j => by rw [hG,hF]; exact hr j
  have hb':∀ j,((G j:Nat):Int) < 18446744073709551616:=fun j => by rw [hG]; exact hb j
  have q0':((n:Nat):Int)=((G 0:Nat):Int):=by rw [hG]; exact q0
  rw [← hF,q0']
  clear hq hr hb q0 hF hG q0'
  refine X_startP (n:=24) (m:=3) (rs:=[.tmp 6]) Try.func16 rfl rfl rfl rfl (by decide) fun base => ?_
  repeat (first|refine X_opc rfl ?_|refine X_dopc rfl ?_|refine ⟨(by show drawK _ _=true; kernel_rfl:drawX _ _ _),?_⟩|exact (by show drawK _ _=true; kernel_rfl:drawX _ _ _)|simp -dsimp (maxSteps:=20000000) (disch:=omega) only [simx,zzC,zzB,tys,ite_self,opnL,callB,callX,readsB,stepOp,nilCmp,ofVal,opBuiltin,opLen,PV.sk,scalBin,scalUn,intBin,opLoad,natOf,opConvert,opField,cellsP,oneP,Value.oneCell',opStore,toIV,scalT,scalA,scalC,boxesA,boxesC,zipB_none,zipB_mx,isZ,opZip,zeroP,opAppendZ,opMakeMap,opLookup,mboxB,opUpdate,↓reduceIte,Nat.reduceSub,Nat.reduceEqDiff,Nat.reduceAdd,Nat.reduceMul,Nat.reduceLT,Nat.reduceLeDiff,Int.reduceToNat,Int.reduceLE,Int.reduceLT,Int.reduceNeg,reduceCtorEq,gos,Int.reduceAdd,Int.reduceSub,Int.reduceMul,Int.reduceEq])
  refine X_loopH [0,1,2,7,8] [(5,4)::base] (0) (C) (fun j => True) (fun j => [(1,u64 (G j:Int)),(7,rowP ((5,5)::base) 1 j ((tbl j F).map iu)),(8,i64 j)]) (fun j => rowH Heap.none ((5,5)::base) j ((tbl j F).map iu)) ?_ ?_ ?_ ?_ ?_ (by decide) ?_
  · exact (fgt_cons (by simp only [Heap.none_at]) (by (simp -dsimp only [zzB,tys,ite_self,opnL,callB,callX,readsB,stepOp,nilCmp,ofVal,opBuiltin,opLen,PV.sk,scalBin,scalUn,intBin,opLoad,natOf,opConvert,opField,cellsP,oneP,Value.oneCell',opStore,toIV,scalT,scalA,scalC,boxesA,boxesC,zipB_none,zipB_mx,isZ,opZip,zeroP,opAppendZ,opMakeMap,opLookup,mboxB,opUpdate,↓reduceIte,Nat.reduceSub,Nat.reduceEqDiff,Nat.reduceAdd,Nat.reduceMul,Nat.reduceLT,Nat.reduceLeDiff,Int.reduceToNat,Int.reduceLE,Int.reduceLT,Int.reduceNeg,reduceCtorEq,notIn_cons,notIn_nil]) <;> simp [refsL,refsP,mem_refs_rowP]) (by repeat (first|exact noVar_none _|refine noVar_row ?_|refine noVar_map ?_|refine noVar_rowH ?_|refine noVar_var ?_ (by simp [refsL,refsP,mem_refs_rowP]))) (fgt_nil))
  · ((simp -dsimp (disch:=omega) only [simx,zzB,tys,ite_self,opnL,callB,callX,readsB,stepOp,nilCmp,ofVal,opBuiltin,opLen,PV.sk,scalBin,scalUn,intBin,opLoad,natOf,opConvert,opField,cellsP,oneP,Value.oneCell',opStore,toIV,scalT,scalA,scalC,boxesA,boxesC,zipB_none,zipB_mx,isZ,opZip,zeroP,opAppendZ,opMakeMap,opLookup,mboxB,opUpdate,↓reduceIte,Nat.reduceSub,Nat.reduceEqDiff,Nat.reduceAdd,Nat.reduceMul,Nat.reduceLT,Nat.reduceLeDiff,Int.reduceToNat,Int.reduceLE,Int.reduceLT,Int.reduceNeg,reduceCtorEq,gos,Int.reduceAdd,Int.reduceSub,Int.reduceMul,Int.reduceEq]) <;> first|rfl|simp [rowP])
  · funext c
    simp (maxSteps:=20000000) only [Heap.drop_at,rowH_app,Heap.put_at,Heap.none_at,List.mem_cons,List.not_mem_nil,or_false]
    by_cases e0:c=(5,4)::base
    · subst e0; simp []
    by_cases e1:c=(5,5)::base
    · subst e1; simp []
    simp [e0,e1]
  · omega
  · trivial
  · intro j hj _
    by_cases cj:j < C
    · have t1:=tbl_succ j F
      have l1:=tbl_len j F
      have h1:=hq' j
      have h2:=hr' j
      have h3:=hb' j
      have h5:IntKind.u64.wrap ((G (j + 1):Nat):Int)=((G (j + 1):Nat):Int):=uw_of (by omega) (hb' (j + 1))
      generalize F j=s at h2 t1
      generalize hg:G (j + 1)=g' at h1 h5
      generalize G j=g at h1 h2 h3 ⊢
      repeat (first|refine X_opc rfl ?_|refine X_dopc rfl ?_|refine ⟨(by show drawK _ _=true; kernel_rfl:drawX _ _ _),?_⟩|exact (by show drawK _ _=true; kernel_rfl:drawX _ _ _)|simp -dsimp (maxSteps:=20000000) (disch:=omega) only [simx,zzC,zzB,tys,ite_self,opnL,callB,callX,readsB,stepOp,nilCmp,ofVal,opBuiltin,opLen,PV.sk,scalBin,scalUn,intBin,opLoad,natOf,opConvert,opField,cellsP,oneP,Value.oneCell',opStore,toIV,scalT,scalA,scalC,boxesA,boxesC,zipB_none,zipB_mx,isZ,opZip,zeroP,opAppendZ,opMakeMap,opLookup,mboxB,opUpdate,↓reduceIte,Nat.reduceSub,Nat.reduceEqDiff,Nat.reduceAdd,Nat.reduceMul,Nat.reduceLT,Nat.reduceLeDiff,Int.reduceToNat,Int.reduceLE,Int.reduceLT,Int.reduceNeg,reduceCtorEq,gos,Int.reduceAdd,Int.reduceSub,Int.reduceMul,Int.reduceEq,cj,p0,h2])
      refine X_append_one 22 [.int .u64 0] [iu s] (by simp only [tys]) (by simp only [tys]) rfl (by decide) (by rw [List.length_map,l1,Nat.mul_one]) (by simp [Heap.put_at,Heap.none_at,rowH_app]) (by simp [Heap.put_at]; rfl) rfl (by simp only [tys]; omega) (by rw [mx_len]; omega) ?_
      repeat (first|refine X_opc rfl ?_|refine X_dopc rfl ?_|refine ⟨(by show drawK _ _=true; kernel_rfl:drawX _ _ _),?_⟩|exact (by show drawK _ _=true; kernel_rfl:drawX _ _ _)|simp -dsimp (maxSteps:=20000000) (disch:=omega) only [simx,zzC,zzB,tys,ite_self,opnL,callB,callX,readsB,stepOp,nilCmp,ofVal,opBuiltin,opLen,PV.sk,scalBin,scalUn,intBin,opLoad,natOf,opConvert,opField,cellsP,oneP,Value.oneCell',opStore,toIV,scalT,scalA,scalC,boxesA,boxesC,zipB_none,zipB_mx,isZ,opZip,zeroP,opAppendZ,opMakeMap,opLookup,mboxB,opUpdate,↓reduceIte,Nat.reduceSub,Nat.reduceEqDiff,Nat.reduceAdd,Nat.reduceMul,Nat.reduceLT,Nat.reduceLeDiff,Int.reduceToNat,Int.reduceLE,Int.reduceLT,Int.reduceNeg,reduceCtorEq,gos,Int.reduceAdd,Int.reduceSub,Int.reduceMul,Int.reduceEq,cj,p0,h1,h5])
      refine ⟨cj,(fgt_cons (by simp only [Heap.none_at]) (by (simp -dsimp only [zzB,tys,ite_self,opnL,callB,callX,readsB,stepOp,nilCmp,ofVal,opBuiltin,opLen,PV.sk,scalBin,scalUn,intBin,opLoad,natOf,opConvert,opField,cellsP,oneP,Value.oneCell',opStore,toIV,scalT,scalA,scalC,boxesA,boxesC,zipB_none,zipB_mx,isZ,opZip,zeroP,opAppendZ,opMakeMap,opLookup,mboxB,opUpdate,↓reduceIte,Nat.reduceSub,Nat.reduceEqDiff,Nat.reduceAdd,Nat.reduceMul,Nat.reduceLT,Nat.reduceLeDiff,Int.reduceToNat,Int.reduceLE,Int.reduceLT,Int.reduceNeg,reduceCtorEq,notIn_cons,notIn_nil]) <;> simp [refsL,refsP,mem_refs_rowP]) (by repeat (first|exact noVar_none _|refine noVar_row ?_|refine noVar_map ?_|refine noVar_rowH ?_|refine noVar_var ?_ (by simp [refsL,refsP,mem_refs_rowP]))) (fgt_nil)),?_,?_⟩
      · rw [t1,hg]; simp
      · funext c
        simp (maxSteps:=20000000) only [Heap.drop_at,rowH_app,Heap.put_at,Heap.none_at,List.mem_cons,List.not_mem_nil,or_false]
        by_cases e0:c=(5,4)::base
        · subst e0; simp [t1]
        by_cases e1:c=(5,5)::base
        · subst e1; simp [t1]
        simp [e0,e1,t1]
    · obtain rfl:C=j:=by omega
      have rp:=fun s z cs => rowP_pos s z cs (show 0 < C by omega)
      have rh:=fun h s cs => rowH_pos h s cs (show 0 < C by omega)
      have l1:=tbl_len C F
      have e2:((tbl C F).map iu).take C=(tbl C F).map iu:=List.take_of_length_le (by rw [List.length_map,l1]; exact Nat.le_refl _)
      repeat (first|refine X_opc rfl ?_|refine X_dopc rfl ?_|refine ⟨(by show drawK _ _=true; kernel_rfl:drawX _ _ _),?_⟩|exact (by show drawK _ _=true; kernel_rfl:drawX _ _ _)|simp -dsimp (maxSteps:=20000000) (disch:=omega) only [simx,zzC,zzB,tys,ite_self,opnL,callB,callX,readsB,stepOp,nilCmp,ofVal,opBuiltin,opLen,PV.sk,scalBin,scalUn,intBin,opLoad,natOf,opConvert,opField,cellsP,oneP,Value.oneCell',opStore,toIV,scalT,scalA,scalC,boxesA,boxesC,zipB_none,zipB_mx,isZ,opZip,zeroP,opAppendZ,opMakeMap,opLookup,mboxB,opUpdate,↓reduceIte,Nat.reduceSub,Nat.reduceEqDiff,Nat.reduceAdd,Nat.reduceMul,Nat.reduceLT,Nat.reduceLeDiff,Int.reduceToNat,Int.reduceLE,Int.reduceLT,Int.reduceNeg,reduceCtorEq,zzR,gos,Int.reduceAdd,Int.reduceSub,Int.reduceMul,Int.reduceEq,rp,rh,List.length_map,l1,e2,lu])
end Go.Proofs.Ytmalpmnmknpphaa.TM
namespace Go.Proofs.Ytmalpmnmknpphaa.TM
open Go Go.RowKit
attribute [local irreducible] K W WOps Effs Xg Xo Xr Xdg Xdo Xdr Xif CallsP CallR
theorem rsub_walk (p a b:Int) (hp:Md p) (ha:In p a) (hb:In p b):CallsP Try.prog 92 [u64 p,u64 a,u64 b] (u64 ((a - b) % p)):=by
  have p1:=hp.1; have p2:=hp.2
  have a1:=ha.1; have a2:=ha.2; have b1:=hb.1; have b2:=hb.2
  have e:(a + p - b) % p=(a - b) % p:=by rw [show a + p - b=a - b + p * 1 by omega,Int.add_mul_emod_self_left]
  rw [← e]
  refine X_startP (n:=14) (m:=3) (rs:=[.tmp 6]) Try.func92 rfl rfl rfl rfl (by decide) fun base => ?_
  repeat (first|refine X_opc rfl ?_|refine X_dopc rfl ?_|refine ⟨(by show drawK _ _=true; kernel_rfl:drawX _ _ _),?_⟩|exact (by show drawK _ _=true; kernel_rfl:drawX _ _ _)|simp -dsimp (maxSteps:=20000000) (disch:=omega) only [simx,zzC,zzB,tys,ite_self,opnL,callB,callX,readsB,stepOp,nilCmp,ofVal,opBuiltin,opLen,PV.sk,scalBin,scalUn,intBin,opLoad,natOf,opConvert,opField,cellsP,oneP,Value.oneCell',opStore,toIV,scalT,scalA,scalC,boxesA,boxesC,zipB_none,zipB_mx,isZ,opZip,zeroP,opAppendZ,opMakeMap,opLookup,mboxB,opUpdate,↓reduceIte,Nat.reduceSub,Nat.reduceEqDiff,Nat.reduceAdd,Nat.reduceMul,Nat.reduceLT,Nat.reduceLeDiff,Int.reduceToNat,Int.reduceLE,Int.reduceLT,Int.reduceNeg,reduceCtorEq,zzR,gos,Int.reduceAdd,Int.reduceSub,Int.reduceMul,Int.reduceEq])
theorem rmul_walk' (p a b:Int) (hp:Md p) (ha:In p a) (hb:W64 b):CallsP Try.prog 91 [u64 p,u64 a,u64 b] (u64 (a * b % p)):=rmul_walk p a hp ha b.toNat b hb.1 hb.2 (Nat.le_refl _)
theorem rgcd_walk (a b:Int) (wa:W64 a) (wb:W64 b):CallsP Try.prog 124 [u64 a,u64 b] (u64 (Int.gcd a b:Int)):=by
  obtain ⟨N,g1,g0,g2⟩:=gc_run wa.1 wb.1
  rw [← g0]
  refine X_startP (n:=12) (m:=2) (rs:=[.tmp 4]) Try.func124 rfl rfl rfl rfl (by decide) fun base => ?_
  repeat (first|refine X_opc rfl ?_|refine X_dopc rfl ?_|refine ⟨(by show drawK _ _=true; kernel_rfl:drawX _ _ _),?_⟩|exact (by show drawK _ _=true; kernel_rfl:drawX _ _ _)|simp -dsimp (maxSteps:=20000000) (disch:=omega) only [simx,zzC,zzB,tys,ite_self,opnL,callB,callX,readsB,stepOp,nilCmp,ofVal,opBuiltin,opLen,PV.sk,scalBin,scalUn,intBin,opLoad,natOf,opConvert,opField,cellsP,oneP,Value.oneCell',opStore,toIV,scalT,scalA,scalC,boxesA,boxesC,zipB_none,zipB_mx,isZ,opZip,zeroP,opAppendZ,opMakeMap,opLookup,mboxB,opUpdate,↓reduceIte,Nat.reduceSub,Nat.reduceEqDiff,Nat.reduceAdd,Nat.reduceMul,Nat.reduceLT,Nat.reduceLeDiff,Int.reduceToNat,Int.reduceLE,Int.reduceLT,Int.reduceNeg,reduceCtorEq,gos,Int.reduceAdd,Int.reduceSub,Int.reduceMul,Int.reduceEq])
  refine X_loopH [0,1] [] (0) (N) (fun j => True) (fun j => [(0,u64 (itJ gcT j (a,b)).1),(1,u64 (itJ gcT j (a,b)).2)]) (fun j => Heap.none) ?_ ?_ ?_ ?_ ?_ (by decide) ?_
  · exact (fgt_nil)
  · ((simp -dsimp (disch:=omega) only [simx,zzB,tys,ite_self,opnL,callB,callX,readsB,stepOp,nilCmp,ofVal,opBuiltin,opLen,PV.sk,scalBin,scalUn,intBin,opLoad,natOf,opConvert,opField,cellsP,oneP,Value.oneCell',opStore,toIV,scalT,scalA,scalC,boxesA,boxesC,zipB_none,zipB_mx,isZ,opZip,zeroP,opAppendZ,opMakeMap,opLookup,mboxB,opUpdate,↓reduceIte,Nat.reduceSub,Nat.reduceEqDiff,Nat.reduceAdd,Nat.reduceMul,Nat.reduceLT,Nat.reduceLeDiff,Int.reduceToNat,Int.reduceLE,Int.reduceLT,Int.reduceNeg,reduceCtorEq,gos,Int.reduceAdd,Int.reduceSub,Int.reduceMul,Int.reduceEq]) <;> first|rfl|simp [itJ])
  · exact drop_nil _
  · omega
  · trivial
  · intro j hj _
    by_cases cj:j < N
    · obtain ⟨⟨i1,i2⟩,hs⟩:=g2 j hj
      replace hs:=hs cj
      obtain ⟨x,y,ht⟩:∃ x y,itJ gcT j (a,b)=(x,y):=⟨_,_,rfl⟩
      have nx:itJ gcT (j + 1) (a,b)=(y,x % y):=by rw [itJ,ht]; rfl
      rw [ht] at i1 i2 hs ⊢
      clear g1 g2 g0 ht
      simp only at i1 i2 hs ⊢
      repeat (first|refine X_opc rfl ?_|refine X_dopc rfl ?_|refine ⟨(by show drawK _ _=true; kernel_rfl:drawX _ _ _),?_⟩|exact (by show drawK _ _=true; kernel_rfl:drawX _ _ _)|simp -dsimp (maxSteps:=20000000) (disch:=omega) only [simx,zzC,zzB,tys,ite_self,opnL,callB,callX,readsB,stepOp,nilCmp,ofVal,opBuiltin,opLen,PV.sk,scalBin,scalUn,intBin,opLoad,natOf,opConvert,opField,cellsP,oneP,Value.oneCell',opStore,toIV,scalT,scalA,scalC,boxesA,boxesC,zipB_none,zipB_mx,isZ,opZip,zeroP,opAppendZ,opMakeMap,opLookup,mboxB,opUpdate,↓reduceIte,Nat.reduceSub,Nat.reduceEqDiff,Nat.reduceAdd,Nat.reduceMul,Nat.reduceLT,Nat.reduceLeDiff,Int.reduceToNat,Int.reduceLE,Int.reduceLT,Int.reduceNeg,reduceCtorEq,gos,Int.reduceAdd,Int.reduceSub,Int.reduceMul,Int.reduceEq,hs])
      refine ⟨cj,(fgt_nil),?_,drop_nil _⟩
      rw [nx]
      repeat' first|rfl|apply And.intro
    · obtain rfl:N=j:=by omega
      clear g2
      generalize itJ gcT N (a,b)=t at g1 g0 ⊢
      obtain ⟨x,y⟩:=t
      simp only at g1 ⊢
      subst g1
      repeat (first|refine X_opc rfl ?_|refine X_dopc rfl ?_|refine ⟨(by show drawK _ _=true; kernel_rfl:drawX _ _ _),?_⟩|exact (by show drawK _ _=true; kernel_rfl:drawX _ _ _)|simp -dsimp (maxSteps:=20000000) (disch:=omega) only [simx,zzC,zzB,tys,ite_self,opnL,callB,callX,readsB,stepOp,nilCmp,ofVal,opBuiltin,opLen,PV.sk,scalBin,scalUn,intBin,opLoad,natOf,opConvert,opField,cellsP,oneP,Value.oneCell',opStore,toIV,scalT,scalA,scalC,boxesA,boxesC,zipB_none,zipB_mx,isZ,opZip,zeroP,opAppendZ,opMakeMap,opLookup,mboxB,opUpdate,↓reduceIte,Nat.reduceSub,Nat.reduceEqDiff,Nat.reduceAdd,Nat.reduceMul,Nat.reduceLT,Nat.reduceLeDiff,Int.reduceToNat,Int.reduceLE,Int.reduceLT,Int.reduceNeg,reduceCtorEq,zzR,gos,Int.reduceAdd,Int.reduceSub,Int.reduceMul,Int.reduceEq])
theorem rinv_walk (p a:Int) (hp:Md p) (ha:In p a):∃ r:Int × Int,r=invR p a ∧ CallsP Try.prog 90 [u64 p,u64 a] (.tup [u64 r.1,i64 r.2]):=by
  refine ⟨_,rfl,?_⟩
  have p1:=hp.1; have p2:=hp.2
  have g:=rgcd_walk p a ⟨by omega,by omega⟩ (ha.w64 (by omega))
  unfold invR
  by_cases c:Int.gcd p a=1
  · obtain ⟨N,g1,g2⟩:=em_run p1 ha
    obtain ⟨E,_⟩:=g2 N (Nat.le_refl _)
    rw [g1] at E
    rw [if_pos c,em_end p1 E c]
    have c':(Int.gcd p a:Int)=1:=by omega
    rw [c'] at g
    clear c c' E
    refine X_startP (n:=39) (m:=2) (rs:=[.tmp 4,.tmp 5]) Try.func90 rfl rfl rfl rfl (by decide) fun base => ?_
    repeat (first|((first|refine X_call_fn2 rfl (by simp only [tys]) ?_|refine X_dcall_fn2 rfl (by simp only [tys]) ?_); apply Exists.intro; apply And.intro; (focus (simp -dsimp only [simx,zzC,zzB,tys,ite_self,opnL,callB,callX,readsB,stepOp,nilCmp,ofVal,opBuiltin,opLen,PV.sk,scalBin,scalUn,intBin,opLoad,natOf,opConvert,opField,cellsP,oneP,Value.oneCell',opStore,toIV,scalT,scalA,scalC,boxesA,boxesC,zipB_none,zipB_mx,isZ,opZip,zeroP,opAppendZ,opMakeMap,opLookup,mboxB,opUpdate,↓reduceIte,Nat.reduceSub,Nat.reduceEqDiff,Nat.reduceAdd,Nat.reduceMul,Nat.reduceLT,Nat.reduceLeDiff,Int.reduceToNat,Int.reduceLE,Int.reduceLT,Int.reduceNeg,reduceCtorEq,zzL,if_true,if_false] <;> rfl)); apply Exists.intro; apply And.intro; (focus (first|exact g)))|refine X_opc rfl ?_|refine X_dopc rfl ?_|refine ⟨(by show drawK _ _=true; kernel_rfl:drawX _ _ _),?_⟩|exact (by show drawK _ _=true; kernel_rfl:drawX _ _ _)|simp -dsimp (maxSteps:=20000000) (disch:=omega) only [simx,zzC,zzB,tys,ite_self,opnL,callB,callX,readsB,stepOp,nilCmp,ofVal,opBuiltin,opLen,PV.sk,scalBin,scalUn,intBin,opLoad,natOf,opConvert,opField,cellsP,oneP,Value.oneCell',opStore,toIV,scalT,scalA,scalC,boxesA,boxesC,zipB_none,zipB_mx,isZ,opZip,zeroP,opAppendZ,opMakeMap,opLookup,mboxB,opUpdate,↓reduceIte,Nat.reduceSub,Nat.reduceEqDiff,Nat.reduceAdd,Nat.reduceMul,Nat.reduceLT,Nat.reduceLeDiff,Int.reduceToNat,Int.reduceLE,Int.reduceLT,Int.reduceNeg,reduceCtorEq,gos,Int.reduceAdd,Int.reduceSub,Int.reduceMul,Int.reduceEq])
    clear g
    refine X_loopH [0,6,7,8,9] [] (0) (N) (fun j => True) (fun j => [(6,u64 (itJ (emT p) j (p,a,0,1)).1),(7,u64 (itJ (emT p) j (p,a,0,1)).2.1),(8,u64 (itJ (emT p) j (p,a,0,1)).2.2.1),(9,u64 (itJ (emT p) j (p,a,0,1)).2.2.2)]) (fun j => Heap.none) ?_ ?_ ?_ ?_ ?_ (by decide) ?_
    · exact (fgt_nil)
    · ((simp -dsimp (disch:=omega) only [simx,zzB,tys,ite_self,opnL,callB,callX,readsB,stepOp,nilCmp,ofVal,opBuiltin,opLen,PV.sk,scalBin,scalUn,intBin,opLoad,natOf,opConvert,opField,cellsP,oneP,Value.oneCell',opStore,toIV,scalT,scalA,scalC,boxesA,boxesC,zipB_none,zipB_mx,isZ,opZip,zeroP,opAppendZ,opMakeMap,opLookup,mboxB,opUpdate,↓reduceIte,Nat.reduceSub,Nat.reduceEqDiff,Nat.reduceAdd,Nat.reduceMul,Nat.reduceLT,Nat.reduceLeDiff,Int.reduceToNat,Int.reduceLE,Int.reduceLT,Int.reduceNeg,reduceCtorEq,gos,Int.reduceAdd,Int.reduceSub,Int.reduceMul,Int.reduceEq]) <;> first|rfl|simp [itJ])
    · exact drop_nil _
    · omega
    · trivial
    · intro j hj _
      by_cases cj:j < N
      · obtain ⟨E,hs⟩:=g2 j hj
        replace hs:=hs cj
        obtain ⟨r,s,x,y,ht⟩:∃ r s x y,itJ (emT p) j (p,a,0,1)=(r,s,x,y):=⟨_,_,_,_,rfl⟩
        have nx:itJ (emT p) (j + 1) (p,a,0,1)=(s,r - r / s * s,y,(x - r / s % p * y % p) % p):=by rw [itJ,ht]; rfl
        rw [ht] at E hs ⊢
        clear g1 g2 ht
        simp only at E hs ⊢
        have hs0:=E.hs0; have hsr:=E.hsr; have hrp:=E.hrp
        have hq:=Int.emod_add_mul_ediv r s
        have hqc:s * (r / s)=r / s * s:=Int.mul_comm _ _
        have hm0:=Int.emod_nonneg r hs
        have hq0:0 ≤ r / s:=Int.ediv_nonneg (by omega) hs0
        have hqr:r / s ≤ r:=Int.ediv_le_self _ (by omega)
        have hqs0:0 ≤ r / s * s:=Int.mul_nonneg hq0 hs0
        have iq:=emod_in (r / s) (show 0 < p by omega)
        have im:=emod_in (r / s % p * y) (show 0 < p by omega)
        have d1:=rmul_walk' p _ y hp iq (E.iy.w64 (by omega))
        have d2:=rsub_walk p x _ hp E.ix im
        have w1:IntKind.u64.wrap (r / s)=r / s:=uw_of (by omega) (by omega)
        have w2:IntKind.u64.wrap (r / s * s)=r / s * s:=uw_of (by omega) (by omega)
        have w3:IntKind.u64.wrap (r - r / s * s)=r - r / s * s:=uw_of (by omega) (by omega)
        clear iq im hq hqc hm0
        repeat (first|((first|refine X_call_fn2 rfl (by simp only [tys]) ?_|refine X_dcall_fn2 rfl (by simp only [tys]) ?_); apply Exists.intro; apply And.intro; (focus (simp -dsimp only [simx,zzC,zzB,tys,ite_self,opnL,callB,callX,readsB,stepOp,nilCmp,ofVal,opBuiltin,opLen,PV.sk,scalBin,scalUn,intBin,opLoad,natOf,opConvert,opField,cellsP,oneP,Value.oneCell',opStore,toIV,scalT,scalA,scalC,boxesA,boxesC,zipB_none,zipB_mx,isZ,opZip,zeroP,opAppendZ,opMakeMap,opLookup,mboxB,opUpdate,↓reduceIte,Nat.reduceSub,Nat.reduceEqDiff,Nat.reduceAdd,Nat.reduceMul,Nat.reduceLT,Nat.reduceLeDiff,Int.reduceToNat,Int.reduceLE,Int.reduceLT,Int.reduceNeg,reduceCtorEq,zzL,if_true,if_false] <;> rfl)); apply Exists.intro; apply And.intro; (focus (first|exact d1|exact d2)))|refine X_opc rfl ?_|refine X_dopc rfl ?_|refine ⟨(by show drawK _ _=true; kernel_rfl:drawX _ _ _),?_⟩|exact (by show drawK _ _=true; kernel_rfl:drawX _ _ _)|simp -dsimp (maxSteps:=20000000) (disch:=omega) only [simx,zzC,zzB,tys,ite_self,opnL,callB,callX,readsB,stepOp,nilCmp,ofVal,opBuiltin,opLen,PV.sk,scalBin,scalUn,intBin,opLoad,natOf,opConvert,opField,cellsP,oneP,Value.oneCell',opStore,toIV,scalT,scalA,scalC,boxesA,boxesC,zipB_none,zipB_mx,isZ,opZip,zeroP,opAppendZ,opMakeMap,opLookup,mboxB,opUpdate,↓reduceIte,Nat.reduceSub,Nat.reduceEqDiff,Nat.reduceAdd,Nat.reduceMul,Nat.reduceLT,Nat.reduceLeDiff,Int.reduceToNat,Int.reduceLE,Int.reduceLT,Int.reduceNeg,reduceCtorEq,gos,Int.reduceAdd,Int.reduceSub,Int.reduceMul,Int.reduceEq,w1,w2,w3,hs])
        refine ⟨cj,(fgt_nil),?_,drop_nil _⟩
        rw [nx]
        repeat' first|rfl|apply And.intro
      · obtain rfl:N=j:=by omega
        clear g2
        generalize itJ (emT p) N (p,a,0,1)=t at g1 ⊢
        obtain ⟨r,s,x,y⟩:=t
        simp only at g1 ⊢
        subst g1
        repeat (first|refine X_opc rfl ?_|refine X_dopc rfl ?_|refine ⟨(by show drawK _ _=true; kernel_rfl:drawX _ _ _),?_⟩|exact (by show drawK _ _=true; kernel_rfl:drawX _ _ _)|simp -dsimp (maxSteps:=20000000) (disch:=omega) only [simx,zzC,zzB,tys,ite_self,opnL,callB,callX,readsB,stepOp,nilCmp,ofVal,opBuiltin,opLen,PV.sk,scalBin,scalUn,intBin,opLoad,natOf,opConvert,opField,cellsP,oneP,Value.oneCell',opStore,toIV,scalT,scalA,scalC,boxesA,boxesC,zipB_none,zipB_mx,isZ,opZip,zeroP,opAppendZ,opMakeMap,opLookup,mboxB,opUpdate,↓reduceIte,Nat.reduceSub,Nat.reduceEqDiff,Nat.reduceAdd,Nat.reduceMul,Nat.reduceLT,Nat.reduceLeDiff,Int.reduceToNat,Int.reduceLE,Int.reduceLT,Int.reduceNeg,reduceCtorEq,zzR,gos,Int.reduceAdd,Int.reduceSub,Int.reduceMul,Int.reduceEq])
  · have c':¬ (Int.gcd p a:Int)=1:=by omega
    rw [if_neg c]
    generalize (Int.gcd p a:Int)=gg at g c'
    refine X_startP (n:=39) (m:=2) (rs:=[.tmp 4,.tmp 5]) Try.func90 rfl rfl rfl rfl (by decide) fun base => ?_
    repeat (first|((first|refine X_call_fn2 rfl (by simp only [tys]) ?_|refine X_dcall_fn2 rfl (by simp only [tys]) ?_); apply Exists.intro; apply And.intro; (focus (simp -dsimp only [simx,zzC,zzB,tys,ite_self,opnL,callB,callX,readsB,stepOp,nilCmp,ofVal,opBuiltin,opLen,PV.sk,scalBin,scalUn,intBin,opLoad,natOf,opConvert,opField,cellsP,oneP,Value.oneCell',opStore,toIV,scalT,scalA,scalC,boxesA,boxesC,zipB_none,zipB_mx,isZ,opZip,zeroP,opAppendZ,opMakeMap,opLookup,mboxB,opUpdate,↓reduceIte,Nat.reduceSub,Nat.reduceEqDiff,Nat.reduceAdd,Nat.reduceMul,Nat.reduceLT,Nat.reduceLeDiff,Int.reduceToNat,Int.reduceLE,Int.reduceLT,Int.reduceNeg,reduceCtorEq,zzL,if_true,if_false] <;> rfl)); apply Exists.intro; apply And.intro; (focus (first|exact g)))|refine X_opc rfl ?_|refine X_dopc rfl ?_|refine ⟨(by show drawK _ _=true; kernel_rfl:drawX _ _ _),?_⟩|exact (by show drawK _ _=true; kernel_rfl:drawX _ _ _)|simp -dsimp (maxSteps:=20000000) (disch:=omega) only [simx,zzC,zzB,tys,ite_self,opnL,callB,callX,readsB,stepOp,nilCmp,ofVal,opBuiltin,opLen,PV.sk,scalBin,scalUn,intBin,opLoad,natOf,opConvert,opField,cellsP,oneP,Value.oneCell',opStore,toIV,scalT,scalA,scalC,boxesA,boxesC,zipB_none,zipB_mx,isZ,opZip,zeroP,opAppendZ,opMakeMap,opLookup,mboxB,opUpdate,↓reduceIte,Nat.reduceSub,Nat.reduceEqDiff,Nat.reduceAdd,Nat.reduceMul,Nat.reduceLT,Nat.reduceLeDiff,Int.reduceToNat,Int.reduceLE,Int.reduceLT,Int.reduceNeg,reduceCtorEq,zzR,gos,Int.reduceAdd,Int.reduceSub,Int.reduceMul,Int.reduceEq])
end Go.Proofs.Ytmalpmnmknpphaa.TM
