/- What is proved of functions, and plain facts, part 5. Conditions: none. -/
import Derived.Test.YtmalpmnmknpphaaSShapeParts4
set_option linter.defProp false
set_option linter.unusedSectionVars false
set_option linter.unusedSimpArgs false
set_option linter.unusedVariables false
namespace Go.Proofs.Ytmalpmnmknpphaa.TM
open Go Go.RowKit
attribute [local irreducible] K W WOps Effs Xg Xo Xr Xdg Xdo Xdr Xif CallsP CallR
def dotR (p:Int) (a b:List Int):Int × Int:=if HasB p a && (HasB p b && decide (a.length=b.length)) then (dotI a b % p,0) else (0,1)
set_option maxRecDepth 10000 in
theorem dot_walk (p:Int) (a b:List Int) (ha:a.length ≤ maxLen) (hb:b.length ≤ maxLen) (wa:W64s a) (wb:W64s b):CallsP Try.prog 75 [u64 p,lu a,lu b] (.tup [u64 (dotR p a b).1,i64 (dotR p a b).2]):=by
  have r1:=has_walk p a ha
  have r2:=has_walk p b hb
  rw [mx_len] at ha hb
  unfold dotR
  cases h1:HasB p a with
  | false =>
    rw [h1] at r1
    refine X_startP (n:=47) (m:=3) (rs:=[.tmp 6,.tmp 7]) Try.func75 rfl rfl rfl rfl (by decide) fun base => ?_
    repeat (first|((first|refine X_call_fn2 rfl (by simp only [tys]) ?_|refine X_dcall_fn2 rfl (by simp only [tys]) ?_); apply Exists.intro; apply And.intro; (focus (simp -dsimp only [simx,zzC,zzB,tys,ite_self,opnL,callB,callX,readsB,stepOp,nilCmp,ofVal,opBuiltin,opLen,PV.sk,scalBin,scalUn,intBin,opLoad,natOf,opConvert,opField,cellsP,oneP,Value.oneCell',opStore,toIV,scalT,scalA,scalC,boxesA,boxesC,zipB_none,zipB_mx,isZ,opZip,zeroP,opAppendZ,opMakeMap,opLookup,mboxB,opUpdate,↓reduceIte,Nat.reduceSub,Nat.reduceEqDiff,Nat.reduceAdd,Nat.reduceMul,Nat.reduceLT,Nat.reduceLeDiff,Int.reduceToNat,Int.reduceLE,Int.reduceLT,Int.reduceNeg,reduceCtorEq,zzL,if_true,if_false] <;> rfl)); apply Exists.intro; apply And.intro; (focus (first|exact r1)))|refine X_opc rfl ?_|refine X_dopc rfl ?_|refine ⟨(by show drawK _ _=true; kernel_rfl:drawX _ _ _),?_⟩|exact (by show drawK _ _=true; kernel_rfl:drawX _ _ _)|simp -dsimp (maxSteps:=20000000) (disch:=omega) only [simx,zzC,zzB,tys,ite_self,opnL,callB,callX,readsB,stepOp,nilCmp,ofVal,opBuiltin,opLen,PV.sk,scalBin,scalUn,intBin,opLoad,natOf,opConvert,opField,cellsP,oneP,Value.oneCell',opStore,toIV,scalT,scalA,scalC,boxesA,boxesC,zipB_none,zipB_mx,isZ,opZip,zeroP,opAppendZ,opMakeMap,opLookup,mboxB,opUpdate,↓reduceIte,Nat.reduceSub,Nat.reduceEqDiff,Nat.reduceAdd,Nat.reduceMul,Nat.reduceLT,Nat.reduceLeDiff,Int.reduceToNat,Int.reduceLE,Int.reduceLT,Int.reduceNeg,reduceCtorEq,zzR,gos,Int.reduceAdd,Int.reduceSub,Int.reduceMul,Int.reduceEq])
  | true =>
    cases h2:HasB p b with
    | false =>
      rw [h1] at r1
      rw [h2] at r2
      refine X_startP (n:=47) (m:=3) (rs:=[.tmp 6,.tmp 7]) Try.func75 rfl rfl rfl rfl (by decide) fun base => ?_
      repeat (first|((first|refine X_call_fn2 rfl (by simp only [tys]) ?_|refine X_dcall_fn2 rfl (by simp only [tys]) ?_); apply Exists.intro; apply And.intro; (focus (simp -dsimp only [simx,zzC,zzB,tys,ite_self,opnL,callB,callX,readsB,stepOp,nilCmp,ofVal,opBuiltin,opLen,PV.sk,scalBin,scalUn,intBin,opLoad,natOf,opConvert,opField,cellsP,oneP,Value.oneCell',opStore,toIV,scalT,scalA,scalC,boxesA,boxesC,zipB_none,zipB_mx,isZ,opZip,zeroP,opAppendZ,opMakeMap,opLookup,mboxB,opUpdate,↓reduceIte,Nat.reduceSub,Nat.reduceEqDiff,Nat.reduceAdd,Nat.reduceMul,Nat.reduceLT,Nat.reduceLeDiff,Int.reduceToNat,Int.reduceLE,Int.reduceLT,Int.reduceNeg,reduceCtorEq,zzL,if_true,if_false] <;> rfl)); apply Exists.intro; apply And.intro; (focus (first|exact r1|exact r2)))|refine X_opc rfl ?_|refine X_dopc rfl ?_|refine ⟨(by show drawK _ _=true; kernel_rfl:drawX _ _ _),?_⟩|exact (by show drawK _ _=true; kernel_rfl:drawX _ _ _)|simp -dsimp (maxSteps:=20000000) (disch:=omega) only [simx,zzC,zzB,tys,ite_self,opnL,callB,callX,readsB,stepOp,nilCmp,ofVal,opBuiltin,opLen,PV.sk,scalBin,scalUn,intBin,opLoad,natOf,opConvert,opField,cellsP,oneP,Value.oneCell',opStore,toIV,scalT,scalA,scalC,boxesA,boxesC,zipB_none,zipB_mx,isZ,opZip,zeroP,opAppendZ,opMakeMap,opLookup,mboxB,opUpdate,↓reduceIte,Nat.reduceSub,Nat.reduceEqDiff,Nat.reduceAdd,Nat.reduceMul,Nat.reduceLT,Nat.reduceLeDiff,Int.reduceToNat,Int.reduceLE,Int.reduceLT,Int.reduceNeg,reduceCtorEq,zzR,gos,Int.reduceAdd,Int.reduceSub,Int.reduceMul,Int.reduceEq])
    | true =>
      rw [h1] at r1
      rw [h2] at r2
      by_cases c0:a.length=b.length
      · rw [has_iff] at h1 h2
        obtain ⟨a1,p1,p2⟩:=h1
        have b1:=h2.1
        clear h2
        simp only [c0,decide_true,Bool.and_self,if_true]
        have c0':(a.length:Int)=(b.length:Int):=by omega
        have hp:Md p:=⟨p1,p2⟩
        refine X_startP (n:=47) (m:=3) (rs:=[.tmp 6,.tmp 7]) Try.func75 rfl rfl rfl rfl (by decide) fun base => ?_
        repeat (first|((first|refine X_call_fn2 rfl (by simp only [tys]) ?_|refine X_dcall_fn2 rfl (by simp only [tys]) ?_); apply Exists.intro; apply And.intro; (focus (simp -dsimp only [simx,zzC,zzB,tys,ite_self,opnL,callB,callX,readsB,stepOp,nilCmp,ofVal,opBuiltin,opLen,PV.sk,scalBin,scalUn,intBin,opLoad,natOf,opConvert,opField,cellsP,oneP,Value.oneCell',opStore,toIV,scalT,scalA,scalC,boxesA,boxesC,zipB_none,zipB_mx,isZ,opZip,zeroP,opAppendZ,opMakeMap,opLookup,mboxB,opUpdate,↓reduceIte,Nat.reduceSub,Nat.reduceEqDiff,Nat.reduceAdd,Nat.reduceMul,Nat.reduceLT,Nat.reduceLeDiff,Int.reduceToNat,Int.reduceLE,Int.reduceLT,Int.reduceNeg,reduceCtorEq,zzL,if_true,if_false] <;> rfl)); apply Exists.intro; apply And.intro; (focus (first|exact r1|exact r2)))|refine X_opc rfl ?_|refine X_dopc rfl ?_|refine ⟨(by show drawK _ _=true; kernel_rfl:drawX _ _ _),?_⟩|exact (by show drawK _ _=true; kernel_rfl:drawX _ _ _)|simp -dsimp (maxSteps:=20000000) (disch:=omega) only [simx,zzC,zzB,tys,ite_self,opnL,callB,callX,readsB,stepOp,nilCmp,ofVal,opBuiltin,opLen,PV.sk,scalBin,scalUn,intBin,opLoad,natOf,opConvert,opField,cellsP,oneP,Value.oneCell',opStore,toIV,scalT,scalA,scalC,boxesA,boxesC,zipB_none,zipB_mx,isZ,opZip,zeroP,opAppendZ,opMakeMap,opLookup,mboxB,opUpdate,↓reduceIte,Nat.reduceSub,Nat.reduceEqDiff,Nat.reduceAdd,Nat.reduceMul,Nat.reduceLT,Nat.reduceLeDiff,Int.reduceToNat,Int.reduceLE,Int.reduceLT,Int.reduceNeg,reduceCtorEq,gos,Int.reduceAdd,Int.reduceSub,Int.reduceMul,Int.reduceEq])
        refine X_loopH [0,2,8,28,29,30] [] (0) (a.length) (fun j => True) (fun j => [(8,u64 (dotI (a.take j) (b.take j) % p)),(30,i64 j)]) (fun j => Heap.none) ?_ ?_ ?_ ?_ ?_ (by decide) ?_
        · exact (fgt_nil)
        · ((simp -dsimp (disch:=omega) only [simx,zzB,tys,ite_self,opnL,callB,callX,readsB,stepOp,nilCmp,ofVal,opBuiltin,opLen,PV.sk,scalBin,scalUn,intBin,opLoad,natOf,opConvert,opField,cellsP,oneP,Value.oneCell',opStore,toIV,scalT,scalA,scalC,boxesA,boxesC,zipB_none,zipB_mx,isZ,opZip,zeroP,opAppendZ,opMakeMap,opLookup,mboxB,opUpdate,↓reduceIte,Nat.reduceSub,Nat.reduceEqDiff,Nat.reduceAdd,Nat.reduceMul,Nat.reduceLT,Nat.reduceLeDiff,Int.reduceToNat,Int.reduceLE,Int.reduceLT,Int.reduceNeg,reduceCtorEq,gos,Int.reduceAdd,Int.reduceSub,Int.reduceMul,Int.reduceEq]) <;> first|rfl|simp [dotI_nil])
        · exact drop_nil _
        · omega
        · trivial
        · intro j hj _
          by_cases c:j < a.length
          · have c':j < b.length:=by omega
            have g1:a[j]?=some a[j]:=List.getElem?_eq_getElem c
            have g2:b[j]?=some b[j]:=List.getElem?_eq_getElem c'
            have i1:=in_of a1 wa (List.getElem_mem c)
            have i2:=in_of b1 wb (List.getElem_mem c')
            have i3:=emod_in (p:=p) (a[j] * b[j]) (by omega)
            have i4:=emod_in (p:=p) (dotI (a.take j) (b.take j)) (by omega)
            have d1:=mul_walk p _ _ hp i1 i2
            have d2:=add_walk p _ _ hp i4 i3
            have e:(dotI (a.take j) (b.take j) % p + a[j] * b[j] % p) % p=dotI (a.take (j + 1)) (b.take (j + 1)) % p:=by rw [dotI_take c c',am_l,am_r]
            rw [e] at d2
            clear i1 i2 i3 i4
            repeat (first|((first|refine X_call_fn2 rfl (by simp only [tys]) ?_|refine X_dcall_fn2 rfl (by simp only [tys]) ?_); apply Exists.intro; apply And.intro; (focus (simp -dsimp only [simx,zzC,zzB,tys,ite_self,opnL,callB,callX,readsB,stepOp,nilCmp,ofVal,opBuiltin,opLen,PV.sk,scalBin,scalUn,intBin,opLoad,natOf,opConvert,opField,cellsP,oneP,Value.oneCell',opStore,toIV,scalT,scalA,scalC,boxesA,boxesC,zipB_none,zipB_mx,isZ,opZip,zeroP,opAppendZ,opMakeMap,opLookup,mboxB,opUpdate,↓reduceIte,Nat.reduceSub,Nat.reduceEqDiff,Nat.reduceAdd,Nat.reduceMul,Nat.reduceLT,Nat.reduceLeDiff,Int.reduceToNat,Int.reduceLE,Int.reduceLT,Int.reduceNeg,reduceCtorEq,zzL,if_true,if_false] <;> rfl)); apply Exists.intro; apply And.intro; (focus (first|exact d1|exact d2)))|refine X_opc rfl ?_|refine X_dopc rfl ?_|refine ⟨(by show drawK _ _=true; kernel_rfl:drawX _ _ _),?_⟩|exact (by show drawK _ _=true; kernel_rfl:drawX _ _ _)|simp -dsimp (maxSteps:=20000000) (disch:=omega) only [simx,zzC,zzB,tys,ite_self,opnL,callB,callX,readsB,stepOp,nilCmp,ofVal,opBuiltin,opLen,PV.sk,scalBin,scalUn,intBin,opLoad,natOf,opConvert,opField,cellsP,oneP,Value.oneCell',opStore,toIV,scalT,scalA,scalC,boxesA,boxesC,zipB_none,zipB_mx,isZ,opZip,zeroP,opAppendZ,opMakeMap,opLookup,mboxB,opUpdate,↓reduceIte,Nat.reduceSub,Nat.reduceEqDiff,Nat.reduceAdd,Nat.reduceMul,Nat.reduceLT,Nat.reduceLeDiff,Int.reduceToNat,Int.reduceLE,Int.reduceLT,Int.reduceNeg,reduceCtorEq,gos,Int.reduceAdd,Int.reduceSub,Int.reduceMul,Int.reduceEq,c,c',g1,g2])
            exact ⟨c,(fgt_nil),rfl,drop_nil _⟩
          · have hj:j=a.length:=by omega
            subst hj
            have e1:a.take b.length=a:=by rw [← c0]; exact List.take_length
            rw [c0]
            repeat (first|refine X_opc rfl ?_|refine X_dopc rfl ?_|refine ⟨(by show drawK _ _=true; kernel_rfl:drawX _ _ _),?_⟩|exact (by show drawK _ _=true; kernel_rfl:drawX _ _ _)|simp -dsimp (maxSteps:=20000000) (disch:=omega) only [simx,zzC,zzB,tys,ite_self,opnL,callB,callX,readsB,stepOp,nilCmp,ofVal,opBuiltin,opLen,PV.sk,scalBin,scalUn,intBin,opLoad,natOf,opConvert,opField,cellsP,oneP,Value.oneCell',opStore,toIV,scalT,scalA,scalC,boxesA,boxesC,zipB_none,zipB_mx,isZ,opZip,zeroP,opAppendZ,opMakeMap,opLookup,mboxB,opUpdate,↓reduceIte,Nat.reduceSub,Nat.reduceEqDiff,Nat.reduceAdd,Nat.reduceMul,Nat.reduceLT,Nat.reduceLeDiff,Int.reduceToNat,Int.reduceLE,Int.reduceLT,Int.reduceNeg,reduceCtorEq,zzR,gos,Int.reduceAdd,Int.reduceSub,Int.reduceMul,Int.reduceEq,List.take_length,e1])
      · have c0':¬ (a.length:Int)=(b.length:Int):=by omega
        refine X_startP (n:=47) (m:=3) (rs:=[.tmp 6,.tmp 7]) Try.func75 rfl rfl rfl rfl (by decide) fun base => ?_
        repeat (first|((first|refine X_call_fn2 rfl (by simp only [tys]) ?_|refine X_dcall_fn2 rfl (by simp only [tys]) ?_); apply Exists.intro; apply And.intro; (focus (simp -dsimp only [simx,zzC,zzB,tys,ite_self,opnL,callB,callX,readsB,stepOp,nilCmp,ofVal,opBuiltin,opLen,PV.sk,scalBin,scalUn,intBin,opLoad,natOf,opConvert,opField,cellsP,oneP,Value.oneCell',opStore,toIV,scalT,scalA,scalC,boxesA,boxesC,zipB_none,zipB_mx,isZ,opZip,zeroP,opAppendZ,opMakeMap,opLookup,mboxB,opUpdate,↓reduceIte,Nat.reduceSub,Nat.reduceEqDiff,Nat.reduceAdd,Nat.reduceMul,Nat.reduceLT,Nat.reduceLeDiff,Int.reduceToNat,Int.reduceLE,Int.reduceLT,Int.reduceNeg,reduceCtorEq,zzL,if_true,if_false] <;> rfl)); apply Exists.intro; apply And.intro; (focus (first|exact r1|exact r2)))|refine X_opc rfl ?_|refine X_dopc rfl ?_|refine ⟨(by show drawK _ _=true; kernel_rfl:drawX _ _ _),?_⟩|exact (by show drawK _ _=true; kernel_rfl:drawX _ _ _)|simp -dsimp (maxSteps:=20000000) (disch:=omega) only [simx,zzC,zzB,tys,ite_self,opnL,callB,callX,readsB,stepOp,nilCmp,ofVal,opBuiltin,opLen,PV.sk,scalBin,scalUn,intBin,opLoad,natOf,opConvert,opField,cellsP,oneP,Value.oneCell',opStore,toIV,scalT,scalA,scalC,boxesA,boxesC,zipB_none,zipB_mx,isZ,opZip,zeroP,opAppendZ,opMakeMap,opLookup,mboxB,opUpdate,↓reduceIte,Nat.reduceSub,Nat.reduceEqDiff,Nat.reduceAdd,Nat.reduceMul,Nat.reduceLT,Nat.reduceLeDiff,Int.reduceToNat,Int.reduceLE,Int.reduceLT,Int.reduceNeg,reduceCtorEq,zzR,gos,Int.reduceAdd,Int.reduceSub,Int.reduceMul,Int.reduceEq,c0])
end Go.Proofs.Ytmalpmnmknpphaa.TM
namespace Go.Proofs.Ytmalpmnmknpphaa.TM
open Go Go.RowKit
attribute [local irreducible] K W WOps Effs Xg Xo Xr Xdg Xdo Xdr Xif CallsP CallR
theorem side_walk (n:Int):CallsP Try.prog 65 [i64 n] (bl (SideB n)):=by
  by_cases c1:1 ≤ n
  · by_cases c2:n ≤ 64
    · rw [show SideB n=true by simp [SideB,c1,c2]]
      refine X_startP (n:=9) (m:=1) (rs:=[.tmp 2]) Try.func65 rfl rfl rfl rfl (by decide) fun base => ?_
      repeat (first|refine X_opc rfl ?_|refine X_dopc rfl ?_|refine ⟨(by show drawK _ _=true; kernel_rfl:drawX _ _ _),?_⟩|exact (by show drawK _ _=true; kernel_rfl:drawX _ _ _)|simp -dsimp (maxSteps:=20000000) (disch:=omega) only [simx,zzC,zzB,tys,ite_self,opnL,callB,callX,readsB,stepOp,nilCmp,ofVal,opBuiltin,opLen,PV.sk,scalBin,scalUn,intBin,opLoad,natOf,opConvert,opField,cellsP,oneP,Value.oneCell',opStore,toIV,scalT,scalA,scalC,boxesA,boxesC,zipB_none,zipB_mx,isZ,opZip,zeroP,opAppendZ,opMakeMap,opLookup,mboxB,opUpdate,↓reduceIte,Nat.reduceSub,Nat.reduceEqDiff,Nat.reduceAdd,Nat.reduceMul,Nat.reduceLT,Nat.reduceLeDiff,Int.reduceToNat,Int.reduceLE,Int.reduceLT,Int.reduceNeg,reduceCtorEq,zzR,gos,Int.reduceAdd,Int.reduceSub,Int.reduceMul,Int.reduceEq])
    · rw [show SideB n=false by simp [SideB,c2]]
      refine X_startP (n:=9) (m:=1) (rs:=[.tmp 2]) Try.func65 rfl rfl rfl rfl (by decide) fun base => ?_
      repeat (first|refine X_opc rfl ?_|refine X_dopc rfl ?_|refine ⟨(by show drawK _ _=true; kernel_rfl:drawX _ _ _),?_⟩|exact (by show drawK _ _=true; kernel_rfl:drawX _ _ _)|simp -dsimp (maxSteps:=20000000) (disch:=omega) only [simx,zzC,zzB,tys,ite_self,opnL,callB,callX,readsB,stepOp,nilCmp,ofVal,opBuiltin,opLen,PV.sk,scalBin,scalUn,intBin,opLoad,natOf,opConvert,opField,cellsP,oneP,Value.oneCell',opStore,toIV,scalT,scalA,scalC,boxesA,boxesC,zipB_none,zipB_mx,isZ,opZip,zeroP,opAppendZ,opMakeMap,opLookup,mboxB,opUpdate,↓reduceIte,Nat.reduceSub,Nat.reduceEqDiff,Nat.reduceAdd,Nat.reduceMul,Nat.reduceLT,Nat.reduceLeDiff,Int.reduceToNat,Int.reduceLE,Int.reduceLT,Int.reduceNeg,reduceCtorEq,zzR,gos,Int.reduceAdd,Int.reduceSub,Int.reduceMul,Int.reduceEq])
  · rw [show SideB n=false by simp [SideB,c1]]
    refine X_startP (n:=9) (m:=1) (rs:=[.tmp 2]) Try.func65 rfl rfl rfl rfl (by decide) fun base => ?_
    repeat (first|refine X_opc rfl ?_|refine X_dopc rfl ?_|refine ⟨(by show drawK _ _=true; kernel_rfl:drawX _ _ _),?_⟩|exact (by show drawK _ _=true; kernel_rfl:drawX _ _ _)|simp -dsimp (maxSteps:=20000000) (disch:=omega) only [simx,zzC,zzB,tys,ite_self,opnL,callB,callX,readsB,stepOp,nilCmp,ofVal,opBuiltin,opLen,PV.sk,scalBin,scalUn,intBin,opLoad,natOf,opConvert,opField,cellsP,oneP,Value.oneCell',opStore,toIV,scalT,scalA,scalC,boxesA,boxesC,zipB_none,zipB_mx,isZ,opZip,zeroP,opAppendZ,opMakeMap,opLookup,mboxB,opUpdate,↓reduceIte,Nat.reduceSub,Nat.reduceEqDiff,Nat.reduceAdd,Nat.reduceMul,Nat.reduceLT,Nat.reduceLeDiff,Int.reduceToNat,Int.reduceLE,Int.reduceLT,Int.reduceNeg,reduceCtorEq,zzR,gos,Int.reduceAdd,Int.reduceSub,Int.reduceMul,Int.reduceEq])
theorem mright_walk (p r c:Int) (l:List Int) (hl:l.length ≤ maxLen):CallsP Try.prog 23 [u64 p,matP r c l] (bl (MatB p r c l)):=by
  have s1:=side_walk r
  have s2:=side_walk c
  have h:=has_walk p l hl
  rw [mx_len] at hl
  unfold MatB
  cases h1:SideB r with
  | false =>
    rw [h1] at s1
    refine X_startP (n:=30) (m:=2) (rs:=[.tmp 4]) Try.func23 rfl rfl rfl rfl (by decide) fun base => ?_
    repeat (first|((first|refine X_call_fn2 rfl (by simp only [tys]) ?_|refine X_dcall_fn2 rfl (by simp only [tys]) ?_); apply Exists.intro; apply And.intro; (focus (simp -dsimp only [simx,zzC,zzB,tys,ite_self,opnL,callB,callX,readsB,stepOp,nilCmp,ofVal,opBuiltin,opLen,PV.sk,scalBin,scalUn,intBin,opLoad,natOf,opConvert,opField,cellsP,oneP,Value.oneCell',opStore,toIV,scalT,scalA,scalC,boxesA,boxesC,zipB_none,zipB_mx,isZ,opZip,zeroP,opAppendZ,opMakeMap,opLookup,mboxB,opUpdate,↓reduceIte,Nat.reduceSub,Nat.reduceEqDiff,Nat.reduceAdd,Nat.reduceMul,Nat.reduceLT,Nat.reduceLeDiff,Int.reduceToNat,Int.reduceLE,Int.reduceLT,Int.reduceNeg,reduceCtorEq,zzL,if_true,if_false] <;> rfl)); apply Exists.intro; apply And.intro; (focus (first|exact s1)))|refine X_opc rfl ?_|refine X_dopc rfl ?_|refine ⟨(by show drawK _ _=true; kernel_rfl:drawX _ _ _),?_⟩|exact (by show drawK _ _=true; kernel_rfl:drawX _ _ _)|simp -dsimp (maxSteps:=20000000) (disch:=omega) only [simx,zzC,zzB,tys,ite_self,opnL,callB,callX,readsB,stepOp,nilCmp,ofVal,opBuiltin,opLen,PV.sk,scalBin,scalUn,intBin,opLoad,natOf,opConvert,opField,cellsP,oneP,Value.oneCell',opStore,toIV,scalT,scalA,scalC,boxesA,boxesC,zipB_none,zipB_mx,isZ,opZip,zeroP,opAppendZ,opMakeMap,opLookup,mboxB,opUpdate,↓reduceIte,Nat.reduceSub,Nat.reduceEqDiff,Nat.reduceAdd,Nat.reduceMul,Nat.reduceLT,Nat.reduceLeDiff,Int.reduceToNat,Int.reduceLE,Int.reduceLT,Int.reduceNeg,reduceCtorEq,zzR,gos,Int.reduceAdd,Int.reduceSub,Int.reduceMul,Int.reduceEq])
  | true =>
    rw [h1] at s1
    cases h2:SideB c with
    | false =>
      rw [h2] at s2
      refine X_startP (n:=30) (m:=2) (rs:=[.tmp 4]) Try.func23 rfl rfl rfl rfl (by decide) fun base => ?_
      repeat (first|((first|refine X_call_fn2 rfl (by simp only [tys]) ?_|refine X_dcall_fn2 rfl (by simp only [tys]) ?_); apply Exists.intro; apply And.intro; (focus (simp -dsimp only [simx,zzC,zzB,tys,ite_self,opnL,callB,callX,readsB,stepOp,nilCmp,ofVal,opBuiltin,opLen,PV.sk,scalBin,scalUn,intBin,opLoad,natOf,opConvert,opField,cellsP,oneP,Value.oneCell',opStore,toIV,scalT,scalA,scalC,boxesA,boxesC,zipB_none,zipB_mx,isZ,opZip,zeroP,opAppendZ,opMakeMap,opLookup,mboxB,opUpdate,↓reduceIte,Nat.reduceSub,Nat.reduceEqDiff,Nat.reduceAdd,Nat.reduceMul,Nat.reduceLT,Nat.reduceLeDiff,Int.reduceToNat,Int.reduceLE,Int.reduceLT,Int.reduceNeg,reduceCtorEq,zzL,if_true,if_false] <;> rfl)); apply Exists.intro; apply And.intro; (focus (first|exact s1|exact s2)))|refine X_opc rfl ?_|refine X_dopc rfl ?_|refine ⟨(by show drawK _ _=true; kernel_rfl:drawX _ _ _),?_⟩|exact (by show drawK _ _=true; kernel_rfl:drawX _ _ _)|simp -dsimp (maxSteps:=20000000) (disch:=omega) only [simx,zzC,zzB,tys,ite_self,opnL,callB,callX,readsB,stepOp,nilCmp,ofVal,opBuiltin,opLen,PV.sk,scalBin,scalUn,intBin,opLoad,natOf,opConvert,opField,cellsP,oneP,Value.oneCell',opStore,toIV,scalT,scalA,scalC,boxesA,boxesC,zipB_none,zipB_mx,isZ,opZip,zeroP,opAppendZ,opMakeMap,opLookup,mboxB,opUpdate,↓reduceIte,Nat.reduceSub,Nat.reduceEqDiff,Nat.reduceAdd,Nat.reduceMul,Nat.reduceLT,Nat.reduceLeDiff,Int.reduceToNat,Int.reduceLE,Int.reduceLT,Int.reduceNeg,reduceCtorEq,zzR,gos,Int.reduceAdd,Int.reduceSub,Int.reduceMul,Int.reduceEq])
    | true =>
      rw [h2] at s2
      rw [side_iff] at h1 h2
      obtain ⟨a1,a2⟩:=h1
      obtain ⟨b1,b2⟩:=h2
      have m:=mul_bd (a:=r) (b:=c) (m:=64) (n:=64) (by omega) (by omega) a2 b2
      have e:IntKind.i64.wrap (r * c)=r * c:=iw_of (by omega) (by omega)
      by_cases h3:(l.length:Int)=r * c
      · rw [decide_eq_true h3]
        refine X_startP (n:=30) (m:=2) (rs:=[.tmp 4]) Try.func23 rfl rfl rfl rfl (by decide) fun base => ?_
        repeat (first|((first|refine X_call_fn2 rfl (by simp only [tys]) ?_|refine X_dcall_fn2 rfl (by simp only [tys]) ?_); apply Exists.intro; apply And.intro; (focus (simp -dsimp only [simx,zzC,zzB,tys,ite_self,opnL,callB,callX,readsB,stepOp,nilCmp,ofVal,opBuiltin,opLen,PV.sk,scalBin,scalUn,intBin,opLoad,natOf,opConvert,opField,cellsP,oneP,Value.oneCell',opStore,toIV,scalT,scalA,scalC,boxesA,boxesC,zipB_none,zipB_mx,isZ,opZip,zeroP,opAppendZ,opMakeMap,opLookup,mboxB,opUpdate,↓reduceIte,Nat.reduceSub,Nat.reduceEqDiff,Nat.reduceAdd,Nat.reduceMul,Nat.reduceLT,Nat.reduceLeDiff,Int.reduceToNat,Int.reduceLE,Int.reduceLT,Int.reduceNeg,reduceCtorEq,zzL,if_true,if_false] <;> rfl)); apply Exists.intro; apply And.intro; (focus (first|exact s1|exact s2|exact h)))|refine X_opc rfl ?_|refine X_dopc rfl ?_|refine ⟨(by show drawK _ _=true; kernel_rfl:drawX _ _ _),?_⟩|exact (by show drawK _ _=true; kernel_rfl:drawX _ _ _)|simp -dsimp (maxSteps:=20000000) (disch:=omega) only [simx,zzC,zzB,tys,ite_self,opnL,callB,callX,readsB,stepOp,nilCmp,ofVal,opBuiltin,opLen,PV.sk,scalBin,scalUn,intBin,opLoad,natOf,opConvert,opField,cellsP,oneP,Value.oneCell',opStore,toIV,scalT,scalA,scalC,boxesA,boxesC,zipB_none,zipB_mx,isZ,opZip,zeroP,opAppendZ,opMakeMap,opLookup,mboxB,opUpdate,↓reduceIte,Nat.reduceSub,Nat.reduceEqDiff,Nat.reduceAdd,Nat.reduceMul,Nat.reduceLT,Nat.reduceLeDiff,Int.reduceToNat,Int.reduceLE,Int.reduceLT,Int.reduceNeg,reduceCtorEq,zzR,gos,Int.reduceAdd,Int.reduceSub,Int.reduceMul,Int.reduceEq,e])
      · rw [decide_eq_false h3]
        refine X_startP (n:=30) (m:=2) (rs:=[.tmp 4]) Try.func23 rfl rfl rfl rfl (by decide) fun base => ?_
        repeat (first|((first|refine X_call_fn2 rfl (by simp only [tys]) ?_|refine X_dcall_fn2 rfl (by simp only [tys]) ?_); apply Exists.intro; apply And.intro; (focus (simp -dsimp only [simx,zzC,zzB,tys,ite_self,opnL,callB,callX,readsB,stepOp,nilCmp,ofVal,opBuiltin,opLen,PV.sk,scalBin,scalUn,intBin,opLoad,natOf,opConvert,opField,cellsP,oneP,Value.oneCell',opStore,toIV,scalT,scalA,scalC,boxesA,boxesC,zipB_none,zipB_mx,isZ,opZip,zeroP,opAppendZ,opMakeMap,opLookup,mboxB,opUpdate,↓reduceIte,Nat.reduceSub,Nat.reduceEqDiff,Nat.reduceAdd,Nat.reduceMul,Nat.reduceLT,Nat.reduceLeDiff,Int.reduceToNat,Int.reduceLE,Int.reduceLT,Int.reduceNeg,reduceCtorEq,zzL,if_true,if_false] <;> rfl)); apply Exists.intro; apply And.intro; (focus (first|exact s1|exact s2|exact h)))|refine X_opc rfl ?_|refine X_dopc rfl ?_|refine ⟨(by show drawK _ _=true; kernel_rfl:drawX _ _ _),?_⟩|exact (by show drawK _ _=true; kernel_rfl:drawX _ _ _)|simp -dsimp (maxSteps:=20000000) (disch:=omega) only [simx,zzC,zzB,tys,ite_self,opnL,callB,callX,readsB,stepOp,nilCmp,ofVal,opBuiltin,opLen,PV.sk,scalBin,scalUn,intBin,opLoad,natOf,opConvert,opField,cellsP,oneP,Value.oneCell',opStore,toIV,scalT,scalA,scalC,boxesA,boxesC,zipB_none,zipB_mx,isZ,opZip,zeroP,opAppendZ,opMakeMap,opLookup,mboxB,opUpdate,↓reduceIte,Nat.reduceSub,Nat.reduceEqDiff,Nat.reduceAdd,Nat.reduceMul,Nat.reduceLT,Nat.reduceLeDiff,Int.reduceToNat,Int.reduceLE,Int.reduceLT,Int.reduceNeg,reduceCtorEq,zzR,gos,Int.reduceAdd,Int.reduceSub,Int.reduceMul,Int.reduceEq,e])
end Go.Proofs.Ytmalpmnmknpphaa.TM
namespace Go.Proofs.Ytmalpmnmknpphaa.TM
open Go Go.RowKit
def tbl (n:Nat) (f:Nat → Int):List Int:=(List.range n).map f
theorem tbl_len (n:Nat) (f:Nat → Int):(tbl n f).length=n:=by simp [tbl]
theorem tbl_get? {n:Nat} (f:Nat → Int) {i:Nat} (h:i < n):(tbl n f)[i]?=some (f i):=by unfold tbl; rw [List.getElem?_map,List.getElem?_range h]; rfl
theorem tbl_getD {n:Nat} (f:Nat → Int) {i:Nat} (h:i < n):(tbl n f).getD i 0=f i:=by rw [List.getD_eq_getElem?_getD,tbl_get? f h]; rfl
theorem tbl_succ (n:Nat) (f:Nat → Int):tbl (n + 1) f=tbl n f ++ [f n]:=by unfold tbl; rw [List.range_succ,List.map_append]; rfl
theorem tbl_congr {n:Nat} {f g:Nat → Int} (h:∀ i,i < n → f i=g i):tbl n f=tbl n g:=by
  unfold tbl
  exact List.map_congr_left fun i hi => h i (List.mem_range.1 hi)
theorem tbl_of {n:Nat} {l:List Int} (h:l.length=n):l=tbl n (fun i => l.getD i 0):=by
  apply List.ext_getElem?
  intro i
  by_cases hi:i < n
  · rw [tbl_get? _ hi,List.getD_eq_getElem?_getD,List.getElem?_eq_getElem (by omega)]; rfl
  · rw [List.getElem?_eq_none (by omega),List.getElem?_eq_none (by rw [tbl_len]; omega)]
theorem tbl_mem {n:Nat} {f:Nat → Int} {a:Int} (h:a ∈ tbl n f):∃ i,i < n ∧ f i=a:=by
  unfold tbl at h
  obtain ⟨i,hi,e⟩:=List.mem_map.1 h
  exact ⟨i,List.mem_range.1 hi,e⟩
end Go.Proofs.Ytmalpmnmknpphaa.TM
namespace Go.Proofs.Ytmalpmnmknpphaa.TM
open Go Go.RowKit
attribute [local irreducible] K W WOps Effs Xg Xo Xr Xdg Xdo Xdr Xif CallsP CallR
theorem Mul_in {p a b:Int} (hp:Md p) (ha:In p a) (hb:In p b):CallsP Try.prog 79 [u64 p,u64 a,u64 b] (.tup [u64 (a * b % p),i64 0]):=by
  have h:=Mul_walk p a b ⟨ha.1,by have:=ha.2; have:=hp.2; omega⟩ ⟨hb.1,by have:=hb.2; have:=hp.2; omega⟩
  rw [twoR,if_pos ((has_iff p _).2 ⟨fun x hx => by simp at hx; rcases hx with rfl|rfl; exact ha.2; exact hb.2,hp.1,hp.2⟩)] at h
  exact h
theorem Sub_in {p a b:Int} (hp:Md p) (ha:In p a) (hb:In p b):CallsP Try.prog 61 [u64 p,u64 a,u64 b] (.tup [u64 ((a - b) % p),i64 0]):=by
  have h:=Sub_walk p a b ⟨ha.1,by have:=ha.2; have:=hp.2; omega⟩ ⟨hb.1,by have:=hb.2; have:=hp.2; omega⟩
  rw [twoR,if_pos ((has_iff p _).2 ⟨fun x hx => by simp at hx; rcases hx with rfl|rfl; exact ha.2; exact hb.2,hp.1,hp.2⟩)] at h
  exact h
theorem in_emod {p:Int} (hp:Md p) (a:Int):In p (a % p):=⟨Int.emod_nonneg _ (by have:=hp.1; omega),Int.emod_lt_of_pos _ (by have:=hp.1; omega)⟩
def lessV (p c:Int) (x y:List Int):List Int:=tbl x.length (fun i => (x.getD i 0 - c * y.getD i 0 % p) % p)
theorem lessV_len (p c:Int) (x y:List Int):(lessV p c x y).length=x.length:=tbl_len ..
theorem lessV_get (p c:Int) (x y:List Int) {i:Nat} (h:i < x.length):(lessV p c x y).getD i 0=(x.getD i 0 - c * y.getD i 0 % p) % p:=tbl_getD _ h
theorem lessV_in {p:Int} (hp:Md p) (c:Int) (x y:List Int):∀ a ∈ lessV p c x y,In p a:=fun a ha => by
  obtain ⟨i,hi,rfl⟩:=tbl_mem ha
  exact in_emod hp _
theorem getD_some {l:List Int} {i n:Nat} (hl:l.length=n) (h:i < n):l[i]?=some (l.getD i 0):=by rw [List.getD_eq_getElem?_getD,List.getElem?_eq_getElem (by omega)]; rfl
theorem getD_of {p:Int} {l:List Int} (hi:∀ a ∈ l,In p a) {i:Nat} (h:i < l.length):In p (l.getD i 0):=by
  rw [List.getD_eq_getElem?_getD,List.getElem?_eq_getElem h]; exact hi _ (List.getElem_mem h)
end Go.Proofs.Ytmalpmnmknpphaa.TM
namespace Go.Proofs.Ytmalpmnmknpphaa.TM
open Go
section
variable {P:Program} {C:CallRel} {h0:Heap} {base:Name} {Qf:Ex → List PV → Heap → Prop} {k:List It} {t:List PV} {h:Heap}
theorem Xdr_eq {r : Option Out} {out : Out} {d : Option Tmp} {p : Op} {nm : Name} {id : Nat} {ops : Array Oper} {ds : List (Option Tmp)} {i : Nat} {os : List Oper} {pf : XPf ops ds i os} {acc : List Keys} (hr : r = some out)
    (hk:K P C h0 base Qf (.xdops id ops ds i os pf ((keysU out.ups,keysT nm p ((opnL p).map (St.opnd t)))::acc)::k) .normal (putT t d out.val) (h.ups out.ups)):Xdr P C h0 base Qf r d p nm (mkD id ops ds i os pf) acc k t h:=by
  subst hr; exact hk
theorem X_dappend_one {d : Option Tmp} {p : Op} {nm : Name} {id : Nat} {ops : Array Oper} {ds : List (Option Tmp)} {i : Nat} {os : List Oper} {pf : XPf ops ds i os} {acc : List Keys} {s b : Name} {ty : TypeId} (e : TypeId) (zs : List Value) {n z : Nat} {cs : List IV} (xs : List IV) {fz : Bool}
    (he:elemB P ty=some e) (hz:zeroB P e=some zs) (hzl:zs.length=z) (hz0:0 < z) (hn:cs.length=n * z) (hs:h s=if n=0 then none else some (.row false cs)) (hb:h b=some (.row fz xs)) (hx:xs.length=z)
    (hby:(n + 1) * P.bytesOf e ≤ 140737488355328) (hl:n + 1 ≤ maxLen)
    (hk:K P C h0 base Qf (.xdops id ops ds i os pf ((keysU [(s,Box.row false (cs ++ xs))],keysT nm p ((opnL p).map (St.opnd t)))::acc)::k) .normal (putT t d (rowP s z (n + 1) (cs ++ xs))) (h.put s (.row false (cs ++ xs)))) :
    Xdr P C h0 base Qf (opAppend P h s ty (rowP s z n cs) (.view b 0 z 1 z)) d p nm (mkD id ops ds i os pf) acc k t h:=by
  refine Xdr_eq (append_row he hz hzl hz0 hn hs rfl (m:=1) rfl (by decide) (xs:=xs) ?_ hby hl) hk
  simp only [SK.cells,hb,hx,Nat.zero_add,Nat.one_mul,Nat.le_refl,and_self,if_true,List.drop_zero]
  rw [← hx,List.take_length]
theorem X_append_own {R : It} {d : Option Tmp} {s b bx : Name} {ty : TypeId} (e : TypeId) (zs : List Value) {n z top : Nat} {cs : List IV} (xs : List IV) {fz : Bool}
    (he:elemB P ty=some e) (hz:zeroB P e=some zs) (hzl:zs.length=z) (hz0:0 < z) (hb:h b=some (.row false cs)) (ht:top=cs.length) (hn:cs.length=n * z) (hx:h bx=some (.row fz xs)) (hxl:xs.length=z)
    (hby:(n + 1) * P.bytesOf e ≤ 140737488355328) (hl:n + 1 ≤ maxLen)
    (hk:K P C h0 base Qf (R::k) .normal (putT t d (.view b 0 z (n + 1) (cs ++ xs).length)) (h.put b (.row false (cs ++ xs)))) :
    Xr P C h0 base Qf (opAppend P h s ty (.view b 0 z n top) (.view bx 0 z 1 z)) d R k t h:=by
  subst ht
  subst hzl
  refine Xr_eq (out:=⟨.view b 0 zs.length (n + 1) (cs ++ xs).length,[(b,.row false (cs ++ xs))]⟩) ?_ hk
  unfold opAppend
  rw [he]
  simp only [hz]
  simp only [show (PV.view b 0 zs.length n cs.length).sk=some (SK.own b 0 zs.length n cs.length) from rfl,show (PV.view bx 0 zs.length 1 zs.length).sk=some (SK.own bx 0 zs.length 1 zs.length) from rfl,SK.cells,SK.len,hx,hxl,Nat.zero_add,Nat.one_mul,Nat.le_refl,and_self,if_true,List.drop_zero]
  rw [← hxl,List.take_length,if_pos ⟨hxl ▸ hz0,hby,hl⟩,if_neg (by omega),hb]
  simp only [hxl,hn,and_self,if_true,true_and]
theorem X_call_shared {id : Nat} {ops : Array Oper} {ds : List (Option Tmp)} {i : Nat} {d : Option Tmp} {p : Op} {ty : TypeId} {ps : String} {af : Array Edge} {g0 : Option (Nat × Bool)} {os : List Oper} {pf : XPf ops ds i ({ dst := d, op := p, type := ty, pos := ps, after := af, guard := g0 } :: os)} {c : Call} {g : FuncId} {args : List PV} {v : PV} {h' : Heap}
    (hs:CallR P ((id,i)::base) g args h v h') (ho:p=.call c) (hcal:calleeOf t c=some (g,args)) (he:enterB P g=true)
    (hk:K P (CallR P) h0 base Qf (.xops id ops (d::ds) (i + 1) os ⟨pf.h.step⟩::k) .normal (putT t d v) h') :
    K P (CallR P) h0 base Qf (.xcall id ops ds i { dst:=d,op:=p,type:=ty,pos:=ps,after:=af,guard:=g0 } os pf::k) .normal t h :=
  K_call_shared (i:=i) (ops:=ops) (id:=id) (os:=os) (o:={ dst:=d,op:=p,type:=ty,pos:=ps,after:=af,guard:=g0 }) hs ho hcal he hk
theorem keysL_row0 (s:Name) (z:Nat) (cs:List IV) (ps:List PV):keysL (rowP s z 0 cs::ps)=keysL ps:=rfl
theorem keysL_rowS (s:Name) (z n:Nat) (cs:List IV) (ps:List PV):keysL (rowP s z (n + 1) cs::ps)=keyN s::keysL ps:=rfl
end
end Go.Proofs.Ytmalpmnmknpphaa.TM
namespace Go.Proofs.Ytmalpmnmknpphaa.TM
open Go Go.RowKit
attribute [local irreducible] K W WOps Effs Xg Xo Xr Xdg Xdo Xdr Xif CallsP CallR
theorem X_app_full {P : Program} {C : CallRel} {h h0 : Heap} {base : Name} {Qf : Ex → List PV → Heap → Prop} {k : List It} {t : List PV} {R : It} {d : Option Tmp} {s b : Name} {ty : TypeId} (e : TypeId) (zs : List Value) {n m : Nat} {cs : List IV} (xs : List IV)
    (he:elemB P ty=some e) (hz:zeroB P e=some zs) (hzl:zs.length=1) (hb:h b=some (.row false cs)) (hl:cs.length=n) (hm:0 < m) (hx:xs.length=m)
    (hby:(n + m) * P.bytesOf e ≤ 140737488355328) (hmx:n + m ≤ maxLen)
    (hk:K P C h0 base Qf (R::k) .normal (putT t d (.view b 0 1 (n + m) (n + m))) (h.put b (.row false (cs ++ xs)))) :
    Xr P C h0 base Qf (opAppend P h s ty (.view b 0 1 n n) (.i (.l m xs))) d R k t h:=by
  refine Xr_eq (out:=⟨.view b 0 1 (n + m) (n + m),[(b,.row false (cs ++ xs))]⟩) ?_ hk
  have h1:¬ m=0:=by omega
  subst hl
  simp only [opAppend,he,hz,hzl,PV.sk,SK.cells,SK.len,hx,hb,Nat.mul_one,if_true,h1,if_false,hby,hmx,Nat.zero_lt_one,and_self,true_and,List.length_append]
def nzA:List Int → Nat → Int
  | [],_ => -1
  | a::l,k => if a=0 then nzA l (k + 1) else k
end Go.Proofs.Ytmalpmnmknpphaa.TM
namespace Go.Proofs.Ytmalpmnmknpphaa.TM
open Go Go.RowKit
def finvC (p a:Int):Int:=match (List.range p.toNat).find? (fun x:Nat => a * (x:Int) % p == 1) with
  | some x => (x:Int)
  | none => 0
theorem finv_c (p a:Int):finv p a=finvC p a:=by
  unfold finvC
  cases h:(List.range p.toNat).find? (fun x:Nat => a * (x:Int) % p == 1) with
  | some x =>
    have h1:=List.find?_some h
    have h2:=List.mem_range.1 (List.mem_of_find?_eq_some h)
    show finv p a=(x:Int)
    exact finv_spec ⟨by omega,by omega⟩ (by simpa using h1)
  | none =>
    have h1:=List.find?_eq_none.1 h
    unfold finv
    rw [dif_neg]
    · rintro ⟨x,hx,hm⟩
      have h0:=hx.1
      have h2:=hx.2
      have:=h1 x.toNat (List.mem_range.2 (by omega))
      rw [show ((x.toNat:Nat):Int)=x by have:=hx.1; omega,hm] at this
      simp at this
theorem finvC_in {p a:Int} (hp2:2 ≤ p) (hp:p < 9223372036854775808) (ha:In p a) (h:Int.gcd p a=1):In p (finvC p a) ∧ a * finvC p a % p=1:=by
  rw [← finv_c]; exact finv_in hp2 hp ha h
structure Tk where
  rows:List Int
  cols:List Int
  cs:List (List Int)
  us:List (List Int)
  vs:List Int
def elR (p:Int) (T:Tk) (row:List Int):Nat → List Int
  | 0 => row
  | k + 1 => lessV p ((elR p T row k).getD (T.cols.getD k 0).toNat 0 * T.vs.getD k 0 % p) (elR p T row k) (T.us.getD k [])
def elX (p:Int) (T:Tk) (row:List Int) (k:Nat):Int:=(elR p T row k).getD (T.cols.getD k 0).toNat 0 * T.vs.getD k 0 % p
theorem elR_succ (p:Int) (T:Tk) (row:List Int) (k:Nat):elR p T row (k + 1)=lessV p (elX p T row k) (elR p T row k) (T.us.getD k []):=rfl
theorem elR_len (p:Int) (T:Tk) (row:List Int):∀ k,(elR p T row k).length=row.length
  | 0 => rfl
  | k + 1 => by rw [elR_succ,lessV_len,elR_len p T row k]
theorem elR_in {p:Int} (hp:Md p) (T:Tk) {row:List Int} (h:∀ a ∈ row,In p a):∀ k,∀ a ∈ elR p T row k,In p a
  | 0 => h
  | k + 1 => by rw [elR_succ]; exact lessV_in hp _ _ _
theorem elX_in {p:Int} (hp:Md p) (T:Tk) (row:List Int) (k:Nat):In p (elX p T row k):=in_emod hp _
def rstT (p:Int) (T:Tk) (row:List Int):List Int:=elR p T row T.us.length
def xsT (p:Int) (T:Tk) (row:List Int):List Int:=tbl T.us.length (elX p T row)
def tkRow (p:Int) (T:Tk) (i:Int) (row:List Int):Tk :=
  if nzA (rstT p T row) 0 < 0 then { T with cs:=T.cs ++ [xsT p T row] } else
  { rows:=T.rows ++ [i],cols:=T.cols ++ [nzA (rstT p T row) 0],cs:=T.cs ++ [xsT p T row ++ [1]],us:=T.us ++ [rstT p T row],vs:=T.vs ++ [finvC p ((rstT p T row).getD (nzA (rstT p T row) 0).toNat 0)] }
def tkN (p:Int) (C:Nat) (l:List Int):Nat → Tk
  | 0 => ⟨[],[],[],[],[]⟩
  | i + 1 => tkRow p (tkN p C l i) i (rowM C l i)
structure TkI (p:Int) (C i:Nat) (T:Tk):Prop where
  rl:T.rows.length=T.us.length
  ql:T.cols.length=T.us.length
  vl:T.vs.length=T.us.length
  cl:T.cs.length=i
  ri:T.us.length ≤ i
  rb:∀ a ∈ T.rows,0 ≤ a ∧ a < i
  qb:∀ a ∈ T.cols,0 ≤ a ∧ a < C
  ul:∀ u ∈ T.us,u.length=C ∧ ∀ a ∈ u,In p a
  vb:∀ a ∈ T.vs,In p a
  cb:∀ c ∈ T.cs,c.length ≤ T.us.length ∧ ∀ a ∈ c,In p a
theorem TkI.zero (p:Int) (C:Nat):TkI p C 0 ⟨[],[],[],[],[]⟩:=⟨rfl,rfl,rfl,rfl,Nat.le_refl _,by simp,by simp,by simp,by simp,by simp⟩
theorem nzA_spec:∀ (l:List Int) (k:Nat),(nzA l k=-1 ∧ ∀ a ∈ l,a=0) ∨ ∃ n:Nat,nzA l k=((k + n:Nat):Int) ∧ n < l.length ∧ l.getD n 0 ≠ 0 ∧ ∀ j,j < n → l.getD j 0=0
  | [],k => .inl ⟨rfl,by simp⟩
  | a::l,k => by
    by_cases h:a=0
    · rcases nzA_spec l (k + 1) with ⟨h1,h2⟩|⟨n,h1,h2,h3,h4⟩
      · left; rw [nzA,if_pos h]; exact ⟨h1,by intro b hb; rcases List.mem_cons.1 hb with rfl|hb; exact h; exact h2 b hb⟩
      · right
        refine ⟨n + 1,by rw [nzA,if_pos h,h1]; congr 1; omega,by simpa using h2,by simpa using h3,?_⟩
        intro j hj
        cases j with
        | zero => simpa using h
        | succ j => simpa using h4 j (by omega)
    · right
      exact ⟨0,by rw [nzA,if_neg h]; rfl,by simp,by simpa using h,by intro j hj; omega⟩
end Go.Proofs.Ytmalpmnmknpphaa.TM
namespace Go.Proofs.Ytmalpmnmknpphaa.TM
open Go
theorem X_startE {P : Program} {base : Name} {f : FuncId} {fn : Func} {c : Code} {args : List PV} {h : Heap} {v : PV} {Φ : Heap → Prop} {n m : Nat} {rs : List ResultVar} (hf : P.funcs[f]? = some fn) (hb : fn.body = some c) (hn : fn.ntmps = n) (hrs : fn.results.toList = rs) (hm : args.length = m) (hmn : m ≤ n)
    (hw:K P (CallR P) h base (LkQ (fun e t hh => (e=.normal ∨ e=.ret) ∧ resB P rs t hh=some v ∧ Φ hh) .mk) [.lk c .mk] .normal (toL n (argsF args)) h):∃ h',CallR P base f args h v h' ∧ Φ h':=by
  obtain ⟨e,t',h',⟨he,hr,hp⟩,hw'⟩:=W_point c _ _ (show W P (CallR P) h base c (toL n (argsF args)) h _ from hw)
  refine ⟨h',CallR.startF (v:=v) hf hb hn hrs hm hmn ?_,hp⟩
  show W P (CallR P) h base c (toL n (argsF args)) h _
  refine W_mono (fun _ _ _ _ _ _ h => h) c _ _ (fun e2 t2 h2 hh => ?_) hw'
  obtain ⟨rfl,rfl,rfl⟩:=hh
  exact ⟨he,hr,rfl⟩
end Go.Proofs.Ytmalpmnmknpphaa.TM
namespace Go.Proofs.Ytmalpmnmknpphaa.TM
open Go Go.RowKit
def Prm (p:Nat):Prop:=2 ≤ p ∧ ∀ a,0 < a → a < p → Nat.gcd p a=1
theorem prm_of {p:Nat} (h2:2 ≤ p) (h:∀ d,2 ≤ d → d * d ≤ p → p % d ≠ 0):Prm p:=by
  refine ⟨h2,fun a h0 h1 => ?_⟩
  have d1:=Nat.gcd_dvd_left p a
  have d2:=Nat.gcd_dvd_right p a
  have gp:0 < Nat.gcd p a:=Nat.gcd_pos_of_pos_left _ (by omega)
  have ga:Nat.gcd p a ≤ a:=Nat.le_of_dvd h0 d2
  generalize Nat.gcd p a=g at *
  by_cases e:g=1
  · exact e
  exfalso
  obtain ⟨c,hc⟩:=d1
  by_cases e2:g * g ≤ p
  · exact h g (by omega) e2 (Nat.mod_eq_zero_of_dvd ⟨c,hc⟩)
  · have c1:c ≠ 0:=by rintro rfl; omega
    have c2:c ≠ 1:=by rintro rfl; omega
    have c3:c < g:=by
      rcases Nat.lt_or_ge c g with h|h
      · exact h
      · exact absurd (by rw [hc]; exact Nat.mul_le_mul_left g h) e2
    refine h c (by omega) ?_ (Nat.mod_eq_zero_of_dvd ⟨g,by rw [hc,Nat.mul_comm]⟩)
    rw [hc]; exact Nat.mul_le_mul_right c (Nat.le_of_lt c3)
theorem sq_lt {d n:Nat} (h:d * d < n * n):d < n:=by
  rcases Nat.lt_or_ge d n with g|g
  · exact g
  · exact absurd (Nat.mul_le_mul g g) (by omega)
theorem least (Q:Nat → Prop):∀ n,Q n → ∃ m,Q m ∧ ∀ k,k < m → ¬ Q k:=by
  intro n
  induction n using Nat.strongRecOn with
  | _ n ih =>
  intro h
  by_cases c:∃ k,k < n ∧ Q k
  · obtain ⟨k,hk,hq⟩:=c
    exact ih k hk hq
  · exact ⟨n,h,fun k hk hq => c ⟨k,hk,hq⟩⟩
theorem pigeon:∀ (g n:Nat) (f:Nat → Nat),(∀ i,i < n → f i < g) → (∀ i j,i < j → j < n → f i ≠ f j) → n ≤ g
  | 0,n,f,h,_ => by
    rcases Nat.eq_zero_or_pos n with h0|h0
    · omega
    · exact absurd (h 0 h0) (by omega)
  | g + 1,n,f,h,hd => by
    by_cases c:∃ i,i < n ∧ f i=g
    · obtain ⟨i,hi,he⟩:=c
      have:=pigeon g (n - 1) (fun j => if j < i then f j else f (j + 1)) (fun j hj => by
        by_cases e:j < i
        · simp only [if_pos e]
          have h1:=h j (by omega)
          have h2:=hd j i e hi
          omega
        · simp only [if_neg e]
          have h1:=h (j + 1) (by omega)
          have h2:=hd i (j + 1) (by omega) (by omega)
          omega) (fun j k hjk hk => by
        by_cases e:j < i
        · by_cases e2:k < i
          · simp only [if_pos e,if_pos e2]; exact hd j k hjk (by omega)
          · simp only [if_pos e,if_neg e2]; exact hd j (k + 1) (by omega) (by omega)
        · simp only [if_neg e,if_neg (show ¬ k < i by omega)]; exact hd (j + 1) (k + 1) (by omega) (by omega))
      omega
    · have:=pigeon g n f (fun i hi => by
        have h1:=h i hi
        have h2:f i ≠ g:=fun e => c ⟨i,hi,e⟩
        omega) hd
      omega
end Go.Proofs.Ytmalpmnmknpphaa.TM
namespace Go.Proofs.Ytmalpmnmknpphaa.TM
open Go Go.RowKit
attribute [local irreducible] K W WOps Effs Xg Xo Xr Xdg Xdo Xdr Xif CallsP CallR
def clmP (s:Name) (n:Nat):PV:=if n=0 then nilP else .view s 0 1 n n
def clmB (n:Nat) (L:List PV):Option Box:=if n=0 then none else some (.var L)
theorem clmP_zero (s:Name):clmP s 0=nilP:=rfl
theorem clmP_succ (s:Name) (n:Nat):clmP s (n + 1)=.view s 0 1 (n + 1) (n + 1):=rfl
theorem mem_refs_clmP {b s:Name} {n:Nat}:b ∈ refsP (clmP s n) ↔ n ≠ 0 ∧ b=s:=by
  unfold clmP
  by_cases h:n=0
  · simp [h,refsP]
  · simp [h,refsP]
theorem X_appendV {P : Program} {C : CallRel} {h h0 : Heap} {base : Name} {Qf : Ex → List PV → Heap → Prop} {k : List It} {t : List PV} {R : It} {d : Option Tmp} {s b : Name} {ty : TypeId} (e : TypeId) (zs : List Value) {n : Nat} {L : List PV} {v : PV} {s' : Name}
    (he:elemB P ty=some e) (hz:zeroB P e=some zs) (hzl:zs.length=1) (hn:L.length=n) (hs:h s=clmB n L) (hb:h b=some (.var [v]))
    (hby:(n + 1) * P.bytesOf e ≤ 140737488355328) (hl:n + 1 ≤ maxLen) (hss:n=0 → s'=s)
    (hk:K P C h0 base Qf (R::k) .normal (putT t d (clmP s (n + 1))) (h.put s (.var (L ++ [v])))) :
    Xr P C h0 base Qf (opAppendV P h s' ty (clmP s n) (.view b 0 1 1 1)) d R k t h:=by
  refine Xr_eq (out:=⟨clmP s (n + 1),[(s,.var (L ++ [v]))]⟩) ?_ hk
  unfold opAppendV
  rw [he]
  simp only [hz,hzl,hb]
  rw [if_pos (by simp)]
  unfold clmP clmB at *
  by_cases h0:n=0
  · subst h0
    rw [if_pos rfl] at hs
    have:=List.eq_nil_of_length_eq_zero hn
    subst this
    have:=hss rfl
    subst this
    simp only [if_true,nilP]
    rw [if_pos (by rw [mx_len]; simpa using hby)]
    simp [newBox,hs]
  · rw [if_neg h0] at hs ⊢
    simp only [hs]
    rw [if_pos (by simp [hn]; exact ⟨hby,hl⟩)]
    simp [hn]
theorem X_dappend_own {P : Program} {C : CallRel} {h0 : Heap} {base : Name} {Qf : Ex → List PV → Heap → Prop} {k : List It} {t : List PV} {h : Heap} {d : Option Tmp} {p : Op} {nm : Name} {id : Nat} {ops : Array Oper} {ds : List (Option Tmp)} {i : Nat} {os : List Oper} {pf : XPf ops ds i os} {acc : List Keys} {s b bx : Name} {ty : TypeId} (e : TypeId) (zs : List Value) {n z top : Nat} {cs : List IV} (xs : List IV) {fz : Bool}
    (he:elemB P ty=some e) (hz:zeroB P e=some zs) (hzl:zs.length=z) (hz0:0 < z) (hb:h b=some (.row false cs)) (ht:top=cs.length) (hn:cs.length=n * z) (hx:h bx=some (.row fz xs)) (hxl:xs.length=z)
    (hby:(n + 1) * P.bytesOf e ≤ 140737488355328) (hl:n + 1 ≤ maxLen)
    (hk:K P C h0 base Qf (.xdops id ops ds i os pf ((keysU [(b,Box.row false (cs ++ xs))],keysT nm p ((opnL p).map (St.opnd t)))::acc)::k) .normal (putT t d (.view b 0 z (n + 1) (cs ++ xs).length)) (h.put b (.row false (cs ++ xs)))) :
    Xdr P C h0 base Qf (opAppend P h s ty (.view b 0 z n top) (.view bx 0 z 1 z)) d p nm (mkD id ops ds i os pf) acc k t h:=by
  subst ht
  subst hzl
  refine Xdr_eq (out:=⟨.view b 0 zs.length (n + 1) (cs ++ xs).length,[(b,.row false (cs ++ xs))]⟩) ?_ hk
  unfold opAppend
  rw [he]
  simp only [hz]
  simp only [show (PV.view b 0 zs.length n cs.length).sk=some (SK.own b 0 zs.length n cs.length) from rfl,show (PV.view bx 0 zs.length 1 zs.length).sk=some (SK.own bx 0 zs.length 1 zs.length) from rfl,SK.cells,SK.len,hx,hxl,Nat.zero_add,Nat.one_mul,Nat.le_refl,and_self,if_true,List.drop_zero]
  rw [← hxl,List.take_length,if_pos ⟨hxl ▸ hz0,hby,hl⟩,if_neg (by omega),hb]
  simp only [hxl,hn,and_self,if_true,true_and]
abbrev lv (C:Nat) (u:List Int):IV:=.l C (u.map iu)
theorem in_w64 {p a:Int} (hp:Md p) (h:In p a):W64 a:=⟨h.1,by have:=h.2; have:=hp.2; omega⟩
theorem prm_gcd {P:Nat} (hP:Prm P) {a:Int} (h:In P a) (h0:a ≠ 0):Int.gcd P a=1:=by
  have:=hP.2 a.toNat (by have:=h.1; omega) (by have:=h.1; have:=h.2; omega)
  rw [Int.gcd_eq_natAbs_gcd_natAbs]
  rw [show (P:Int).natAbs=P from rfl,show a.natAbs=a.toNat by have:=h.1; omega]
  exact this
theorem tk_end {p:Int} {C i:Nat} {T:Tk} (I:TkI p C i T) (row:List Int) (x:Int) (hi:x=(i:Int)) :
    (nzA (rstT p T row) 0 < 0 → (tkRow p T x row).cs.getD i []=xsT p T row) ∧ (¬ nzA (rstT p T row) 0 < 0 → (tkRow p T x row).cs.getD i []=xsT p T row ++ [1]):=by
  unfold tkRow
  constructor
  · intro h
    rw [if_pos h]
    simp [List.getD_eq_getElem?_getD,List.getElem?_append_right,I.cl]
  · intro h
    rw [if_neg h]
    simp [List.getD_eq_getElem?_getD,List.getElem?_append_right,I.cl]
theorem tk_no {p:Int} {T:Tk} {row:List Int} {x:Int} (h:nzA (rstT p T row) 0 < 0):(tkRow p T x row).rows=T.rows ∧ (tkRow p T x row).cols=T.cols ∧ (tkRow p T x row).us=T.us ∧ (tkRow p T x row).vs=T.vs:=by
  unfold tkRow; rw [if_pos h]; exact ⟨rfl,rfl,rfl,rfl⟩
theorem tk_yes {p:Int} {T:Tk} {row:List Int} {x:Int} (h:¬ nzA (rstT p T row) 0 < 0):(tkRow p T x row).rows=T.rows ++ [x] ∧ (tkRow p T x row).cols=T.cols ++ [nzA (rstT p T row) 0] ∧ (tkRow p T x row).us=T.us ++ [rstT p T row] ∧ (tkRow p T x row).vs=T.vs ++ [finvC p ((rstT p T row).getD (nzA (rstT p T row) 0).toNat 0)]:=by
  unfold tkRow; rw [if_neg h]; exact ⟨rfl,rfl,rfl,rfl⟩
end Go.Proofs.Ytmalpmnmknpphaa.TM
namespace Go.Proofs.Ytmalpmnmknpphaa.TM
open Go
def lowerJ (h:Heap) (p:PV):Option IV:=match lowerC h p with
  | some (.i x) => some x
  | _ => none
def lowerCN (h:Heap):PV → Option PV
  | .view b off z n top => match h b with
    | some (.var cs) => if cs.length=top ∧ off + n * z ≤ cs.length then (mapO (lowerJ h) ((cs.drop off).take (n * z))).map fun xs => .i (.l n xs) else none
    | _ => lowerC h (.view b off z n top)
  | p => lowerC h p
def lowerAN (h:Heap):PV → Option PV
  | .agg cs => (mapO (lowerCN h) cs).map .agg
  | p => lowerCN h p
def lowerTN (h:Heap):PV → Option PV
  | .tup cs => (mapO (lowerAN h) cs).map .tup
  | p => lowerAN h p
section
variable {P:Program} {β:Pl} {h1:Heap} {w:World}
theorem lowerC_rep1 (H1 : HInv β h1 w) {R : Addr → Value → Prop} {β0 : Pl} {h0 : Heap} {S0 : Nat → Nat} {p q : PV} {v : Value} (hp : Rep β h1 w p v) (hl : lowerC h1 p = some q)
    (hR1:∀ a v,Rd β h1 w a v → R a v) (hR2:∀ b x,h1 b=some x → ∀ j v,w.cell? ⟨β b,j,none⟩=some v → R ⟨β b,j,none⟩ v):RepP β0 h0 R S0 q v :=
  lowerC_rep H1 hp hl (fun b _ fz cs hb => ⟨fz,hb⟩) hR1 fun b _ => hR2 b
theorem lowerCN_rep (H1 : HInv β h1 w) {R : Addr → Value → Prop} {β0 : Pl} {h0 : Heap} {S0 : Nat → Nat} {p q : PV} {v : Value} (hp : Rep β h1 w p v) (hl : lowerCN h1 p = some q)
    (hR1:∀ a v,Rd β h1 w a v → R a v) (hR2:∀ b x,h1 b=some x → ∀ j v,w.cell? ⟨β b,j,none⟩=some v → R ⟨β b,j,none⟩ v):RepP β0 h0 R S0 q v:=by
  unfold lowerCN at hl
  split at hl
  · rename_i b off z n top
    split at hl
    · rename_i cs hb
      split at hl
      case isFalse => cases hl
      rename_i hc
      cases hm:mapO (lowerJ h1) ((cs.drop off).take (n * z)) with
      | none => simp [hm] at hl
      | some xs =>
        simp [hm] at hl
        subst hl
        obtain ⟨hlen,hg⟩:=mapO_get hm
        cases hp with
        | view _ _ _ _ _ x a cap hbx hrow ht hn ha hva =>
          rw [hb] at hbx; cases hbx
          rcases hva hc.1 with ⟨h0,hc0,_⟩|⟨h0,hs0,_⟩
          · subst h0
            have:xs=[]:=List.eq_nil_of_length_eq_zero (by rw [hlen]; simp)
            subst this
            cases a with
            | none => rw [hc0]; exact .i _ _ .nil
            | some a => exact .i _ _ (.l _ _ a cap (fun _ => undef) hn (fun j hj => by simp at hj) (fun j hj => by simp at hj) (fun j y hj => by simp at hj))
          · subst h0
            obtain ⟨c,e,hcc,hr,hcell⟩:=box_cell H1 hb
            have hlen2:((cs.drop off).take (n * z)).length=n * z:=by simp; omega
            refine .i _ _ (.l _ _ _ cap (fun j => c.getD (off + j) undef) hn (fun j hj => ?_) (fun j hj => ?_) (fun j y hj => ?_))
            · rw [add_lit]
              exact hR2 b _ hb _ _ (hcell _ (by have:=hr.1; omega))
            · have hlt:off + j < cs.length:=by omega
              exact (hr.2 (off + j) cs[off + j] (List.getElem?_eq_getElem hlt)).1
            · have hjl:j < xs.length:=(List.getElem?_eq_some_iff.1 hj).1
              have hj2:j < ((cs.drop off).take (n * z)).length:=by omega
              obtain ⟨x,hx,hxy⟩:=hg j _ (List.getElem?_eq_getElem hj2)
              rw [hxy] at hj; cases hj
              unfold lowerJ at hx
              split at hx
              · rename_i x' hlc
                cases hx
                have h7:=(hr.2 _ _ (take_drop_get (List.getElem?_eq_getElem hj2)).2).2
                have h8:RepP β h1 R (szW w) (.i _) (c.getD (off + j) undef):=lowerC_rep1 H1 h7 hlc hR1 hR2
                generalize c.getD (off + j) undef=u at h8
                cases h8 with|i _ _ h9 => exact h9
              · cases hx
    · exact lowerC_rep1 H1 hp hl hR1 hR2
  · exact lowerC_rep1 H1 hp hl hR1 hR2
theorem lowerAN_rep (H1 : HInv β h1 w) {R : Addr → Value → Prop} {β0 : Pl} {h0 : Heap} {S0 : Nat → Nat} {p q : PV} {v : Value} (hp : Rep β h1 w p v) (hl : lowerAN h1 p = some q)
    (hR1:∀ a v,Rd β h1 w a v → R a v) (hR2:∀ b x,h1 b=some x → ∀ j v,w.cell? ⟨β b,j,none⟩=some v → R ⟨β b,j,none⟩ v):RepP β0 h0 R S0 q v:=by
  unfold lowerAN at hl
  split at hl
  · rename_i cs
    cases hm:mapO (lowerCN h1) cs with
    | none => simp [hm] at hl
    | some qs =>
      simp [hm] at hl
      subst hl
      obtain ⟨hlen,hg⟩:=mapO_get hm
      cases hp with
      | agg cs arr hla hs =>
        refine .agg _ _ (by omega) fun j x hj => ?_
        have hlt:j < cs.length:=by rw [← hlen]; exact (List.getElem?_eq_some_iff.1 hj).1
        obtain ⟨y,hy,hqy⟩:=hg j _ (List.getElem?_eq_getElem hlt)
        rw [hqy] at hj; cases hj
        exact lowerCN_rep H1 (hs j _ (List.getElem?_eq_getElem hlt)) hy hR1 hR2
  · exact lowerCN_rep H1 hp hl hR1 hR2
theorem lowerTN_rep (H1 : HInv β h1 w) {R : Addr → Value → Prop} {β0 : Pl} {h0 : Heap} {S0 : Nat → Nat} {p q : PV} {v : Value} (hp : Rep β h1 w p v) (hl : lowerTN h1 p = some q)
    (hR1:∀ a v,Rd β h1 w a v → R a v) (hR2:∀ b x,h1 b=some x → ∀ j v,w.cell? ⟨β b,j,none⟩=some v → R ⟨β b,j,none⟩ v):RepP β0 h0 R S0 q v:=by
  unfold lowerTN at hl
  split at hl
  · rename_i cs
    cases hm:mapO (lowerAN h1) cs with
    | none => simp [hm] at hl
    | some qs =>
      simp [hm] at hl
      subst hl
      obtain ⟨hlen,hg⟩:=mapO_get hm
      cases hp with
      | tup cs arr hla hs =>
        refine .tup _ _ (by omega) fun j x hj => ?_
        have hlt:j < cs.length:=by rw [← hlen]; exact (List.getElem?_eq_some_iff.1 hj).1
        obtain ⟨y,hy,hqy⟩:=hg j _ (List.getElem?_eq_getElem hlt)
        rw [hqy] at hj; cases hj
        exact lowerAN_rep H1 (hs j _ (List.getElem?_eq_getElem hlt)) hy hR1 hR2
  · exact lowerAN_rep H1 hp hl hR1 hR2
end
theorem CallsP.of_low {P:Program} (hm:P.follows .mixedOrders=true) {g:FuncId} {args:List PV} {v:PV} (hv:lowerT Heap.none v=some v) (h:∀ base,∃ u hu,CallR P base g args Heap.none u hu ∧ lowerTN hu u=some v):CallsP P g args v:=by
  intro base
  obtain ⟨u,hu,h1,h2⟩:=h base
  refine ⟨v,Heap.none,CallR.of_sound ?_,hv⟩
  intro β w rargs H Hr
  refine (CallR_sound hm _ _ _ _ _ _ h1 β w rargs H Hr).mono ?_
  rintro e w' ⟨rv,β1,rfl,H1,hrep,E1⟩
  refine ⟨rv,β,rfl,HInv.none fun blk hb => Nat.lt_of_lt_of_le (H.flt blk hb) E1.size,?_,⟨E1.os,E1.tape,E1.output,E1.size,rfl,fun blk hl hs => ⟨shut_none _ _,(E1.stab blk hl (shut_none _ _)).2⟩,fun b x hb => (by cases hb),E1.sz⟩⟩
  refine lowerTN_rep H1 hrep h2 (fun a v hrd => ⟨⟨by have:=hrd.1.1; rw [E1.F] at this; exact this,shut_none _ _⟩,hrd.2⟩) fun b x hb j v hcell => ⟨⟨by have:=H1.nf b x hb; rw [E1.F] at this; exact this,shut_none _ _⟩,hcell⟩
end Go.Proofs.Ytmalpmnmknpphaa.TM
namespace Go.Proofs.Ytmalpmnmknpphaa.TM
open Go Go.RowKit
def rowsX (b:Name) (f:Nat → List Int) (n:Nat):Name → Option Box
  | (900,k)::c => if c=b ∧ k < n ∧ (f k).length ≠ 0 then some (.row false ((f k).map iu)) else none
  | _ => none
def rowsH (b:Name) (f:Nat → List Int) (n:Nat) (h:Heap):Heap:=fun c => match rowsX b f n c with
  | some x => some x
  | none => h c
def rowN (b:Name) (f:Nat → List Int) (k:Nat):PV:=rowP ((900,k)::b) 1 (f k).length ((f k).map iu)
def crowsL (b:Name) (f:Nat → List Int) (n:Nat):List PV:=(List.range n).map (rowN b f)
theorem crowsL_len (b:Name) (f:Nat → List Int) (n:Nat):(crowsL b f n).length=n:=by simp [crowsL]
theorem rowsL_succ (b:Name) (f:Nat → List Int) (n:Nat):crowsL b f (n + 1)=crowsL b f n ++ [rowN b f n]:=by simp [crowsL,List.range_succ]
theorem rowsL_congr {b:Name} {f g:Nat → List Int} {n:Nat} (h:∀ k,k < n → f k=g k):crowsL b f n=crowsL b g n:=List.map_congr_left fun k hk => by unfold rowN; rw [h k (List.mem_range.1 hk)]
theorem rowsL_get {b:Name} {f:Nat → List Int} {n k:Nat} (h:k < n):(crowsL b f n)[k]?=some (rowN b f k):=by
  unfold crowsL; rw [List.getElem?_map,List.getElem?_range h]; rfl
theorem rowsL_put {b:Name} {f g:Nat → List Int} {n k:Nat} (h:k < n) (hg:∀ m,m ≠ k → g m=f m):(crowsL b f n).take k ++ [rowN b g k] ++ (crowsL b f n).drop (k + 1)=crowsL b g n:=by
  apply List.ext_getElem?
  intro m
  have tl:((crowsL b f n).take k).length=k:=by rw [List.length_take,crowsL_len]; omega
  by_cases h1:m < k
  · rw [List.append_assoc,List.getElem?_append_left (by omega),List.getElem?_take,if_pos h1,rowsL_get (by omega),rowsL_get (by omega)]
    unfold rowN; rw [hg m (by omega)]
  · rw [List.append_assoc,List.getElem?_append_right (by omega),tl]
    by_cases h2:m=k
    · subst h2; rw [Nat.sub_self,rowsL_get h]; rfl
    · rw [List.getElem?_append_right (by simp; omega),List.getElem?_drop,List.length_singleton,show k + 1 + (m - k - 1)=m by omega]
      by_cases h3:m < n
      · rw [rowsL_get h3,rowsL_get h3]; unfold rowN; rw [hg m h2]
      · rw [List.getElem?_eq_none (by rw [crowsL_len]; omega),List.getElem?_eq_none (by rw [crowsL_len]; omega)]
theorem mem_rowsL {b c:Name} {f:Nat → List Int} {n:Nat} (h:c ∈ refsL (crowsL b f n)):∃ k,c=(900,k)::b:=by
  obtain ⟨p,hp,hc⟩:=of_refsL h
  obtain ⟨k,_,rfl⟩:=List.mem_map.1 hp
  unfold rowN at hc
  exact ⟨k,(mem_refs_rowP.1 hc).2⟩
theorem rowsX_var {b c:Name} {f:Nat → List Int} {n:Nat} {cs:List PV}:rowsX b f n c ≠ some (.var cs):=by
  unfold rowsX
  split
  · split <;> simp
  · simp
theorem noVar_rowsH {b c:Name} {f:Nat → List Int} {n:Nat} {h:Heap} (h1:noVar c h):noVar c (rowsH b f n h):=fun d ds hd => by
  unfold rowsH at hd
  split at hd
  · rename_i x hx; cases hd; exact absurd hx rowsX_var
  · exact h1 d ds hd
theorem rowsX_at {b:Name} {f:Nat → List Int} {n k:Nat} (hk:k < n) (hl:(f k).length ≠ 0):rowsX b f n ((900,k)::b)=some (.row false ((f k).map iu)):=if_pos ⟨rfl,hk,hl⟩
theorem rowsX_out {b:Name} {f:Nat → List Int} {n k:Nat} (hk:n ≤ k):rowsX b f n ((900,k)::b)=none:=if_neg (by omega)
theorem rowsX_nil {b:Name} {f:Nat → List Int} {n k:Nat} (hl:(f k).length=0):rowsX b f n ((900,k)::b)=none:=if_neg (by omega)
theorem rowsX_ne {b c:Name} {f g:Nat → List Int} {n m i:Nat} (hc:c ≠ (900,i)::b) (h:∀ k,k ≠ i → f k=g k) (hn:∀ k,k ≠ i → (k < n ↔ k < m)):rowsX b f n c=rowsX b g m c:=by
  unfold rowsX
  split
  · rename_i k d
    by_cases e:d=b
    · subst e
      have hk:k ≠ i:=fun e => hc (by rw [e])
      rw [h k hk]
      simp only [hn k hk]
    · rw [if_neg (by simp [e]),if_neg (by simp [e])]
  · rfl
def csF (T:Tk) (k:Nat):List Int:=T.cs.getD k []
def mtB (R C:Nat) (l:List Int):Box:=.var [i64 R,i64 C,lu l]
theorem base_ne:∀ (base:Name) (x:Nat × Nat),base ≠ x::base
  | [],x,h => by cases h
  | y::b,x,h => by injection h with h1 h2; exact base_ne b y h2
end Go.Proofs.Ytmalpmnmknpphaa.TM
namespace Go.Proofs.Ytmalpmnmknpphaa.TM
open Go Go.RowKit
theorem TkI.next {P C i:Nat} {T:Tk} {row:List Int} (hP:Prm P) (hp:Md P) (I:TkI P C i T) (hrow:∀ a ∈ row,In P a) (hl:row.length=C):TkI P C (i + 1) (tkRow P T i row):=by
  have r1:(rstT P T row).length=C:=by unfold rstT; rw [elR_len,hl]
  have r2:∀ a ∈ rstT P T row,In P a:=elR_in hp T hrow _
  have x1:(xsT P T row).length=T.us.length:=tbl_len ..
  have x2:∀ a ∈ xsT P T row,In P a:=fun a ha => by obtain ⟨k,_,rfl⟩:=tbl_mem ha; exact elX_in hp T row k
  have o1:In P 1:=⟨by decide,by have:=hp.1; omega⟩
  unfold tkRow
  split
  · refine ⟨I.rl,I.ql,I.vl,by simp [I.cl],by have:=I.ri; simp only; omega,fun a ha => by have:=I.rb a ha; omega,I.qb,I.ul,I.vb,fun c hc => ?_⟩
    rcases List.mem_append.1 hc with hc|hc
    · exact I.cb c hc
    · rw [List.mem_singleton.1 hc]; exact ⟨by rw [x1]; exact Nat.le_refl _,x2⟩
  · rename_i hn
    rcases nzA_spec (rstT P T row) 0 with ⟨z1,_⟩|⟨n,z1,z2,z3,_⟩
    · rw [z1] at hn; exact absurd (by decide) hn
    · rw [z1]
      refine ⟨by simp [I.rl],by simp [I.ql],by simp [I.vl],by simp [I.cl],by have:=I.ri; simp only [List.length_append,List.length_singleton]; omega,fun a ha => ?_,fun a ha => ?_,fun u hu => ?_,fun a ha => ?_,fun c hc => ?_⟩
      · rcases List.mem_append.1 ha with ha|ha
        · have:=I.rb a ha; omega
        · rw [List.mem_singleton.1 ha]; omega
      · rcases List.mem_append.1 ha with ha|ha
        · exact I.qb a ha
        · rw [List.mem_singleton.1 ha]; omega
      · rcases List.mem_append.1 hu with hu|hu
        · exact I.ul u hu
        · rw [List.mem_singleton.1 hu]; exact ⟨r1,r2⟩
      · rcases List.mem_append.1 ha with ha|ha
        · exact I.vb a ha
        · rw [List.mem_singleton.1 ha,show (((0 + n:Nat):Int)).toNat=n by omega]
          exact (finvC_in (by exact hp.1) hp.2 (getD_of r2 z2) (prm_gcd hP (getD_of r2 z2) z3)).1
      · rcases List.mem_append.1 hc with hc|hc
        · have:=I.cb c hc
          exact ⟨by simp only [List.length_append,List.length_singleton]; omega,this.2⟩
        · rw [List.mem_singleton.1 hc]
          refine ⟨by simp [x1],fun a ha => ?_⟩
          rcases List.mem_append.1 ha with ha|ha
          · exact x2 a ha
          · rw [List.mem_singleton.1 ha]; exact o1
theorem tkN_I {P R C:Nat} {l:List Int} (hP:Prm P) (M:Mt P R C l) (hin:∀ a ∈ l,In P a):∀ i,i ≤ R → TkI P C i (tkN P C l i)
  | 0,_ => TkI.zero _ _
  | i + 1,h => (tkN_I hP M hin i (by omega)).next hP M.hp (fun a ha => hin a (rowM_mem ha)) (rowM_len M.len (by omega))
theorem tkRow_cs {P:Int} {C i:Nat} {T:Tk} {row:List Int} (I:TkI P C i T):(∀ k,k < i → csF (tkRow P T i row) k=csF T k) ∧ ((tkRow P T i row).us.length=T.us.length ∨ (tkRow P T i row).us.length=T.us.length + 1):=by
  have h:∀ (x:List Int) (k:Nat),k < i → (T.cs ++ [x]).getD k []=T.cs.getD k []:=fun x k hk => by
    rw [List.getD_eq_getElem?_getD,List.getElem?_append_left (by rw [I.cl]; exact hk),List.getD_eq_getElem?_getD]
  unfold tkRow csF
  split
  · exact ⟨fun k hk => h _ k hk,.inl rfl⟩
  · exact ⟨fun k hk => h _ k hk,.inr (by simp)⟩
end Go.Proofs.Ytmalpmnmknpphaa.TM
namespace Go.Proofs.Ytmalpmnmknpphaa.TM
open Go Go.RowKit
attribute [local irreducible] K W WOps Effs Xg Xo Xr Xdg Xdo Xdr Xif CallsP CallR
def padF (r:Nat) (x:List Int):List Int:=x ++ List.replicate (r - x.length) 0
abbrev llP (L:List (List Int)):PV:=.i (.l L.length (L.map fun u => .l u.length (u.map iu)))
abbrev CupT:=List Int × List Int × List (List Int) × List (List Int)
abbrev cupQ (c:CupT):PV:=.agg [li c.1,li c.2.1,llP c.2.2.1,llP c.2.2.2]
def tkCup (p:Int) (C R:Nat) (l:List Int):CupT:=((tkN p C l R).rows,(tkN p C l R).cols,(tkN p C l R).cs.map (padF (tkN p C l R).us.length),(tkN p C l R).us)
def fP (T:Tk) (i d k:Nat):List Int:=if k < i then padF T.us.length (csF T k) else if k=i then csF T k ++ List.replicate d 0 else csF T k
theorem rowsX_zero (b:Name) (f:Nat → List Int) (c:Name):rowsX b f 0 c=none:=by
  unfold rowsX
  split
  · exact if_neg (by omega)
  · rfl
theorem low_row {h:Heap} {s:Name} {n:Nat} {cs:List IV} (hn:cs.length=n) (hs:n ≠ 0 → h s=some (.row false cs)):lowerCN h (rowP s 1 n cs)=some (.i (.l n cs)):=by
  rw [← lower_row (h:=h) (s:=s) (z:=1) (n:=n) (cs:=cs) (by omega) hs]
  unfold rowP
  split
  · rfl
  · rename_i h0
    show (match h s with|some (.var cs) => _|_ => _)=_
    rw [hs h0]
theorem mapO_list {α β γ:Type} {g:β → α} {f:α → Option γ} {k:β → γ}:∀ {l:List β},(∀ x ∈ l,f (g x)=some (k x)) → mapO f (l.map g)=some (l.map k)
  | [],_ => rfl
  | x::l,h => by
    rw [List.map_cons,mapO,h x (by simp),mapO_list (l:=l) fun y hy => h y (by simp [hy])]
    rfl
theorem low_col {h:Heap} {s b:Name} {n:Nat} {f:Nat → List Int} (h0:0 < n) (hs:h s=some (.var (crowsL b f n))) (hr:∀ k,k < n → (f k).length ≠ 0 → h ((900,k)::b)=some (.row false ((f k).map iu))) :
    lowerCN h (.view s 0 1 n n)=some (.i (.l n ((List.range n).map fun k => .l (f k).length ((f k).map iu)))):=by
  have hm:mapO (lowerJ h) (crowsL b f n)=some ((List.range n).map fun k => IV.l (f k).length ((f k).map iu)):=by
    unfold crowsL
    refine mapO_list fun k hk => ?_
    have hk:=List.mem_range.1 hk
    unfold lowerJ rowN
    rw [lower_row (by simp) (fun h1 => hr k hk h1)]
  show (match h s with|some (.var cs) => _|_ => _)=_
  rw [hs]
  simp only [crowsL_len,Nat.mul_one,Nat.zero_add,Nat.le_refl,and_self,if_true,List.drop_zero]
  rw [List.take_of_length_le (by rw [crowsL_len]; exact Nat.le_refl _),hm]
  rfl
theorem low_cup {h : Heap} {nR nQ nC nU b : Name} {n R C : Nat} {rows cols : List Int} {us : List (List Int)} {f : Nat → List Int} (hr : rows.length = n) (hq : cols.length = n) (hu : us.length = n)
    (h1:n ≠ 0 → h nR=some (.row false (rows.map ii))) (h2:n ≠ 0 → h nQ=some (.row false (cols.map ii))) (h3:n ≠ 0 → h nU=some (.row false (us.map (lv C)))) (h0:0 < R) (hs:h nC=some (.var (crowsL b f R)))
    (hf:∀ k,k < R → (f k).length ≠ 0 → h ((900,k)::b)=some (.row false ((f k).map iu))) (hul:∀ u ∈ us,u.length=C) :
    lowerTN h (.tup [.agg [rowP nR 1 n (rows.map ii),rowP nQ 1 n (cols.map ii),.view nC 0 1 R R,rowP nU 1 n (us.map (lv C))],i64 0])=some (.tup [cupQ (rows,cols,(List.range R).map f,us),i64 0]):=by
  have e1:=low_row (h:=h) (s:=nR) (n:=n) (cs:=rows.map ii) (by simp [hr]) h1
  have e2:=low_row (h:=h) (s:=nQ) (n:=n) (cs:=cols.map ii) (by simp [hq]) h2
  have e3:=low_row (h:=h) (s:=nU) (n:=n) (cs:=us.map (lv C)) (by simp [hu]) h3
  have e4:=low_col h0 hs hf
  have e5:us.map (lv C)=us.map fun u => IV.l u.length (u.map iu):=List.map_congr_left fun u hm => by rw [hul u hm]
  simp only [lowerTN,lowerAN,mapO,e1,e2,e3,e4,Option.map_some]
  simp [lowerAN,lowerCN,lowerC,cupQ,llP,hr,hq,hu,e5,List.map_map,Function.comp_def]
theorem fP_cs {p:Int} {T:Tk} {C R:Nat} (I:TkI p C R T):(List.range R).map (fP T R 0)=T.cs.map (padF T.us.length):=by
  apply List.ext_getElem?
  intro k
  rw [List.getElem?_map,List.getElem?_map]
  by_cases h:k < R
  · rw [List.getElem?_range h,List.getElem?_eq_getElem (by rw [I.cl]; exact h)]
    show some (fP T R 0 k)=some _
    unfold fP csF
    rw [if_pos h,List.getD_eq_getElem?_getD,List.getElem?_eq_getElem (by rw [I.cl]; exact h)]; rfl
  · rw [List.getElem?_eq_none (by simp; omega),List.getElem?_eq_none (by rw [I.cl]; omega)]; rfl
theorem fP_zero (T:Tk):fP T 0 0=csF T:=by
  funext k; unfold fP
  by_cases h:k=0
  · subst h; simp
  · rw [if_neg (by omega),if_neg h]
theorem fP_full {T:Tk} {i:Nat}:fP T i (T.us.length - (csF T i).length)=fP T (i + 1) 0:=by
  funext k; unfold fP
  by_cases h:k < i
  · rw [if_pos h,if_pos (by omega)]
  · by_cases e:k=i
    · subst e; rw [if_neg (by omega),if_pos rfl,if_pos (by omega)]; rfl
    · by_cases d:k=i + 1
      · subst d; rw [if_neg (by omega),if_neg (by omega),if_neg (by omega),if_pos rfl]; simp
      · rw [if_neg h,if_neg e,if_neg (by omega),if_neg d]
theorem fP_at {T:Tk} {i d:Nat}:fP T i d i=csF T i ++ List.replicate d 0:=by unfold fP; rw [if_neg (by omega),if_pos rfl]
theorem fP_ne {T:Tk} {i d k:Nat} (h:k ≠ i):fP T i (d + 1) k=fP T i d k:=by unfold fP; rw [if_neg h,if_neg h]
end Go.Proofs.Ytmalpmnmknpphaa.TM
namespace Go.Proofs.Ytmalpmnmknpphaa.TM
open Go Go.RowKit
attribute [local irreducible] K W WOps Effs Xg Xo Xr Xdg Xdo Xdr Xif CallsP CallR
def seenC (s:List Int):List IV:=(List.range 64).map fun (i:Nat) => IV.v (Value.bool (decide ((i:Int) ∈ s)))
theorem seenC_len (s:List Int):(seenC s).length=64:=by simp [seenC]
theorem seenC_nil:[IV.v (Value.bool false),IV.v (Value.bool false),IV.v (Value.bool false),IV.v (Value.bool false),IV.v (Value.bool false),IV.v (Value.bool false),IV.v (Value.bool false),IV.v (Value.bool false),IV.v (Value.bool false),IV.v (Value.bool false),IV.v (Value.bool false),IV.v (Value.bool false),IV.v (Value.bool false),IV.v (Value.bool false),IV.v (Value.bool false),IV.v (Value.bool false),IV.v (Value.bool false),IV.v (Value.bool false),IV.v (Value.bool false),IV.v (Value.bool false),IV.v (Value.bool false),IV.v (Value.bool false),IV.v (Value.bool false),IV.v (Value.bool false),IV.v (Value.bool false),IV.v (Value.bool false),IV.v (Value.bool false),IV.v (Value.bool false),IV.v (Value.bool false),IV.v (Value.bool false),IV.v (Value.bool false),IV.v (Value.bool false),IV.v (Value.bool false),IV.v (Value.bool false),IV.v (Value.bool false),IV.v (Value.bool false),IV.v (Value.bool false),IV.v (Value.bool false),IV.v (Value.bool false),IV.v (Value.bool false),IV.v (Value.bool false),IV.v (Value.bool false),IV.v (Value.bool false),IV.v (Value.bool false),IV.v (Value.bool false),IV.v (Value.bool false),IV.v (Value.bool false),IV.v (Value.bool false),IV.v (Value.bool false),IV.v (Value.bool false),IV.v (Value.bool false),IV.v (Value.bool false),IV.v (Value.bool false),IV.v (Value.bool false),IV.v (Value.bool false),IV.v (Value.bool false),IV.v (Value.bool false),IV.v (Value.bool false),IV.v (Value.bool false),IV.v (Value.bool false),IV.v (Value.bool false),IV.v (Value.bool false),IV.v (Value.bool false),IV.v (Value.bool false)]=seenC []:=rfl
theorem seenC_get (s:List Int) {a:Int} (h0:0 ≤ a) (h1:a < 64):(seenC s)[a.toNat]?=some (IV.v (Value.bool (decide (a ∈ s)))):=by
  have h2:a.toNat < 64:=by omega
  unfold seenC
  rw [List.getElem?_map,List.getElem?_range h2]
  simp only [Option.map_some,Int.toNat_of_nonneg h0]
theorem seenC_put (s:List Int) {a:Int} (h0:0 ≤ a) (h1:a < 64):(seenC s).take a.toNat ++ [IV.v (Value.bool true)] ++ (seenC s).drop (a.toNat + 1)=seenC (s ++ [a]):=by
  have h2:a.toNat < 64:=by omega
  have hl:=seenC_len s
  apply List.ext_getElem?
  intro i
  by_cases hi:i < 64
  · rw [List.append_assoc,List.getElem?_append,List.length_take,hl,show min a.toNat 64=a.toNat by omega]
    have hr:(seenC (s ++ [a]))[i]?=some (IV.v (Value.bool (decide ((i:Int) ∈ s ++ [a])))):=by
      unfold seenC; rw [List.getElem?_map,List.getElem?_range hi]; rfl
    have hs:(seenC s)[i]?=some (IV.v (Value.bool (decide ((i:Int) ∈ s)))):=by
      unfold seenC; rw [List.getElem?_map,List.getElem?_range hi]; rfl
    rw [hr]
    by_cases c1:i < a.toNat
    · rw [if_pos c1,List.getElem?_take,if_pos c1,hs]
      have:(i:Int) ≠ a:=by omega
      simp [this]
    · rw [if_neg c1]
      by_cases c2:i=a.toNat
      · have:(i:Int)=a:=by omega
        rw [show i - a.toNat=0 by omega]
        simp [this]
      · rw [List.getElem?_append_right (by simp; omega),List.getElem?_drop,List.length_singleton,show a.toNat + 1 + (i - a.toNat - 1)=i by omega,hs]
        have:(i:Int) ≠ a:=by omega
        simp [this]
  · rw [List.getElem?_eq_none (by simp [hl]; omega),List.getElem?_eq_none (by rw [seenC_len]; omega)]
def ordF (n:Int):List Int → List Int → Bool
  | _,[] => true
  | s,a::l => !(decide (a < 0)) && (!(decide (n ≤ a)) && (!(decide (64 ≤ a)) && (!(decide (a ∈ s)) && ordF n (s ++ [a]) l)))
def orderB (l:List Int):Bool:=ordF l.length [] l && decide (1 ≤ (l.length:Int))
theorem ordF_drop (n:Int) (s:List Int) {l:List Int} {j:Nat} (h:j < l.length):ordF n s (l.drop j)=(!(decide (l[j] < 0)) && (!(decide (n ≤ l[j])) && (!(decide (64 ≤ l[j])) && (!(decide (l[j] ∈ s)) && ordF n (s ++ [l[j]]) (l.drop (j + 1)))))):=by
  rw [List.drop_eq_getElem_cons h]; rfl
theorem order_right_walk (l:List Int) (hl:l.length ≤ maxLen):CallsP Try.prog 135 [li l] (bl (orderB l)):=by
  unfold orderB
  have hm:maxLen=9223372036854775807:=rfl
  refine X_startP (n:=35) (m:=1) (rs:=[.tmp 2]) Try.func135 rfl rfl rfl rfl (by decide) fun base => ?_
  repeat (first|refine X_opc rfl ?_|refine X_dopc rfl ?_|refine ⟨(by show drawK _ _=true; kernel_rfl:drawX _ _ _),?_⟩|exact (by show drawK _ _=true; kernel_rfl:drawX _ _ _)|simp -dsimp (maxSteps:=20000000) (disch:=omega) only [simx,zzC,zzB,tys,ite_self,opnL,callB,callX,readsB,stepOp,nilCmp,ofVal,opBuiltin,opLen,PV.sk,scalBin,scalUn,intBin,opLoad,natOf,opConvert,opField,cellsP,oneP,Value.oneCell',opStore,toIV,scalT,scalA,scalC,boxesA,boxesC,zipB_none,zipB_mx,isZ,opZip,zeroP,opAppendZ,opMakeMap,opLookup,mboxB,opUpdate,↓reduceIte,Nat.reduceSub,Nat.reduceEqDiff,Nat.reduceAdd,Nat.reduceMul,Nat.reduceLT,Nat.reduceLeDiff,Int.reduceToNat,Int.reduceLE,Int.reduceLT,Int.reduceNeg,reduceCtorEq,gos,Int.reduceAdd,Int.reduceSub,Int.reduceMul,Int.reduceEq,seenC_nil])
  refine X_loopH [0,3,6,7,8] [] (0) (l.length) (fun j => ordF l.length (l.take j) (l.drop j)=ordF l.length [] l) (fun j => [(8,i64 j)]) (fun j => Heap.none.put ((1,0)::base) (.row false (seenC (l.take j)))) ?_ ?_ ?_ ?_ ?_ (by decide) ?_
  · exact (fgt_nil)
  · ((simp -dsimp (disch:=omega) only [simx,zzB,tys,ite_self,opnL,callB,callX,readsB,stepOp,nilCmp,ofVal,opBuiltin,opLen,PV.sk,scalBin,scalUn,intBin,opLoad,natOf,opConvert,opField,cellsP,oneP,Value.oneCell',opStore,toIV,scalT,scalA,scalC,boxesA,boxesC,zipB_none,zipB_mx,isZ,opZip,zeroP,opAppendZ,opMakeMap,opLookup,mboxB,opUpdate,↓reduceIte,Nat.reduceSub,Nat.reduceEqDiff,Nat.reduceAdd,Nat.reduceMul,Nat.reduceLT,Nat.reduceLeDiff,Int.reduceToNat,Int.reduceLE,Int.reduceLT,Int.reduceNeg,reduceCtorEq,gos,Int.reduceAdd,Int.reduceSub,Int.reduceMul,Int.reduceEq]) <;> first|rfl|simp)
  · exact drop_nil _
  · omega
  · rfl
  · intro j hj hf
    by_cases cj:j < l.length
    · have g1:l[j]?=some l[j]:=List.getElem?_eq_getElem cj
      have tk:l.take (j + 1)=l.take j ++ [l[j]]:=(List.take_append_getElem cj).symm
      rw [ordF_drop _ _ cj] at hf
      generalize l[j]=a at g1 tk hf
      by_cases c1:a < 0
      · rw [← hf]
        repeat (first|refine X_opc rfl ?_|refine X_dopc rfl ?_|refine ⟨(by show drawK _ _=true; kernel_rfl:drawX _ _ _),?_⟩|exact (by show drawK _ _=true; kernel_rfl:drawX _ _ _)|simp -dsimp (maxSteps:=20000000) (disch:=omega) only [simx,zzC,zzB,tys,ite_self,opnL,callB,callX,readsB,stepOp,nilCmp,ofVal,opBuiltin,opLen,PV.sk,scalBin,scalUn,intBin,opLoad,natOf,opConvert,opField,cellsP,oneP,Value.oneCell',opStore,toIV,scalT,scalA,scalC,boxesA,boxesC,zipB_none,zipB_mx,isZ,opZip,zeroP,opAppendZ,opMakeMap,opLookup,mboxB,opUpdate,↓reduceIte,Nat.reduceSub,Nat.reduceEqDiff,Nat.reduceAdd,Nat.reduceMul,Nat.reduceLT,Nat.reduceLeDiff,Int.reduceToNat,Int.reduceLE,Int.reduceLT,Int.reduceNeg,reduceCtorEq,zzR,gos,Int.reduceAdd,Int.reduceSub,Int.reduceMul,Int.reduceEq,cj,g1,c1,decide_true,Bool.not_true,Bool.false_and])
      · have h0:0 ≤ a:=by omega
        have c1':¬ a < 0:=c1
        by_cases c2:(l.length:Int) ≤ a
        · rw [← hf]
          repeat (first|refine X_opc rfl ?_|refine X_dopc rfl ?_|refine ⟨(by show drawK _ _=true; kernel_rfl:drawX _ _ _),?_⟩|exact (by show drawK _ _=true; kernel_rfl:drawX _ _ _)|simp -dsimp (maxSteps:=20000000) (disch:=omega) only [simx,zzC,zzB,tys,ite_self,opnL,callB,callX,readsB,stepOp,nilCmp,ofVal,opBuiltin,opLen,PV.sk,scalBin,scalUn,intBin,opLoad,natOf,opConvert,opField,cellsP,oneP,Value.oneCell',opStore,toIV,scalT,scalA,scalC,boxesA,boxesC,zipB_none,zipB_mx,isZ,opZip,zeroP,opAppendZ,opMakeMap,opLookup,mboxB,opUpdate,↓reduceIte,Nat.reduceSub,Nat.reduceEqDiff,Nat.reduceAdd,Nat.reduceMul,Nat.reduceLT,Nat.reduceLeDiff,Int.reduceToNat,Int.reduceLE,Int.reduceLT,Int.reduceNeg,reduceCtorEq,zzR,gos,Int.reduceAdd,Int.reduceSub,Int.reduceMul,Int.reduceEq,cj,g1,c1',c2,decide_true,decide_false,Bool.not_true,Bool.not_false,Bool.false_and,Bool.true_and])
        · by_cases c3:64 ≤ a
          · rw [← hf]
            repeat (first|refine X_opc rfl ?_|refine X_dopc rfl ?_|refine ⟨(by show drawK _ _=true; kernel_rfl:drawX _ _ _),?_⟩|exact (by show drawK _ _=true; kernel_rfl:drawX _ _ _)|simp -dsimp (maxSteps:=20000000) (disch:=omega) only [simx,zzC,zzB,tys,ite_self,opnL,callB,callX,readsB,stepOp,nilCmp,ofVal,opBuiltin,opLen,PV.sk,scalBin,scalUn,intBin,opLoad,natOf,opConvert,opField,cellsP,oneP,Value.oneCell',opStore,toIV,scalT,scalA,scalC,boxesA,boxesC,zipB_none,zipB_mx,isZ,opZip,zeroP,opAppendZ,opMakeMap,opLookup,mboxB,opUpdate,↓reduceIte,Nat.reduceSub,Nat.reduceEqDiff,Nat.reduceAdd,Nat.reduceMul,Nat.reduceLT,Nat.reduceLeDiff,Int.reduceToNat,Int.reduceLE,Int.reduceLT,Int.reduceNeg,reduceCtorEq,zzR,gos,Int.reduceAdd,Int.reduceSub,Int.reduceMul,Int.reduceEq,cj,g1,c1',c2,c3,decide_true,decide_false,Bool.not_true,Bool.not_false,Bool.false_and,Bool.true_and])
          · have g2:=seenC_get (l.take j) h0 (by omega:a < 64)
            have c4:a.toNat < 64:=by omega
            by_cases c5:a ∈ l.take j
            · rw [← hf]
              repeat (first|refine X_opc rfl ?_|refine X_dopc rfl ?_|refine ⟨(by show drawK _ _=true; kernel_rfl:drawX _ _ _),?_⟩|exact (by show drawK _ _=true; kernel_rfl:drawX _ _ _)|simp -dsimp (maxSteps:=20000000) (disch:=omega) only [simx,zzC,zzB,tys,ite_self,opnL,callB,callX,readsB,stepOp,nilCmp,ofVal,opBuiltin,opLen,PV.sk,scalBin,scalUn,intBin,opLoad,natOf,opConvert,opField,cellsP,oneP,Value.oneCell',opStore,toIV,scalT,scalA,scalC,boxesA,boxesC,zipB_none,zipB_mx,isZ,opZip,zeroP,opAppendZ,opMakeMap,opLookup,mboxB,opUpdate,↓reduceIte,Nat.reduceSub,Nat.reduceEqDiff,Nat.reduceAdd,Nat.reduceMul,Nat.reduceLT,Nat.reduceLeDiff,Int.reduceToNat,Int.reduceLE,Int.reduceLT,Int.reduceNeg,reduceCtorEq,zzR,gos,Int.reduceAdd,Int.reduceSub,Int.reduceMul,Int.reduceEq,cj,g1,c1',c2,c3,c4,c5,h0,g2,seenC_len,decide_true,decide_false,Bool.not_true,Bool.not_false,Bool.false_and,Bool.true_and])
            · have g3:=seenC_put (l.take j) h0 (by omega:a < 64)
              have c6:a.toNat + 1 ≤ 64:=c4
              simp only [c1,c2,c3,c5,decide_false,Bool.not_false,Bool.true_and] at hf
              rw [← tk] at hf g3
              repeat (first|refine X_opc rfl ?_|refine X_dopc rfl ?_|refine ⟨(by show drawK _ _=true; kernel_rfl:drawX _ _ _),?_⟩|exact (by show drawK _ _=true; kernel_rfl:drawX _ _ _)|simp -dsimp (maxSteps:=20000000) (disch:=omega) only [simx,zzC,zzB,tys,ite_self,opnL,callB,callX,readsB,stepOp,nilCmp,ofVal,opBuiltin,opLen,PV.sk,scalBin,scalUn,intBin,opLoad,natOf,opConvert,opField,cellsP,oneP,Value.oneCell',opStore,toIV,scalT,scalA,scalC,boxesA,boxesC,zipB_none,zipB_mx,isZ,opZip,zeroP,opAppendZ,opMakeMap,opLookup,mboxB,opUpdate,↓reduceIte,Nat.reduceSub,Nat.reduceEqDiff,Nat.reduceAdd,Nat.reduceMul,Nat.reduceLT,Nat.reduceLeDiff,Int.reduceToNat,Int.reduceLE,Int.reduceLT,Int.reduceNeg,reduceCtorEq,gos,Int.reduceAdd,Int.reduceSub,Int.reduceMul,Int.reduceEq,cj,g1,c1',c2,c3,c4,c5,c6,h0,g2,g3,seenC_len])
              refine ⟨cj,(fgt_nil),hf,rfl,?_⟩
              funext c
              simp (maxSteps:=20000000) only [Heap.drop_at,rowH_app,Heap.put_at,Heap.none_at,List.mem_cons,List.not_mem_nil,or_false]
              by_cases e0:c=(1,0)::base
              · subst e0; simp []
              simp [e0]
    · have hj:j=l.length:=by omega
      subst hj
      rw [List.drop_length] at hf
      rw [← hf]
      simp only [ordF,Bool.true_and]
      repeat (first|refine X_opc rfl ?_|refine X_dopc rfl ?_|refine ⟨(by show drawK _ _=true; kernel_rfl:drawX _ _ _),?_⟩|exact (by show drawK _ _=true; kernel_rfl:drawX _ _ _)|simp -dsimp (maxSteps:=20000000) (disch:=omega) only [simx,zzC,zzB,tys,ite_self,opnL,callB,callX,readsB,stepOp,nilCmp,ofVal,opBuiltin,opLen,PV.sk,scalBin,scalUn,intBin,opLoad,natOf,opConvert,opField,cellsP,oneP,Value.oneCell',opStore,toIV,scalT,scalA,scalC,boxesA,boxesC,zipB_none,zipB_mx,isZ,opZip,zeroP,opAppendZ,opMakeMap,opLookup,mboxB,opUpdate,↓reduceIte,Nat.reduceSub,Nat.reduceEqDiff,Nat.reduceAdd,Nat.reduceMul,Nat.reduceLT,Nat.reduceLeDiff,Int.reduceToNat,Int.reduceLE,Int.reduceLT,Int.reduceNeg,reduceCtorEq,zzR,gos,Int.reduceAdd,Int.reduceSub,Int.reduceMul,Int.reduceEq])
end Go.Proofs.Ytmalpmnmknpphaa.TM
namespace Go.Proofs.Ytmalpmnmknpphaa.TM
open Go Go.RowKit
attribute [local irreducible] K W WOps Effs Xg Xo Xr Xdg Xdo Xdr Xif CallsP CallR
theorem pright_walk (l:List Int) (hl:l.length ≤ maxLen):CallsP Try.prog 116 [li l] (bl (orderB l)):=by
  have d:=order_right_walk l hl
  refine X_startP (n:=7) (m:=1) (rs:=[.tmp 2]) Try.func116 rfl rfl rfl rfl (by decide) fun base => ?_
  repeat (first|((first|refine X_call_fn2 rfl (by simp only [tys]) ?_|refine X_dcall_fn2 rfl (by simp only [tys]) ?_); apply Exists.intro; apply And.intro; (focus (simp -dsimp only [simx,zzC,zzB,tys,ite_self,opnL,callB,callX,readsB,stepOp,nilCmp,ofVal,opBuiltin,opLen,PV.sk,scalBin,scalUn,intBin,opLoad,natOf,opConvert,opField,cellsP,oneP,Value.oneCell',opStore,toIV,scalT,scalA,scalC,boxesA,boxesC,zipB_none,zipB_mx,isZ,opZip,zeroP,opAppendZ,opMakeMap,opLookup,mboxB,opUpdate,↓reduceIte,Nat.reduceSub,Nat.reduceEqDiff,Nat.reduceAdd,Nat.reduceMul,Nat.reduceLT,Nat.reduceLeDiff,Int.reduceToNat,Int.reduceLE,Int.reduceLT,Int.reduceNeg,reduceCtorEq,zzL,if_true,if_false] <;> rfl)); apply Exists.intro; apply And.intro; (focus (first|exact d)))|(refine X_call_val2 rfl ?_; apply Exists.intro; apply And.intro; (focus (simp -dsimp only [simx,zzC,zzB,tys,ite_self,opnL,callB,callX,readsB,stepOp,nilCmp,ofVal,opBuiltin,opLen,PV.sk,scalBin,scalUn,intBin,opLoad,natOf,opConvert,opField,cellsP,oneP,Value.oneCell',opStore,toIV,scalT,scalA,scalC,boxesA,boxesC,zipB_none,zipB_mx,isZ,opZip,zeroP,opAppendZ,opMakeMap,opLookup,mboxB,opUpdate,↓reduceIte,Nat.reduceSub,Nat.reduceEqDiff,Nat.reduceAdd,Nat.reduceMul,Nat.reduceLT,Nat.reduceLeDiff,Int.reduceToNat,Int.reduceLE,Int.reduceLT,Int.reduceNeg,reduceCtorEq,zzL,if_true,if_false] <;> rfl)); apply And.intro; (focus (first|simp only [tys]|exact such_enter _)); apply Exists.intro; apply And.intro; (focus (simp -dsimp only [simx,zzC,zzB,tys,ite_self,opnL,callB,callX,readsB,stepOp,nilCmp,ofVal,opBuiltin,opLen,PV.sk,scalBin,scalUn,intBin,opLoad,natOf,opConvert,opField,cellsP,oneP,Value.oneCell',opStore,toIV,scalT,scalA,scalC,boxesA,boxesC,zipB_none,zipB_mx,isZ,opZip,zeroP,opAppendZ,opMakeMap,opLookup,mboxB,opUpdate,↓reduceIte,Nat.reduceSub,Nat.reduceEqDiff,Nat.reduceAdd,Nat.reduceMul,Nat.reduceLT,Nat.reduceLeDiff,Int.reduceToNat,Int.reduceLE,Int.reduceLT,Int.reduceNeg,reduceCtorEq,zzL,if_true,if_false] <;> rfl)); apply Exists.intro; apply And.intro; (focus (first|exact d)))|refine X_opc rfl ?_|refine X_dopc rfl ?_|refine ⟨(by show drawK _ _=true; kernel_rfl:drawX _ _ _),?_⟩|exact (by show drawK _ _=true; kernel_rfl:drawX _ _ _)|simp -dsimp (maxSteps:=20000000) (disch:=omega) only [simx,zzC,zzB,tys,ite_self,opnL,callB,callX,readsB,stepOp,nilCmp,ofVal,opBuiltin,opLen,PV.sk,scalBin,scalUn,intBin,opLoad,natOf,opConvert,opField,cellsP,oneP,Value.oneCell',opStore,toIV,scalT,scalA,scalC,boxesA,boxesC,zipB_none,zipB_mx,isZ,opZip,zeroP,opAppendZ,opMakeMap,opLookup,mboxB,opUpdate,↓reduceIte,Nat.reduceSub,Nat.reduceEqDiff,Nat.reduceAdd,Nat.reduceMul,Nat.reduceLT,Nat.reduceLeDiff,Int.reduceToNat,Int.reduceLE,Int.reduceLT,Int.reduceNeg,reduceCtorEq,zzR,gos,Int.reduceAdd,Int.reduceSub,Int.reduceMul,Int.reduceEq])
structure Ord (l:List Int):Prop where
  pos:1 ≤ l.length
  le:l.length ≤ 64
  mem:∀ a ∈ l,0 ≤ a ∧ a < l.length
  nd:l.Nodup
theorem ordF_spec (n:Int):∀ (l s:List Int),ordF n s l=true ↔ (∀ a ∈ l,0 ≤ a ∧ a < n ∧ a < 64) ∧ l.Nodup ∧ ∀ a ∈ l,a ∉ s
  | [],s => by simp [ordF]
  | a::l,s => by
    rw [ordF]
    simp only [Bool.and_eq_true,Bool.not_eq_true',decide_eq_false_iff_not,ordF_spec n l (s ++ [a])]
    constructor
    · rintro ⟨h1,h2,h3,h4,h5,h6,h7⟩
      refine ⟨fun b hb => ?_,List.nodup_cons.2 ⟨fun h => ?_,h6⟩,fun b hb => ?_⟩
      · rcases List.mem_cons.1 hb with rfl|hb
        · omega
        · exact h5 b hb
      · exact h7 a h (by simp)
      · rcases List.mem_cons.1 hb with rfl|hb
        · exact h4
        · exact fun h => h7 b hb (List.mem_append.2 (.inl h))
    · rintro ⟨h1,h2,h3⟩
      obtain ⟨h4,h5⟩:=List.nodup_cons.1 h2
      have:=h1 a (by simp)
      refine ⟨by omega,by omega,by omega,h3 a (by simp),fun b hb => h1 b (by simp [hb]),h5,fun b hb h => ?_⟩
      rcases List.mem_append.1 h with h|h
      · exact h3 b (by simp [hb]) h
      · have:b=a:=by simpa using h
        subst this
        exact h4 hb
theorem nodup_bound {n:Nat}:∀ {l:List Int},l.Nodup → (∀ a ∈ l,0 ≤ a ∧ a < n) → l.length ≤ n:=by
  induction n with
  | zero =>
    intro l _ h
    cases l with
    | nil => simp
    | cons a l => have:=h a (by simp); omega
  | succ n ih =>
    intro l hn h
    by_cases hm:(n:Int) ∈ l
    · have h1:=List.length_erase_of_mem hm
      have h2:=ih (l:=l.erase (n:Int)) (hn.erase _) (fun a ha => by
        have h3:=h a (List.mem_of_mem_erase ha)
        have h4:a ≠ (n:Int):=fun e => by
          subst e
          exact (List.Nodup.not_mem_erase hn) ha
        omega)
      omega
    · have:=ih hn (fun a ha => by
        have h3:=h a ha
        have:a ≠ (n:Int):=fun e => hm (e ▸ ha)
        omega)
      omega
theorem orderB_iff (l:List Int):orderB l=true ↔ Ord l:=by
  unfold orderB
  rw [Bool.and_eq_true,ordF_spec,decide_eq_true_eq]
  constructor
  · rintro ⟨⟨h1,h2,_⟩,h3⟩
    exact ⟨by omega,nodup_bound h2 (fun a ha => by have:=h1 a ha; omega),fun a ha => by have:=h1 a ha; omega,h2⟩
  · rintro ⟨h1,h2,h3,h4⟩
    exact ⟨⟨fun a ha => by have:=h3 a ha; omega,h4,fun a _ => by simp⟩,by omega⟩
end Go.Proofs.Ytmalpmnmknpphaa.TM
namespace Go.Proofs.Ytmalpmnmknpphaa.TM
open Go Go.RowKit
attribute [local irreducible] K W WOps Effs Xg Xo Xr Xdg Xdo Xdr Xif CallsP CallR
def itn (l:List Int) (a:Int):Nat → Int
  | 0 => a
  | k + 1 => l.getD (itn l a k).toNat 0
def orb (l:List Int) (a:Int) (k:Nat):List Int:=(List.range k).map (itn l a)
theorem orb_len (l:List Int) (a:Int) (k:Nat):(orb l a k).length=k:=by simp [orb]
theorem orb_succ (l:List Int) (a:Int) (k:Nat):orb l a (k + 1)=orb l a k ++ [itn l a k]:=by unfold orb; rw [List.range_succ,List.map_append]; rfl
theorem orb_zero (l:List Int) (a:Int):orb l a 0=[]:=rfl
def ringN (l s:List Int) (a:Int):Nat:=((List.range (l.length + 1)).find? fun k => decide (itn l a k ∈ s ++ orb l a k)).getD 0
theorem itn_in {l:List Int} (o:Ord l) {a:Int} (h0:0 ≤ a) (h1:a < l.length):∀ k,0 ≤ itn l a k ∧ itn l a k < l.length
  | 0 => ⟨h0,h1⟩
  | k + 1 => by
    have:=itn_in o h0 h1 k
    have h2:(itn l a k).toNat < l.length:=by omega
    rw [itn,List.getD_eq_getElem?_getD,List.getElem?_eq_getElem h2]
    exact o.mem _ (List.getElem_mem h2)
theorem orb_nodup {l s:List Int} {a:Int}:∀ k,(∀ i,i < k → itn l a i ∉ s ++ orb l a i) → (orb l a k).Nodup
  | 0,_ => List.nodup_nil
  | k + 1,h => by
    rw [orb_succ,List.nodup_append]
    refine ⟨orb_nodup k fun i hi => h i (by omega),by simp,fun x hx y hy => ?_⟩
    have:y=itn l a k:=by simpa using hy
    subst this
    intro e
    exact h k (by omega) (List.mem_append.2 (.inr (e ▸ hx)))
theorem ringN_spec {l:List Int} (o:Ord l) (s:List Int) {a:Int} (h0:0 ≤ a) (h1:a < l.length) :
    itn l a (ringN l s a) ∈ s ++ orb l a (ringN l s a) ∧ (∀ i,i < ringN l s a → itn l a i ∉ s ++ orb l a i) ∧ ringN l s a ≤ l.length:=by
  unfold ringN
  cases hf:(List.range (l.length + 1)).find? fun k => decide (itn l a k ∈ s ++ orb l a k) with
  | none =>
    exfalso
    have h2:∀ i,i < l.length + 1 → itn l a i ∉ s ++ orb l a i:=fun i hi => by
      have:=List.find?_eq_none.1 hf i (List.mem_range.2 hi)
      simpa using this
    have h3:=orb_nodup (l.length + 1) h2
    have h4:=nodup_bound h3 (n:=l.length) (fun x hx => by
      obtain ⟨i,_,rfl⟩:=List.mem_map.1 hx
      exact itn_in o h0 h1 i)
    rw [orb_len] at h4
    omega
  | some m =>
    rw [List.find?_range_eq_some] at hf
    obtain ⟨h2,h3,h4⟩:=hf
    simp only [Option.getD_some]
    refine ⟨by simpa using h2,fun i hi => ?_,?_⟩
    · have:=h4 i hi
      simpa using this
    · have:=List.mem_range.1 h3; omega
def rgs (l:List Int):Nat → List (List Int) × List Int
  | 0 => ([],[])
  | j + 1 => if (j:Int) ∈ (rgs l j).2 then rgs l j else ((rgs l j).1 ++ [orb l j (ringN l (rgs l j).2 j)],(rgs l j).2 ++ orb l j (ringN l (rgs l j).2 j))
def ringsI (l:List Int):List (List Int):=(rgs l l.length).1
abbrev ivl (l:List Int):IV:=.l l.length (l.map ii)
abbrev lli (x:List (List Int)):PV:=.i (.l x.length (x.map ivl))
def trM (s:List Int):List (Int × Value):=s.map fun a => (a,Value.bool true)
theorem getM_tr (n:Int):∀ s:List Int,getM n (trM s)=if n ∈ s then some (Value.bool true) else none
  | [] => by simp [trM,getM]
  | a::s => by
    have ih:=getM_tr n s
    unfold trM at ih ⊢
    rw [List.map_cons,getM]
    by_cases h:n=a
    · simp [h]
    · rw [if_neg h,ih]; simp [h]
theorem putM_tr (n:Int):∀ s:List Int,n ∉ s → putM n (Value.bool true) (trM s)=trM (s ++ [n])
  | [],_ => rfl
  | a::s,hn => by
    have h1:n ≠ a:=fun e => hn (by simp [e])
    have ih:=putM_tr n s fun h => hn (by simp [h])
    unfold trM at ih ⊢
    rw [List.cons_append,List.map_cons,List.map_cons,putM,if_neg h1,ih]
theorem rgs_len (l:List Int):∀ j,(rgs l j).1.length ≤ j
  | 0 => Nat.le_refl _
  | j + 1 => by
    have:=rgs_len l j
    rw [rgs]
    split
    · omega
    · simp; omega
set_option maxHeartbeats 2000000 in
theorem rings_walk (l:List Int) (o:Ord l):CallsP Try.prog 117 [li l] (lli (ringsI l)):=by
  have o1:=o.le
  have o2:=o.pos
  unfold ringsI
  refine X_startP (n:=38) (m:=1) (rs:=[.tmp 2]) Try.func117 rfl rfl rfl rfl (by decide) fun base => ?_
  repeat (first|refine X_opc rfl ?_|refine X_dopc rfl ?_|refine ⟨(by show drawK _ _=true; kernel_rfl:drawX _ _ _),?_⟩|exact (by show drawK _ _=true; kernel_rfl:drawX _ _ _)|simp -dsimp (maxSteps:=20000000) (disch:=omega) only [simx,zzC,zzB,tys,ite_self,opnL,callB,callX,readsB,stepOp,nilCmp,ofVal,opBuiltin,opLen,PV.sk,scalBin,scalUn,intBin,opLoad,natOf,opConvert,opField,cellsP,oneP,Value.oneCell',opStore,toIV,scalT,scalA,scalC,boxesA,boxesC,zipB_none,zipB_mx,isZ,opZip,zeroP,opAppendZ,opMakeMap,opLookup,mboxB,opUpdate,↓reduceIte,Nat.reduceSub,Nat.reduceEqDiff,Nat.reduceAdd,Nat.reduceMul,Nat.reduceLT,Nat.reduceLeDiff,Int.reduceToNat,Int.reduceLE,Int.reduceLT,Int.reduceNeg,reduceCtorEq,gos,Int.reduceAdd,Int.reduceSub,Int.reduceMul,Int.reduceEq])
  refine X_loopH [0,3,4,10,11] [(12,2)::base,(12,3)::base,(13,2)::base] (0) (l.length) (fun j => True) (fun j => [(4,rowP ((13,3)::base) 1 (rgs l j).1.length ((rgs l j).1.map ivl)),(11,i64 j)]) (fun j => rowH (Heap.none.put ((1,0)::base) (.map .i64 (trM (rgs l j).2))) ((13,3)::base) (rgs l j).1.length ((rgs l j).1.map ivl)) ?_ ?_ ?_ ?_ ?_ (by decide) ?_
  · exact (fgt_cons (by simp only [Heap.none_at]) (by (simp -dsimp only [zzB,tys,ite_self,opnL,callB,callX,readsB,stepOp,nilCmp,ofVal,opBuiltin,opLen,PV.sk,scalBin,scalUn,intBin,opLoad,natOf,opConvert,opField,cellsP,oneP,Value.oneCell',opStore,toIV,scalT,scalA,scalC,boxesA,boxesC,zipB_none,zipB_mx,isZ,opZip,zeroP,opAppendZ,opMakeMap,opLookup,mboxB,opUpdate,↓reduceIte,Nat.reduceSub,Nat.reduceEqDiff,Nat.reduceAdd,Nat.reduceMul,Nat.reduceLT,Nat.reduceLeDiff,Int.reduceToNat,Int.reduceLE,Int.reduceLT,Int.reduceNeg,reduceCtorEq,notIn_cons,notIn_nil]) <;> simp [refsL,refsP,mem_refs_rowP]) (by repeat (first|exact noVar_none _|refine noVar_row ?_|refine noVar_map ?_|refine noVar_rowH ?_|refine noVar_var ?_ (by simp [refsL,refsP,mem_refs_rowP]))) (fgt_cons (by simp only [Heap.none_at]) (by (simp -dsimp only [zzB,tys,ite_self,opnL,callB,callX,readsB,stepOp,nilCmp,ofVal,opBuiltin,opLen,PV.sk,scalBin,scalUn,intBin,opLoad,natOf,opConvert,opField,cellsP,oneP,Value.oneCell',opStore,toIV,scalT,scalA,scalC,boxesA,boxesC,zipB_none,zipB_mx,isZ,opZip,zeroP,opAppendZ,opMakeMap,opLookup,mboxB,opUpdate,↓reduceIte,Nat.reduceSub,Nat.reduceEqDiff,Nat.reduceAdd,Nat.reduceMul,Nat.reduceLT,Nat.reduceLeDiff,Int.reduceToNat,Int.reduceLE,Int.reduceLT,Int.reduceNeg,reduceCtorEq,notIn_cons,notIn_nil]) <;> simp [refsL,refsP,mem_refs_rowP]) (by repeat (first|exact noVar_none _|refine noVar_row ?_|refine noVar_map ?_|refine noVar_rowH ?_|refine noVar_var ?_ (by simp [refsL,refsP,mem_refs_rowP]))) (fgt_cons (by simp only [Heap.none_at]) (by (simp -dsimp only [zzB,tys,ite_self,opnL,callB,callX,readsB,stepOp,nilCmp,ofVal,opBuiltin,opLen,PV.sk,scalBin,scalUn,intBin,opLoad,natOf,opConvert,opField,cellsP,oneP,Value.oneCell',opStore,toIV,scalT,scalA,scalC,boxesA,boxesC,zipB_none,zipB_mx,isZ,opZip,zeroP,opAppendZ,opMakeMap,opLookup,mboxB,opUpdate,↓reduceIte,Nat.reduceSub,Nat.reduceEqDiff,Nat.reduceAdd,Nat.reduceMul,Nat.reduceLT,Nat.reduceLeDiff,Int.reduceToNat,Int.reduceLE,Int.reduceLT,Int.reduceNeg,reduceCtorEq,notIn_cons,notIn_nil]) <;> simp [refsL,refsP,mem_refs_rowP]) (by repeat (first|exact noVar_none _|refine noVar_row ?_|refine noVar_map ?_|refine noVar_rowH ?_|refine noVar_var ?_ (by simp [refsL,refsP,mem_refs_rowP]))) (fgt_nil))))
  · ((simp -dsimp (disch:=omega) only [simx,zzB,tys,ite_self,opnL,callB,callX,readsB,stepOp,nilCmp,ofVal,opBuiltin,opLen,PV.sk,scalBin,scalUn,intBin,opLoad,natOf,opConvert,opField,cellsP,oneP,Value.oneCell',opStore,toIV,scalT,scalA,scalC,boxesA,boxesC,zipB_none,zipB_mx,isZ,opZip,zeroP,opAppendZ,opMakeMap,opLookup,mboxB,opUpdate,↓reduceIte,Nat.reduceSub,Nat.reduceEqDiff,Nat.reduceAdd,Nat.reduceMul,Nat.reduceLT,Nat.reduceLeDiff,Int.reduceToNat,Int.reduceLE,Int.reduceLT,Int.reduceNeg,reduceCtorEq,gos,Int.reduceAdd,Int.reduceSub,Int.reduceMul,Int.reduceEq]) <;> first|rfl|simp [rowP,rgs])
  · funext c
    simp (maxSteps:=20000000) only [Heap.drop_at,rowH_app,Heap.put_at,Heap.none_at,List.mem_cons,List.not_mem_nil,or_false]
    by_cases e0:c=(1,0)::base
    · subst e0; simp [rgs,trM]
    by_cases e1:c=(12,2)::base
    · subst e1; simp [rgs,trM]
    by_cases e2:c=(12,3)::base
    · subst e2; simp [rgs,trM]
    by_cases e3:c=(13,2)::base
    · subst e3; simp [rgs,trM]
    simp [e0,e1,e2,e3,rgs,trM]
  · omega
  · trivial
  · intro j hj _
    by_cases cj:j < l.length
    · have gl:=rgs_len l j
      have rs:rgs l (j + 1)=if (j:Int) ∈ (rgs l j).2 then rgs l j else ((rgs l j).1 ++ [orb l j (ringN l (rgs l j).2 j)],(rgs l j).2 ++ orb l j (ringN l (rgs l j).2 j)):=rfl
      generalize rgs l j=q at gl rs ⊢
      generalize hq':rgs l (j + 1)=q' at rs
      obtain ⟨out,s⟩:=q
      simp only at gl rs ⊢
      have gm:=getM_tr (j:Int) s
      by_cases c1:(j:Int) ∈ s
      · rw [if_pos c1] at rs gm
        subst rs
        repeat (first|refine X_opc rfl ?_|refine X_dopc rfl ?_|refine ⟨(by show drawK _ _=true; kernel_rfl:drawX _ _ _),?_⟩|exact (by show drawK _ _=true; kernel_rfl:drawX _ _ _)|simp -dsimp (maxSteps:=20000000) (disch:=omega) only [simx,zzC,zzB,tys,ite_self,opnL,callB,callX,readsB,stepOp,nilCmp,ofVal,opBuiltin,opLen,PV.sk,scalBin,scalUn,intBin,opLoad,natOf,opConvert,opField,cellsP,oneP,Value.oneCell',opStore,toIV,scalT,scalA,scalC,boxesA,boxesC,zipB_none,zipB_mx,isZ,opZip,zeroP,opAppendZ,opMakeMap,opLookup,mboxB,opUpdate,↓reduceIte,Nat.reduceSub,Nat.reduceEqDiff,Nat.reduceAdd,Nat.reduceMul,Nat.reduceLT,Nat.reduceLeDiff,Int.reduceToNat,Int.reduceLE,Int.reduceLT,Int.reduceNeg,reduceCtorEq,gos,Int.reduceAdd,Int.reduceSub,Int.reduceMul,Int.reduceEq,cj,gm,Option.getD_some])
        refine ⟨cj,(fgt_cons (by simp only [Heap.none_at]) (by (simp -dsimp only [zzB,tys,ite_self,opnL,callB,callX,readsB,stepOp,nilCmp,ofVal,opBuiltin,opLen,PV.sk,scalBin,scalUn,intBin,opLoad,natOf,opConvert,opField,cellsP,oneP,Value.oneCell',opStore,toIV,scalT,scalA,scalC,boxesA,boxesC,zipB_none,zipB_mx,isZ,opZip,zeroP,opAppendZ,opMakeMap,opLookup,mboxB,opUpdate,↓reduceIte,Nat.reduceSub,Nat.reduceEqDiff,Nat.reduceAdd,Nat.reduceMul,Nat.reduceLT,Nat.reduceLeDiff,Int.reduceToNat,Int.reduceLE,Int.reduceLT,Int.reduceNeg,reduceCtorEq,notIn_cons,notIn_nil]) <;> simp [refsL,refsP,mem_refs_rowP]) (by repeat (first|exact noVar_none _|refine noVar_row ?_|refine noVar_map ?_|refine noVar_rowH ?_|refine noVar_var ?_ (by simp [refsL,refsP,mem_refs_rowP]))) (fgt_cons (by simp only [Heap.none_at]) (by (simp -dsimp only [zzB,tys,ite_self,opnL,callB,callX,readsB,stepOp,nilCmp,ofVal,opBuiltin,opLen,PV.sk,scalBin,scalUn,intBin,opLoad,natOf,opConvert,opField,cellsP,oneP,Value.oneCell',opStore,toIV,scalT,scalA,scalC,boxesA,boxesC,zipB_none,zipB_mx,isZ,opZip,zeroP,opAppendZ,opMakeMap,opLookup,mboxB,opUpdate,↓reduceIte,Nat.reduceSub,Nat.reduceEqDiff,Nat.reduceAdd,Nat.reduceMul,Nat.reduceLT,Nat.reduceLeDiff,Int.reduceToNat,Int.reduceLE,Int.reduceLT,Int.reduceNeg,reduceCtorEq,notIn_cons,notIn_nil]) <;> simp [refsL,refsP,mem_refs_rowP]) (by repeat (first|exact noVar_none _|refine noVar_row ?_|refine noVar_map ?_|refine noVar_rowH ?_|refine noVar_var ?_ (by simp [refsL,refsP,mem_refs_rowP]))) (fgt_cons (by simp only [Heap.none_at]) (by (simp -dsimp only [zzB,tys,ite_self,opnL,callB,callX,readsB,stepOp,nilCmp,ofVal,opBuiltin,opLen,PV.sk,scalBin,scalUn,intBin,opLoad,natOf,opConvert,opField,cellsP,oneP,Value.oneCell',opStore,toIV,scalT,scalA,scalC,boxesA,boxesC,zipB_none,zipB_mx,isZ,opZip,zeroP,opAppendZ,opMakeMap,opLookup,mboxB,opUpdate,↓reduceIte,Nat.reduceSub,Nat.reduceEqDiff,Nat.reduceAdd,Nat.reduceMul,Nat.reduceLT,Nat.reduceLeDiff,Int.reduceToNat,Int.reduceLE,Int.reduceLT,Int.reduceNeg,reduceCtorEq,notIn_cons,notIn_nil]) <;> simp [refsL,refsP,mem_refs_rowP]) (by repeat (first|exact noVar_none _|refine noVar_row ?_|refine noVar_map ?_|refine noVar_rowH ?_|refine noVar_var ?_ (by simp [refsL,refsP,mem_refs_rowP]))) (fgt_nil)))),⟨?_,rfl⟩,?_⟩
        · rw [hq']
        · rw [hq']
          funext c
          simp (maxSteps:=20000000) only [Heap.drop_at,rowH_app,Heap.put_at,Heap.none_at,List.mem_cons,List.not_mem_nil,or_false]
          by_cases e0:c=(1,0)::base
          · subst e0; simp []
          by_cases e1:c=(12,2)::base
          · subst e1; simp []
          by_cases e2:c=(12,3)::base
          · subst e2; simp []
          by_cases e3:c=(13,2)::base
          · subst e3; simp []
          by_cases e4:c=(13,3)::base
          · subst e4; simp []
          simp [e0,e1,e2,e3,e4]
      · rw [if_neg c1] at rs gm
        subst rs
        obtain ⟨n1,n2,n3⟩:=ringN_spec o s (a:=(j:Int)) (by omega) (by omega)
        generalize ringN l s j=m at n1 n2 n3 hq'
        have it:=itn_in o (a:=(j:Int)) (by omega) (by omega)
        repeat (first|refine X_opc rfl ?_|refine X_dopc rfl ?_|refine ⟨(by show drawK _ _=true; kernel_rfl:drawX _ _ _),?_⟩|exact (by show drawK _ _=true; kernel_rfl:drawX _ _ _)|simp -dsimp (maxSteps:=20000000) (disch:=omega) only [simx,zzC,zzB,tys,ite_self,opnL,callB,callX,readsB,stepOp,nilCmp,ofVal,opBuiltin,opLen,PV.sk,scalBin,scalUn,intBin,opLoad,natOf,opConvert,opField,cellsP,oneP,Value.oneCell',opStore,toIV,scalT,scalA,scalC,boxesA,boxesC,zipB_none,zipB_mx,isZ,opZip,zeroP,opAppendZ,opMakeMap,opLookup,mboxB,opUpdate,↓reduceIte,Nat.reduceSub,Nat.reduceEqDiff,Nat.reduceAdd,Nat.reduceMul,Nat.reduceLT,Nat.reduceLeDiff,Int.reduceToNat,Int.reduceLE,Int.reduceLT,Int.reduceNeg,reduceCtorEq,gos,Int.reduceAdd,Int.reduceSub,Int.reduceMul,Int.reduceEq,cj,gm,Option.getD_none])
        obtain ⟨J,hJ⟩:∃ J:Int,J=(j:Int):=⟨_,rfl⟩
        rw [← hJ] at n1 n2 it hq' gm ⊢
        refine X_loopH [0,3,4,6,7,10,11] [(12,2)::base] (0) (m) (fun j => True) (fun j => [(6,rowP ((12,3)::base) 1 j ((orb l J j).map ii)),(7,i64 (itn l J j))]) (fun j => rowH (rowH (Heap.none.put ((1,0)::base) (.map .i64 (trM (s ++ orb l J j)))) ((13,3)::base) out.length (out.map ivl)) ((12,3)::base) j ((orb l J j).map ii)) ?_ ?_ ?_ ?_ ?_ (by decide) ?_
        · exact (fgt_cons (by simp only [Heap.none_at]) (by (simp -dsimp only [zzB,tys,ite_self,opnL,callB,callX,readsB,stepOp,nilCmp,ofVal,opBuiltin,opLen,PV.sk,scalBin,scalUn,intBin,opLoad,natOf,opConvert,opField,cellsP,oneP,Value.oneCell',opStore,toIV,scalT,scalA,scalC,boxesA,boxesC,zipB_none,zipB_mx,isZ,opZip,zeroP,opAppendZ,opMakeMap,opLookup,mboxB,opUpdate,↓reduceIte,Nat.reduceSub,Nat.reduceEqDiff,Nat.reduceAdd,Nat.reduceMul,Nat.reduceLT,Nat.reduceLeDiff,Int.reduceToNat,Int.reduceLE,Int.reduceLT,Int.reduceNeg,reduceCtorEq,notIn_cons,notIn_nil]) <;> simp [refsL,refsP,mem_refs_rowP]) (by repeat (first|exact noVar_none _|refine noVar_row ?_|refine noVar_map ?_|refine noVar_rowH ?_|refine noVar_var ?_ (by simp [refsL,refsP,mem_refs_rowP]))) (fgt_nil))
        · ((simp -dsimp (disch:=omega) only [simx,zzB,tys,ite_self,opnL,callB,callX,readsB,stepOp,nilCmp,ofVal,opBuiltin,opLen,PV.sk,scalBin,scalUn,intBin,opLoad,natOf,opConvert,opField,cellsP,oneP,Value.oneCell',opStore,toIV,scalT,scalA,scalC,boxesA,boxesC,zipB_none,zipB_mx,isZ,opZip,zeroP,opAppendZ,opMakeMap,opLookup,mboxB,opUpdate,↓reduceIte,Nat.reduceSub,Nat.reduceEqDiff,Nat.reduceAdd,Nat.reduceMul,Nat.reduceLT,Nat.reduceLeDiff,Int.reduceToNat,Int.reduceLE,Int.reduceLT,Int.reduceNeg,reduceCtorEq,gos,Int.reduceAdd,Int.reduceSub,Int.reduceMul,Int.reduceEq]) <;> first|rfl|simp [rowP,orb,itn])
        · funext c
          simp (maxSteps:=20000000) only [Heap.drop_at,rowH_app,Heap.put_at,Heap.none_at,List.mem_cons,List.not_mem_nil,or_false]
          by_cases e0:c=(1,0)::base
          · subst e0; simp [orb]
          by_cases e1:c=(12,2)::base
          · subst e1; simp [orb]
          by_cases e2:c=(12,3)::base
          · subst e2; simp [orb]
          by_cases e3:c=(13,2)::base
          · subst e3; simp [orb]
          by_cases e4:c=(13,3)::base
          · subst e4; simp [orb]
          simp [e0,e1,e2,e3,e4,orb]
        · omega
        · trivial
        · intro k hk _
          have gk:=getM_tr (itn l J k) (s ++ orb l J k)
          by_cases ck:k < m
          · have nk:=n2 k ck
            rw [if_neg nk] at gk
            have pk:=putM_tr (itn l J k) (s ++ orb l J k) nk
            have os:=orb_succ l J k
            rw [List.append_assoc,← os] at pk
            have ol:=orb_len l J k
            obtain ⟨a0,a1⟩:=it k
            have a2:(itn l J k).toNat < l.length:=by omega
            have g2:l[(itn l J k).toNat]?=some (itn l J (k + 1)):=by
              rw [itn,List.getD_eq_getElem?_getD,List.getElem?_eq_getElem a2]; rfl
            generalize itn l J k=a at gk pk os a0 a2 g2 ⊢
            have a3:(k + 1) * 8 ≤ 140737488355328:=by omega
            repeat (first|refine X_opc rfl ?_|refine X_dopc rfl ?_|refine ⟨(by show drawK _ _=true; kernel_rfl:drawX _ _ _),?_⟩|exact (by show drawK _ _=true; kernel_rfl:drawX _ _ _)|simp -dsimp (maxSteps:=20000000) (disch:=omega) only [simx,zzC,zzB,tys,ite_self,opnL,callB,callX,readsB,stepOp,nilCmp,ofVal,opBuiltin,opLen,PV.sk,scalBin,scalUn,intBin,opLoad,natOf,opConvert,opField,cellsP,oneP,Value.oneCell',opStore,toIV,scalT,scalA,scalC,boxesA,boxesC,zipB_none,zipB_mx,isZ,opZip,zeroP,opAppendZ,opMakeMap,opLookup,mboxB,opUpdate,↓reduceIte,Nat.reduceSub,Nat.reduceEqDiff,Nat.reduceAdd,Nat.reduceMul,Nat.reduceLT,Nat.reduceLeDiff,Int.reduceToNat,Int.reduceLE,Int.reduceLT,Int.reduceNeg,reduceCtorEq,gos,Int.reduceAdd,Int.reduceSub,Int.reduceMul,Int.reduceEq,gk,pk,Option.getD_none])
            refine X_append_one 3 [.int .i64 0] [ii a] (by simp only [tys]) (by simp only [tys]) rfl (by decide) (by simp [ol]) (by simp [Heap.put_at,Heap.none_at,rowH_app]) (by simp [Heap.put_at,rowH_app]; rfl) rfl (by simp only [tys]; exact a3) (by rw [mx_len]; omega) ?_
            repeat (first|refine X_opc rfl ?_|refine X_dopc rfl ?_|refine ⟨(by show drawK _ _=true; kernel_rfl:drawX _ _ _),?_⟩|exact (by show drawK _ _=true; kernel_rfl:drawX _ _ _)|simp -dsimp (maxSteps:=20000000) (disch:=omega) only [simx,zzC,zzB,tys,ite_self,opnL,callB,callX,readsB,stepOp,nilCmp,ofVal,opBuiltin,opLen,PV.sk,scalBin,scalUn,intBin,opLoad,natOf,opConvert,opField,cellsP,oneP,Value.oneCell',opStore,toIV,scalT,scalA,scalC,boxesA,boxesC,zipB_none,zipB_mx,isZ,opZip,zeroP,opAppendZ,opMakeMap,opLookup,mboxB,opUpdate,↓reduceIte,Nat.reduceSub,Nat.reduceEqDiff,Nat.reduceAdd,Nat.reduceMul,Nat.reduceLT,Nat.reduceLeDiff,Int.reduceToNat,Int.reduceLE,Int.reduceLT,Int.reduceNeg,reduceCtorEq,gos,Int.reduceAdd,Int.reduceSub,Int.reduceMul,Int.reduceEq,a0,a2,g2])
            refine ⟨ck,(fgt_cons (by simp only [Heap.none_at]) (by (simp -dsimp only [zzB,tys,ite_self,opnL,callB,callX,readsB,stepOp,nilCmp,ofVal,opBuiltin,opLen,PV.sk,scalBin,scalUn,intBin,opLoad,natOf,opConvert,opField,cellsP,oneP,Value.oneCell',opStore,toIV,scalT,scalA,scalC,boxesA,boxesC,zipB_none,zipB_mx,isZ,opZip,zeroP,opAppendZ,opMakeMap,opLookup,mboxB,opUpdate,↓reduceIte,Nat.reduceSub,Nat.reduceEqDiff,Nat.reduceAdd,Nat.reduceMul,Nat.reduceLT,Nat.reduceLeDiff,Int.reduceToNat,Int.reduceLE,Int.reduceLT,Int.reduceNeg,reduceCtorEq,notIn_cons,notIn_nil]) <;> simp [refsL,refsP,mem_refs_rowP]) (by repeat (first|exact noVar_none _|refine noVar_row ?_|refine noVar_map ?_|refine noVar_rowH ?_|refine noVar_var ?_ (by simp [refsL,refsP,mem_refs_rowP]))) (fgt_nil)),?_,?_⟩
            · rw [os]; simp
            · funext c
              simp (maxSteps:=20000000) only [Heap.drop_at,rowH_app,Heap.put_at,Heap.none_at,List.mem_cons,List.not_mem_nil,or_false]
              by_cases e0:c=(1,0)::base
              · subst e0; simp [os]
              by_cases e1:c=(12,2)::base
              · subst e1; simp [os]
              by_cases e2:c=(12,3)::base
              · subst e2; simp [os]
              by_cases e3:c=(13,2)::base
              · subst e3; simp [os]
              by_cases e4:c=(13,3)::base
              · subst e4; simp [os]
              simp [e0,e1,e2,e3,e4,os]
          · have hkm:k=m:=by omega
            subst hkm
            rw [if_pos n1] at gk
            have ol:=orb_len l J k
            have kp:∃ q,k=q + 1:=by
              cases k with
              | zero => rw [show itn l J 0=J from rfl,orb_zero,List.append_nil] at n1; exact absurd n1 (hJ ▸ c1)
              | succ q => exact ⟨q,rfl⟩
            obtain ⟨q,rfl⟩:=kp
            have e2:((orb l J (q + 1)).map ii).take (q + 1)=(orb l J (q + 1)).map ii:=List.take_of_length_le (by simp [ol])
            repeat (first|refine X_opc rfl ?_|refine X_dopc rfl ?_|refine ⟨(by show drawK _ _=true; kernel_rfl:drawX _ _ _),?_⟩|exact (by show drawK _ _=true; kernel_rfl:drawX _ _ _)|simp -dsimp (maxSteps:=20000000) (disch:=omega) only [simx,zzC,zzB,tys,ite_self,opnL,callB,callX,readsB,stepOp,nilCmp,ofVal,opBuiltin,opLen,PV.sk,scalBin,scalUn,intBin,opLoad,natOf,opConvert,opField,cellsP,oneP,Value.oneCell',opStore,toIV,scalT,scalA,scalC,boxesA,boxesC,zipB_none,zipB_mx,isZ,opZip,zeroP,opAppendZ,opMakeMap,opLookup,mboxB,opUpdate,↓reduceIte,Nat.reduceSub,Nat.reduceEqDiff,Nat.reduceAdd,Nat.reduceMul,Nat.reduceLT,Nat.reduceLeDiff,Int.reduceToNat,Int.reduceLE,Int.reduceLT,Int.reduceNeg,reduceCtorEq,gos,Int.reduceAdd,Int.reduceSub,Int.reduceMul,Int.reduceEq,gk,Option.getD_some,rowP_succ,rowH_succ,List.length_map,ol,e2])
            have e3:ivl (orb l J (q + 1))=IV.l (q + 1) ((orb l J (q + 1)).map ii):=by rw [ivl,ol]
            have e4:(out.length + 1) * 24 ≤ 140737488355328:=by omega
            refine X_append_one 52 [.slice none 0 0] [IV.l (q + 1) ((orb l J (q + 1)).map ii)] (by simp only [tys]) (by simp only [tys]) rfl (by decide) (by simp) (by simp [Heap.put_at,Heap.none_at,rowH_app]) (by simp [Heap.put_at,rowH_app]; rfl) rfl (by simp only [tys]; exact e4) (by rw [mx_len]; omega) ?_
            rw [← e3]
            repeat (first|refine X_opc rfl ?_|refine X_dopc rfl ?_|refine ⟨(by show drawK _ _=true; kernel_rfl:drawX _ _ _),?_⟩|exact (by show drawK _ _=true; kernel_rfl:drawX _ _ _)|simp -dsimp (maxSteps:=20000000) (disch:=omega) only [simx,zzC,zzB,tys,ite_self,opnL,callB,callX,readsB,stepOp,nilCmp,ofVal,opBuiltin,opLen,PV.sk,scalBin,scalUn,intBin,opLoad,natOf,opConvert,opField,cellsP,oneP,Value.oneCell',opStore,toIV,scalT,scalA,scalC,boxesA,boxesC,zipB_none,zipB_mx,isZ,opZip,zeroP,opAppendZ,opMakeMap,opLookup,mboxB,opUpdate,↓reduceIte,Nat.reduceSub,Nat.reduceEqDiff,Nat.reduceAdd,Nat.reduceMul,Nat.reduceLT,Nat.reduceLeDiff,Int.reduceToNat,Int.reduceLE,Int.reduceLT,Int.reduceNeg,reduceCtorEq,gos,Int.reduceAdd,Int.reduceSub,Int.reduceMul,Int.reduceEq,hJ])
            refine ⟨cj,(fgt_cons (by simp only [Heap.none_at]) (by (simp -dsimp only [zzB,tys,ite_self,opnL,callB,callX,readsB,stepOp,nilCmp,ofVal,opBuiltin,opLen,PV.sk,scalBin,scalUn,intBin,opLoad,natOf,opConvert,opField,cellsP,oneP,Value.oneCell',opStore,toIV,scalT,scalA,scalC,boxesA,boxesC,zipB_none,zipB_mx,isZ,opZip,zeroP,opAppendZ,opMakeMap,opLookup,mboxB,opUpdate,↓reduceIte,Nat.reduceSub,Nat.reduceEqDiff,Nat.reduceAdd,Nat.reduceMul,Nat.reduceLT,Nat.reduceLeDiff,Int.reduceToNat,Int.reduceLE,Int.reduceLT,Int.reduceNeg,reduceCtorEq,notIn_cons,notIn_nil]) <;> simp [refsL,refsP,mem_refs_rowP]) (by repeat (first|exact noVar_none _|refine noVar_row ?_|refine noVar_map ?_|refine noVar_rowH ?_|refine noVar_var ?_ (by simp [refsL,refsP,mem_refs_rowP]))) (fgt_cons (by simp only [Heap.none_at]) (by (simp -dsimp only [zzB,tys,ite_self,opnL,callB,callX,readsB,stepOp,nilCmp,ofVal,opBuiltin,opLen,PV.sk,scalBin,scalUn,intBin,opLoad,natOf,opConvert,opField,cellsP,oneP,Value.oneCell',opStore,toIV,scalT,scalA,scalC,boxesA,boxesC,zipB_none,zipB_mx,isZ,opZip,zeroP,opAppendZ,opMakeMap,opLookup,mboxB,opUpdate,↓reduceIte,Nat.reduceSub,Nat.reduceEqDiff,Nat.reduceAdd,Nat.reduceMul,Nat.reduceLT,Nat.reduceLeDiff,Int.reduceToNat,Int.reduceLE,Int.reduceLT,Int.reduceNeg,reduceCtorEq,notIn_cons,notIn_nil]) <;> simp [refsL,refsP,mem_refs_rowP]) (by repeat (first|exact noVar_none _|refine noVar_row ?_|refine noVar_map ?_|refine noVar_rowH ?_|refine noVar_var ?_ (by simp [refsL,refsP,mem_refs_rowP]))) (fgt_cons (by simp only [Heap.none_at]) (by (simp -dsimp only [zzB,tys,ite_self,opnL,callB,callX,readsB,stepOp,nilCmp,ofVal,opBuiltin,opLen,PV.sk,scalBin,scalUn,intBin,opLoad,natOf,opConvert,opField,cellsP,oneP,Value.oneCell',opStore,toIV,scalT,scalA,scalC,boxesA,boxesC,zipB_none,zipB_mx,isZ,opZip,zeroP,opAppendZ,opMakeMap,opLookup,mboxB,opUpdate,↓reduceIte,Nat.reduceSub,Nat.reduceEqDiff,Nat.reduceAdd,Nat.reduceMul,Nat.reduceLT,Nat.reduceLeDiff,Int.reduceToNat,Int.reduceLE,Int.reduceLT,Int.reduceNeg,reduceCtorEq,notIn_cons,notIn_nil]) <;> simp [refsL,refsP,mem_refs_rowP]) (by repeat (first|exact noVar_none _|refine noVar_row ?_|refine noVar_map ?_|refine noVar_rowH ?_|refine noVar_var ?_ (by simp [refsL,refsP,mem_refs_rowP]))) (fgt_nil)))),⟨?_,rfl⟩,?_⟩
            · rw [hq',hJ]; simp
            · rw [hq',hJ]
              funext c
              simp (maxSteps:=20000000) only [Heap.drop_at,rowH_app,Heap.put_at,Heap.none_at,List.mem_cons,List.not_mem_nil,or_false]
              by_cases e0:c=(1,0)::base
              · subst e0; simp [List.length_append,List.length_singleton,List.map_append,List.map_cons,List.map_nil]
              by_cases e1:c=(12,2)::base
              · subst e1; simp [List.length_append,List.length_singleton,List.map_append,List.map_cons,List.map_nil]
              by_cases e2:c=(12,3)::base
              · subst e2; simp [List.length_append,List.length_singleton,List.map_append,List.map_cons,List.map_nil]
              by_cases e3:c=(13,2)::base
              · subst e3; simp [List.length_append,List.length_singleton,List.map_append,List.map_cons,List.map_nil]
              by_cases e4:c=(13,3)::base
              · subst e4; simp [List.length_append,List.length_singleton,List.map_append,List.map_cons,List.map_nil]
              simp [e0,e1,e2,e3,e4,List.length_append,List.length_singleton,List.map_append,List.map_cons,List.map_nil]
    · have hj:j=l.length:=by omega
      subst hj
      generalize (rgs l l.length).2=s
      generalize (rgs l l.length).1=out
      cases out with
      | nil =>
        repeat (first|refine X_opc rfl ?_|refine X_dopc rfl ?_|refine ⟨(by show drawK _ _=true; kernel_rfl:drawX _ _ _),?_⟩|exact (by show drawK _ _=true; kernel_rfl:drawX _ _ _)|simp -dsimp (maxSteps:=20000000) (disch:=omega) only [simx,zzC,zzB,tys,ite_self,opnL,callB,callX,readsB,stepOp,nilCmp,ofVal,opBuiltin,opLen,PV.sk,scalBin,scalUn,intBin,opLoad,natOf,opConvert,opField,cellsP,oneP,Value.oneCell',opStore,toIV,scalT,scalA,scalC,boxesA,boxesC,zipB_none,zipB_mx,isZ,opZip,zeroP,opAppendZ,opMakeMap,opLookup,mboxB,opUpdate,↓reduceIte,Nat.reduceSub,Nat.reduceEqDiff,Nat.reduceAdd,Nat.reduceMul,Nat.reduceLT,Nat.reduceLeDiff,Int.reduceToNat,Int.reduceLE,Int.reduceLT,Int.reduceNeg,reduceCtorEq,zzR,gos,Int.reduceAdd,Int.reduceSub,Int.reduceMul,Int.reduceEq,rowP_zero])
        rfl
      | cons r out =>
        have e1:(r::out).length=out.length + 1:=rfl
        have e2:((r::out).map ivl).take (out.length + 1)=(r::out).map ivl:=List.take_of_length_le (by simp)
        have e3:((r::out).map ivl).length=out.length + 1:=by simp
        rw [lli,e1]
        generalize (r::out).map ivl=cs at e2 e3 ⊢
        repeat (first|refine X_opc rfl ?_|refine X_dopc rfl ?_|refine ⟨(by show drawK _ _=true; kernel_rfl:drawX _ _ _),?_⟩|exact (by show drawK _ _=true; kernel_rfl:drawX _ _ _)|simp -dsimp (maxSteps:=20000000) (disch:=omega) only [simx,zzC,zzB,tys,ite_self,opnL,callB,callX,readsB,stepOp,nilCmp,ofVal,opBuiltin,opLen,PV.sk,scalBin,scalUn,intBin,opLoad,natOf,opConvert,opField,cellsP,oneP,Value.oneCell',opStore,toIV,scalT,scalA,scalC,boxesA,boxesC,zipB_none,zipB_mx,isZ,opZip,zeroP,opAppendZ,opMakeMap,opLookup,mboxB,opUpdate,↓reduceIte,Nat.reduceSub,Nat.reduceEqDiff,Nat.reduceAdd,Nat.reduceMul,Nat.reduceLT,Nat.reduceLeDiff,Int.reduceToNat,Int.reduceLE,Int.reduceLT,Int.reduceNeg,reduceCtorEq,zzR,gos,Int.reduceAdd,Int.reduceSub,Int.reduceMul,Int.reduceEq,rowP_succ,rowH_succ,e2,e3])
end Go.Proofs.Ytmalpmnmknpphaa.TM
namespace Go.Proofs.Ytmalpmnmknpphaa.TM
open Go Go.RowKit
attribute [local irreducible] K W WOps Effs Xg Xo Xr Xdg Xdo Xdr Xif CallsP CallR
theorem row_walk {r c i:Nat} {l:List Int} (hl:l.length=r * c) (hr:r ≤ 64) (hc:c ≤ 64) (hi:i < r):CallsP Try.prog 104 [matP r c l,i64 i] (lu (rowM c l i)):=by
  have b1:=ic_bd (c:=c) hi
  have b2:=rc_bd hr hc
  have rl:=rowM_len hl hi
  have m0:i * c ≤ 4096:=by omega
  have m1:(i + 1) * c=i * c + c:=Nat.succ_mul i c
  have e1:IntKind.i64.wrap ((i:Int) * (c:Int))=((i * c:Nat):Int):=by rw [← Int.natCast_mul]; exact iw_of (by omega) (by omega)
  have e2:IntKind.i64.wrap (((i:Int) + 1) * (c:Int))=((i * c + c:Nat):Int):=by
    rw [show ((i:Int) + 1) * (c:Int)=((i * c + c:Nat):Int) by rw [← m1]; push_cast; rfl]; exact iw_of (by omega) (by omega)
  have e3:i * c + c - i * c=c:=by omega
  have e4:((l.map iu).drop (i * c)).take c=(rowM c l i).map iu:=by unfold rowM; rw [List.map_take,List.map_drop]
  have e5:i * c ≤ i * c + c:=by omega
  have e6:i * c + c ≤ l.length:=by omega
  refine X_startP (n:=17) (m:=2) (rs:=[.tmp 4]) Try.func104 rfl rfl rfl rfl (by decide) fun base => ?_
  repeat (first|refine X_opc rfl ?_|refine X_dopc rfl ?_|refine ⟨(by show drawK _ _=true; kernel_rfl:drawX _ _ _),?_⟩|exact (by show drawK _ _=true; kernel_rfl:drawX _ _ _)|simp -dsimp (maxSteps:=20000000) (disch:=omega) only [simx,zzC,zzB,tys,ite_self,opnL,callB,callX,readsB,stepOp,nilCmp,ofVal,opBuiltin,opLen,PV.sk,scalBin,scalUn,intBin,opLoad,natOf,opConvert,opField,cellsP,oneP,Value.oneCell',opStore,toIV,scalT,scalA,scalC,boxesA,boxesC,zipB_none,zipB_mx,isZ,opZip,zeroP,opAppendZ,opMakeMap,opLookup,mboxB,opUpdate,↓reduceIte,Nat.reduceSub,Nat.reduceEqDiff,Nat.reduceAdd,Nat.reduceMul,Nat.reduceLT,Nat.reduceLeDiff,Int.reduceToNat,Int.reduceLE,Int.reduceLT,Int.reduceNeg,reduceCtorEq,zzR,gos,Int.reduceAdd,Int.reduceSub,Int.reduceMul,Int.reduceEq,e1,e2,e3,e4,e5,e6,List.length_map,lu,rl])
def timesR (p r c:Int) (l x:List Int):List Int × Int:=if MatB p r c l && (HasB p x && decide ((x.length:Int)=c)) then (timesM p r.toNat c.toNat l x,0) else ([],1)
set_option maxHeartbeats 4000000 in
theorem times_walk (p r c:Int) (l x:List Int) (hl:l.length ≤ maxLen) (hx:x.length ≤ maxLen) (wl:W64s l) (wx:W64s x):CallsP Try.prog 57 [u64 p,matP r c l,lu x] (.tup [lu (timesR p r c l x).1,i64 (timesR p r c l x).2]):=by
  have q1:=mright_walk p r c l hl
  have q2:=has_walk p x hx
  unfold timesR
  cases h1:MatB p r c l with
  | false =>
    rw [h1] at q1
    refine X_startP (n:=49) (m:=3) (rs:=[.tmp 6,.tmp 7]) Try.func57 rfl rfl rfl rfl (by decide) fun base => ?_
    repeat (first|((first|refine X_call_fn2 rfl (by simp only [tys]) ?_|refine X_dcall_fn2 rfl (by simp only [tys]) ?_); apply Exists.intro; apply And.intro; (focus (simp -dsimp only [simx,zzC,zzB,tys,ite_self,opnL,callB,callX,readsB,stepOp,nilCmp,ofVal,opBuiltin,opLen,PV.sk,scalBin,scalUn,intBin,opLoad,natOf,opConvert,opField,cellsP,oneP,Value.oneCell',opStore,toIV,scalT,scalA,scalC,boxesA,boxesC,zipB_none,zipB_mx,isZ,opZip,zeroP,opAppendZ,opMakeMap,opLookup,mboxB,opUpdate,↓reduceIte,Nat.reduceSub,Nat.reduceEqDiff,Nat.reduceAdd,Nat.reduceMul,Nat.reduceLT,Nat.reduceLeDiff,Int.reduceToNat,Int.reduceLE,Int.reduceLT,Int.reduceNeg,reduceCtorEq,zzL,if_true,if_false] <;> rfl)); apply Exists.intro; apply And.intro; (focus (first|exact q1)))|refine X_opc rfl ?_|refine X_dopc rfl ?_|refine ⟨(by show drawK _ _=true; kernel_rfl:drawX _ _ _),?_⟩|exact (by show drawK _ _=true; kernel_rfl:drawX _ _ _)|simp -dsimp (maxSteps:=20000000) (disch:=omega) only [simx,zzC,zzB,tys,ite_self,opnL,callB,callX,readsB,stepOp,nilCmp,ofVal,opBuiltin,opLen,PV.sk,scalBin,scalUn,intBin,opLoad,natOf,opConvert,opField,cellsP,oneP,Value.oneCell',opStore,toIV,scalT,scalA,scalC,boxesA,boxesC,zipB_none,zipB_mx,isZ,opZip,zeroP,opAppendZ,opMakeMap,opLookup,mboxB,opUpdate,↓reduceIte,Nat.reduceSub,Nat.reduceEqDiff,Nat.reduceAdd,Nat.reduceMul,Nat.reduceLT,Nat.reduceLeDiff,Int.reduceToNat,Int.reduceLE,Int.reduceLT,Int.reduceNeg,reduceCtorEq,zzR,gos,Int.reduceAdd,Int.reduceSub,Int.reduceMul,Int.reduceEq])
    rfl
  | true =>
    rw [h1] at q1
    cases h2:HasB p x with
    | false =>
      rw [h2] at q2
      refine X_startP (n:=49) (m:=3) (rs:=[.tmp 6,.tmp 7]) Try.func57 rfl rfl rfl rfl (by decide) fun base => ?_
      repeat (first|((first|refine X_call_fn2 rfl (by simp only [tys]) ?_|refine X_dcall_fn2 rfl (by simp only [tys]) ?_); apply Exists.intro; apply And.intro; (focus (simp -dsimp only [simx,zzC,zzB,tys,ite_self,opnL,callB,callX,readsB,stepOp,nilCmp,ofVal,opBuiltin,opLen,PV.sk,scalBin,scalUn,intBin,opLoad,natOf,opConvert,opField,cellsP,oneP,Value.oneCell',opStore,toIV,scalT,scalA,scalC,boxesA,boxesC,zipB_none,zipB_mx,isZ,opZip,zeroP,opAppendZ,opMakeMap,opLookup,mboxB,opUpdate,↓reduceIte,Nat.reduceSub,Nat.reduceEqDiff,Nat.reduceAdd,Nat.reduceMul,Nat.reduceLT,Nat.reduceLeDiff,Int.reduceToNat,Int.reduceLE,Int.reduceLT,Int.reduceNeg,reduceCtorEq,zzL,if_true,if_false] <;> rfl)); apply Exists.intro; apply And.intro; (focus (first|exact q1|exact q2)))|refine X_opc rfl ?_|refine X_dopc rfl ?_|refine ⟨(by show drawK _ _=true; kernel_rfl:drawX _ _ _),?_⟩|exact (by show drawK _ _=true; kernel_rfl:drawX _ _ _)|simp -dsimp (maxSteps:=20000000) (disch:=omega) only [simx,zzC,zzB,tys,ite_self,opnL,callB,callX,readsB,stepOp,nilCmp,ofVal,opBuiltin,opLen,PV.sk,scalBin,scalUn,intBin,opLoad,natOf,opConvert,opField,cellsP,oneP,Value.oneCell',opStore,toIV,scalT,scalA,scalC,boxesA,boxesC,zipB_none,zipB_mx,isZ,opZip,zeroP,opAppendZ,opMakeMap,opLookup,mboxB,opUpdate,↓reduceIte,Nat.reduceSub,Nat.reduceEqDiff,Nat.reduceAdd,Nat.reduceMul,Nat.reduceLT,Nat.reduceLeDiff,Int.reduceToNat,Int.reduceLE,Int.reduceLT,Int.reduceNeg,reduceCtorEq,zzR,gos,Int.reduceAdd,Int.reduceSub,Int.reduceMul,Int.reduceEq])
      rfl
    | true =>
      rw [h2] at q2
      by_cases h3:(x.length:Int)=c
      · rw [decide_eq_true h3]
        obtain ⟨R,C,rfl,rfl,M⟩:=mat_of h1
        have h3':x.length=C:=by omega
        simp only [Bool.and_self,if_true,Int.toNat_natCast]
        have r1:=M.r1
        have r2:=M.r2
        have p1:=M.hp.1
        unfold timesM
        refine X_startP (n:=49) (m:=3) (rs:=[.tmp 6,.tmp 7]) Try.func57 rfl rfl rfl rfl (by decide) fun base => ?_
        repeat (first|((first|refine X_call_fn2 rfl (by simp only [tys]) ?_|refine X_dcall_fn2 rfl (by simp only [tys]) ?_); apply Exists.intro; apply And.intro; (focus (simp -dsimp only [simx,zzC,zzB,tys,ite_self,opnL,callB,callX,readsB,stepOp,nilCmp,ofVal,opBuiltin,opLen,PV.sk,scalBin,scalUn,intBin,opLoad,natOf,opConvert,opField,cellsP,oneP,Value.oneCell',opStore,toIV,scalT,scalA,scalC,boxesA,boxesC,zipB_none,zipB_mx,isZ,opZip,zeroP,opAppendZ,opMakeMap,opLookup,mboxB,opUpdate,↓reduceIte,Nat.reduceSub,Nat.reduceEqDiff,Nat.reduceAdd,Nat.reduceMul,Nat.reduceLT,Nat.reduceLeDiff,Int.reduceToNat,Int.reduceLE,Int.reduceLT,Int.reduceNeg,reduceCtorEq,zzL,if_true,if_false] <;> rfl)); apply Exists.intro; apply And.intro; (focus (first|exact q1|exact q2)))|refine X_opc rfl ?_|refine X_dopc rfl ?_|refine ⟨(by show drawK _ _=true; kernel_rfl:drawX _ _ _),?_⟩|exact (by show drawK _ _=true; kernel_rfl:drawX _ _ _)|simp -dsimp (maxSteps:=20000000) (disch:=omega) only [simx,zzC,zzB,tys,ite_self,opnL,callB,callX,readsB,stepOp,nilCmp,ofVal,opBuiltin,opLen,PV.sk,scalBin,scalUn,intBin,opLoad,natOf,opConvert,opField,cellsP,oneP,Value.oneCell',opStore,toIV,scalT,scalA,scalC,boxesA,boxesC,zipB_none,zipB_mx,isZ,opZip,zeroP,opAppendZ,opMakeMap,opLookup,mboxB,opUpdate,↓reduceIte,Nat.reduceSub,Nat.reduceEqDiff,Nat.reduceAdd,Nat.reduceMul,Nat.reduceLT,Nat.reduceLeDiff,Int.reduceToNat,Int.reduceLE,Int.reduceLT,Int.reduceNeg,reduceCtorEq,gos,Int.reduceAdd,Int.reduceSub,Int.reduceMul,Int.reduceEq])
        refine X_loopH [0,2,4,8,30,31] [(8,2)::base] (0) (R) (fun j => True) (fun j => [(8,rowP ((8,3)::base) 1 j (((List.range j).map (fun i => dotI (rowM C l i) x % p)).map iu)),(31,i64 j)]) (fun j => rowH (Heap.none.put ((0,0)::base) (.var [i64 R,i64 C,lu l])) ((8,3)::base) j (((List.range j).map (fun i => dotI (rowM C l i) x % p)).map iu)) ?_ ?_ ?_ ?_ ?_ (by decide) ?_
        · exact (fgt_cons (by simp only [Heap.none_at]) (by (simp -dsimp only [zzB,tys,ite_self,opnL,callB,callX,readsB,stepOp,nilCmp,ofVal,opBuiltin,opLen,PV.sk,scalBin,scalUn,intBin,opLoad,natOf,opConvert,opField,cellsP,oneP,Value.oneCell',opStore,toIV,scalT,scalA,scalC,boxesA,boxesC,zipB_none,zipB_mx,isZ,opZip,zeroP,opAppendZ,opMakeMap,opLookup,mboxB,opUpdate,↓reduceIte,Nat.reduceSub,Nat.reduceEqDiff,Nat.reduceAdd,Nat.reduceMul,Nat.reduceLT,Nat.reduceLeDiff,Int.reduceToNat,Int.reduceLE,Int.reduceLT,Int.reduceNeg,reduceCtorEq,notIn_cons,notIn_nil]) <;> simp [refsL,refsP,mem_refs_rowP]) (by repeat (first|exact noVar_none _|refine noVar_row ?_|refine noVar_map ?_|refine noVar_rowH ?_|refine noVar_var ?_ (by simp [refsL,refsP,mem_refs_rowP]))) (fgt_nil))
        · ((simp -dsimp (disch:=omega) only [simx,zzB,tys,ite_self,opnL,callB,callX,readsB,stepOp,nilCmp,ofVal,opBuiltin,opLen,PV.sk,scalBin,scalUn,intBin,opLoad,natOf,opConvert,opField,cellsP,oneP,Value.oneCell',opStore,toIV,scalT,scalA,scalC,boxesA,boxesC,zipB_none,zipB_mx,isZ,opZip,zeroP,opAppendZ,opMakeMap,opLookup,mboxB,opUpdate,↓reduceIte,Nat.reduceSub,Nat.reduceEqDiff,Nat.reduceAdd,Nat.reduceMul,Nat.reduceLT,Nat.reduceLeDiff,Int.reduceToNat,Int.reduceLE,Int.reduceLT,Int.reduceNeg,reduceCtorEq,gos,Int.reduceAdd,Int.reduceSub,Int.reduceMul,Int.reduceEq]) <;> first|rfl|simp [rowP])
        · funext c
          simp (maxSteps:=20000000) only [Heap.drop_at,rowH_app,Heap.put_at,Heap.none_at,List.mem_cons,List.not_mem_nil,or_false]
          by_cases e0:c=(0,0)::base
          · subst e0; simp []
          by_cases e1:c=(8,2)::base
          · subst e1; simp []
          simp [e0,e1]
        · omega
        · trivial
        · intro j hj _
          by_cases cj:j < R
          · have d1:=row_walk M.len M.r2 M.c2 cj
            have rl:=rowM_len M.len cj
            have d2:=dot_walk p (rowM C l j) x (by rw [rl,mx_len]; have:=M.c2; omega) hx (fun a ha => wl a (rowM_mem ha)) wx
            rw [show dotR p (rowM C l j) x=(dotI (rowM C l j) x % p,0) by
              unfold dotR
              rw [show HasB p (rowM C l j)=true from (has_iff _ _).2 ⟨fun a ha => M.has a (rowM_mem ha),M.hp.1,M.hp.2⟩,h2,decide_eq_true (show (rowM C l j).length=x.length by omega)]; rfl] at d2
            have tk:=timesM_take (p:=p) (c:=C) (l:=l) (x:=x) cj
            repeat (first|((first|refine X_call_fn2 rfl (by simp only [tys]) ?_|refine X_dcall_fn2 rfl (by simp only [tys]) ?_); apply Exists.intro; apply And.intro; (focus (simp -dsimp only [simx,zzC,zzB,tys,ite_self,opnL,callB,callX,readsB,stepOp,nilCmp,ofVal,opBuiltin,opLen,PV.sk,scalBin,scalUn,intBin,opLoad,natOf,opConvert,opField,cellsP,oneP,Value.oneCell',opStore,toIV,scalT,scalA,scalC,boxesA,boxesC,zipB_none,zipB_mx,isZ,opZip,zeroP,opAppendZ,opMakeMap,opLookup,mboxB,opUpdate,↓reduceIte,Nat.reduceSub,Nat.reduceEqDiff,Nat.reduceAdd,Nat.reduceMul,Nat.reduceLT,Nat.reduceLeDiff,Int.reduceToNat,Int.reduceLE,Int.reduceLT,Int.reduceNeg,reduceCtorEq,zzL,if_true,if_false] <;> rfl)); apply Exists.intro; apply And.intro; (focus (first|exact d1|exact d2)))|refine X_opc rfl ?_|refine X_dopc rfl ?_|refine ⟨(by show drawK _ _=true; kernel_rfl:drawX _ _ _),?_⟩|exact (by show drawK _ _=true; kernel_rfl:drawX _ _ _)|simp -dsimp (maxSteps:=20000000) (disch:=omega) only [simx,zzC,zzB,tys,ite_self,opnL,callB,callX,readsB,stepOp,nilCmp,ofVal,opBuiltin,opLen,PV.sk,scalBin,scalUn,intBin,opLoad,natOf,opConvert,opField,cellsP,oneP,Value.oneCell',opStore,toIV,scalT,scalA,scalC,boxesA,boxesC,zipB_none,zipB_mx,isZ,opZip,zeroP,opAppendZ,opMakeMap,opLookup,mboxB,opUpdate,↓reduceIte,Nat.reduceSub,Nat.reduceEqDiff,Nat.reduceAdd,Nat.reduceMul,Nat.reduceLT,Nat.reduceLeDiff,Int.reduceToNat,Int.reduceLE,Int.reduceLT,Int.reduceNeg,reduceCtorEq,gos,Int.reduceAdd,Int.reduceSub,Int.reduceMul,Int.reduceEq,cj])
            refine X_append_one 22 [.int .u64 0] [iu (dotI (rowM C l j) x % p)] (by simp only [tys]) (by simp only [tys]) rfl (by decide) (by simp) (by simp [Heap.put_at,Heap.none_at,rowH_app]) (by simp [Heap.put_at]; rfl) rfl (by simp only [tys]; omega) (by rw [mx_len]; omega) ?_
            repeat (first|refine X_opc rfl ?_|refine X_dopc rfl ?_|refine ⟨(by show drawK _ _=true; kernel_rfl:drawX _ _ _),?_⟩|exact (by show drawK _ _=true; kernel_rfl:drawX _ _ _)|simp -dsimp (maxSteps:=20000000) (disch:=omega) only [simx,zzC,zzB,tys,ite_self,opnL,callB,callX,readsB,stepOp,nilCmp,ofVal,opBuiltin,opLen,PV.sk,scalBin,scalUn,intBin,opLoad,natOf,opConvert,opField,cellsP,oneP,Value.oneCell',opStore,toIV,scalT,scalA,scalC,boxesA,boxesC,zipB_none,zipB_mx,isZ,opZip,zeroP,opAppendZ,opMakeMap,opLookup,mboxB,opUpdate,↓reduceIte,Nat.reduceSub,Nat.reduceEqDiff,Nat.reduceAdd,Nat.reduceMul,Nat.reduceLT,Nat.reduceLeDiff,Int.reduceToNat,Int.reduceLE,Int.reduceLT,Int.reduceNeg,reduceCtorEq,gos,Int.reduceAdd,Int.reduceSub,Int.reduceMul,Int.reduceEq,cj])
            refine ⟨cj,(fgt_cons (by simp only [Heap.none_at]) (by (simp -dsimp only [zzB,tys,ite_self,opnL,callB,callX,readsB,stepOp,nilCmp,ofVal,opBuiltin,opLen,PV.sk,scalBin,scalUn,intBin,opLoad,natOf,opConvert,opField,cellsP,oneP,Value.oneCell',opStore,toIV,scalT,scalA,scalC,boxesA,boxesC,zipB_none,zipB_mx,isZ,opZip,zeroP,opAppendZ,opMakeMap,opLookup,mboxB,opUpdate,↓reduceIte,Nat.reduceSub,Nat.reduceEqDiff,Nat.reduceAdd,Nat.reduceMul,Nat.reduceLT,Nat.reduceLeDiff,Int.reduceToNat,Int.reduceLE,Int.reduceLT,Int.reduceNeg,reduceCtorEq,notIn_cons,notIn_nil]) <;> simp [refsL,refsP,mem_refs_rowP]) (by repeat (first|exact noVar_none _|refine noVar_row ?_|refine noVar_map ?_|refine noVar_rowH ?_|refine noVar_var ?_ (by simp [refsL,refsP,mem_refs_rowP]))) (fgt_nil)),⟨?_,rfl⟩,?_⟩
            · rw [tk]; simp
            · funext c
              simp (maxSteps:=20000000) only [Heap.drop_at,rowH_app,Heap.put_at,Heap.none_at,List.mem_cons,List.not_mem_nil,or_false]
              by_cases e0:c=(0,0)::base
              · subst e0; simp [tk]
              by_cases e1:c=(8,2)::base
              · subst e1; simp [tk]
              by_cases e2:c=(8,3)::base
              · subst e2; simp [tk]
              simp [e0,e1,e2,tk]
          · have hj:j=R:=by omega
            subst hj
            obtain ⟨s,rfl⟩:∃ s,j=s + 1:=⟨j - 1,by omega⟩
            have e2:(((List.range (s + 1)).map (fun i => dotI (rowM C l i) x % p)).map iu).take (s + 1)=((List.range (s + 1)).map (fun i => dotI (rowM C l i) x % p)).map iu:=List.take_of_length_le (by simp)
            repeat (first|refine X_opc rfl ?_|refine X_dopc rfl ?_|refine ⟨(by show drawK _ _=true; kernel_rfl:drawX _ _ _),?_⟩|exact (by show drawK _ _=true; kernel_rfl:drawX _ _ _)|simp -dsimp (maxSteps:=20000000) (disch:=omega) only [simx,zzC,zzB,tys,ite_self,opnL,callB,callX,readsB,stepOp,nilCmp,ofVal,opBuiltin,opLen,PV.sk,scalBin,scalUn,intBin,opLoad,natOf,opConvert,opField,cellsP,oneP,Value.oneCell',opStore,toIV,scalT,scalA,scalC,boxesA,boxesC,zipB_none,zipB_mx,isZ,opZip,zeroP,opAppendZ,opMakeMap,opLookup,mboxB,opUpdate,↓reduceIte,Nat.reduceSub,Nat.reduceEqDiff,Nat.reduceAdd,Nat.reduceMul,Nat.reduceLT,Nat.reduceLeDiff,Int.reduceToNat,Int.reduceLE,Int.reduceLT,Int.reduceNeg,reduceCtorEq,zzR,gos,Int.reduceAdd,Int.reduceSub,Int.reduceMul,Int.reduceEq,rowP_succ,rowH_succ,List.length_map,List.length_range,e2,lu])
      · rw [decide_eq_false h3]
        simp only [Bool.and_false,Bool.false_eq_true,if_false]
        refine X_startP (n:=49) (m:=3) (rs:=[.tmp 6,.tmp 7]) Try.func57 rfl rfl rfl rfl (by decide) fun base => ?_
        repeat (first|((first|refine X_call_fn2 rfl (by simp only [tys]) ?_|refine X_dcall_fn2 rfl (by simp only [tys]) ?_); apply Exists.intro; apply And.intro; (focus (simp -dsimp only [simx,zzC,zzB,tys,ite_self,opnL,callB,callX,readsB,stepOp,nilCmp,ofVal,opBuiltin,opLen,PV.sk,scalBin,scalUn,intBin,opLoad,natOf,opConvert,opField,cellsP,oneP,Value.oneCell',opStore,toIV,scalT,scalA,scalC,boxesA,boxesC,zipB_none,zipB_mx,isZ,opZip,zeroP,opAppendZ,opMakeMap,opLookup,mboxB,opUpdate,↓reduceIte,Nat.reduceSub,Nat.reduceEqDiff,Nat.reduceAdd,Nat.reduceMul,Nat.reduceLT,Nat.reduceLeDiff,Int.reduceToNat,Int.reduceLE,Int.reduceLT,Int.reduceNeg,reduceCtorEq,zzL,if_true,if_false] <;> rfl)); apply Exists.intro; apply And.intro; (focus (first|exact q1|exact q2)))|refine X_opc rfl ?_|refine X_dopc rfl ?_|refine ⟨(by show drawK _ _=true; kernel_rfl:drawX _ _ _),?_⟩|exact (by show drawK _ _=true; kernel_rfl:drawX _ _ _)|simp -dsimp (maxSteps:=20000000) (disch:=omega) only [simx,zzC,zzB,tys,ite_self,opnL,callB,callX,readsB,stepOp,nilCmp,ofVal,opBuiltin,opLen,PV.sk,scalBin,scalUn,intBin,opLoad,natOf,opConvert,opField,cellsP,oneP,Value.oneCell',opStore,toIV,scalT,scalA,scalC,boxesA,boxesC,zipB_none,zipB_mx,isZ,opZip,zeroP,opAppendZ,opMakeMap,opLookup,mboxB,opUpdate,↓reduceIte,Nat.reduceSub,Nat.reduceEqDiff,Nat.reduceAdd,Nat.reduceMul,Nat.reduceLT,Nat.reduceLeDiff,Int.reduceToNat,Int.reduceLE,Int.reduceLT,Int.reduceNeg,reduceCtorEq,zzR,gos,Int.reduceAdd,Int.reduceSub,Int.reduceMul,Int.reduceEq])
        rfl
end Go.Proofs.Ytmalpmnmknpphaa.TM
namespace Go.Proofs.Ytmalpmnmknpphaa.TM
open Go Go.RowKit
attribute [local irreducible] K W WOps Effs Xg Xo Xr Xdg Xdo Xdr Xif CallsP CallR
theorem is_walk (p:Nat) (hp:p < 1048576):∃ b,CallsP Try.prog 12 [u64 p] (bl b) ∧ (b=true → Prm p):=by
  by_cases h2:p < 2
  · refine ⟨false,?_,fun h => by cases h⟩
    refine X_startP (n:=17) (m:=1) (rs:=[.tmp 2]) Try.func12 rfl rfl rfl rfl (by decide) fun base => ?_
    repeat (first|refine X_opc rfl ?_|refine X_dopc rfl ?_|refine ⟨(by show drawK _ _=true; kernel_rfl:drawX _ _ _),?_⟩|exact (by show drawK _ _=true; kernel_rfl:drawX _ _ _)|simp -dsimp (maxSteps:=20000000) (disch:=omega) only [simx,zzC,zzB,tys,ite_self,opnL,callB,callX,readsB,stepOp,nilCmp,ofVal,opBuiltin,opLen,PV.sk,scalBin,scalUn,intBin,opLoad,natOf,opConvert,opField,cellsP,oneP,Value.oneCell',opStore,toIV,scalT,scalA,scalC,boxesA,boxesC,zipB_none,zipB_mx,isZ,opZip,zeroP,opAppendZ,opMakeMap,opLookup,mboxB,opUpdate,↓reduceIte,Nat.reduceSub,Nat.reduceEqDiff,Nat.reduceAdd,Nat.reduceMul,Nat.reduceLT,Nat.reduceLeDiff,Int.reduceToNat,Int.reduceLE,Int.reduceLT,Int.reduceNeg,reduceCtorEq,zzR,gos,Int.reduceAdd,Int.reduceSub,Int.reduceMul,Int.reduceEq])
  obtain ⟨d0,⟨d2,dd⟩,dl⟩:=least (fun d => 2 ≤ d ∧ (p < d * d ∨ p % d=0)) p ⟨by omega,.inr (Nat.mod_self p)⟩
  have lo:∀ d,2 ≤ d → d < d0 → d * d ≤ p ∧ p % d ≠ 0:=fun d h1 h3 => by
    have:=dl d h3
    constructor
    · rcases Nat.lt_or_ge p (d * d) with h|h
      · exact absurd ⟨h1,.inl h⟩ this
      · exact h
    · intro h; exact this ⟨h1,.inr h⟩
  have dm:d0 ≤ 1024:=by
    rcases Nat.lt_or_ge 1024 d0 with h|h
    · have:=(lo 1024 (by omega) h).1; omega
    · exact h
  have sq:∀ j:Nat,j ≤ 1024 → j * j ≤ 1024 * 1024:=fun j h => Nat.mul_le_mul h h
  refine ⟨decide (p < d0 * d0),?_,fun h => prm_of (by omega) fun d h1 h3 => ?_⟩
  · refine X_startP (n:=17) (m:=1) (rs:=[.tmp 2]) Try.func12 rfl rfl rfl rfl (by decide) fun base => ?_
    repeat (first|refine X_opc rfl ?_|refine X_dopc rfl ?_|refine ⟨(by show drawK _ _=true; kernel_rfl:drawX _ _ _),?_⟩|exact (by show drawK _ _=true; kernel_rfl:drawX _ _ _)|simp -dsimp (maxSteps:=20000000) (disch:=omega) only [simx,zzC,zzB,tys,ite_self,opnL,callB,callX,readsB,stepOp,nilCmp,ofVal,opBuiltin,opLen,PV.sk,scalBin,scalUn,intBin,opLoad,natOf,opConvert,opField,cellsP,oneP,Value.oneCell',opStore,toIV,scalT,scalA,scalC,boxesA,boxesC,zipB_none,zipB_mx,isZ,opZip,zeroP,opAppendZ,opMakeMap,opLookup,mboxB,opUpdate,↓reduceIte,Nat.reduceSub,Nat.reduceEqDiff,Nat.reduceAdd,Nat.reduceMul,Nat.reduceLT,Nat.reduceLeDiff,Int.reduceToNat,Int.reduceLE,Int.reduceLT,Int.reduceNeg,reduceCtorEq,gos,Int.reduceAdd,Int.reduceSub,Int.reduceMul,Int.reduceEq])
    refine X_loopH [0,3] [] (0) (d0 - 2) (fun j => True) (fun j => [(3,u64 ((2 + j:Nat):Int))]) (fun j => Heap.none) ?_ ?_ ?_ ?_ ?_ (by decide) ?_
    · exact (fgt_nil)
    · ((simp -dsimp (disch:=omega) only [simx,zzB,tys,ite_self,opnL,callB,callX,readsB,stepOp,nilCmp,ofVal,opBuiltin,opLen,PV.sk,scalBin,scalUn,intBin,opLoad,natOf,opConvert,opField,cellsP,oneP,Value.oneCell',opStore,toIV,scalT,scalA,scalC,boxesA,boxesC,zipB_none,zipB_mx,isZ,opZip,zeroP,opAppendZ,opMakeMap,opLookup,mboxB,opUpdate,↓reduceIte,Nat.reduceSub,Nat.reduceEqDiff,Nat.reduceAdd,Nat.reduceMul,Nat.reduceLT,Nat.reduceLeDiff,Int.reduceToNat,Int.reduceLE,Int.reduceLT,Int.reduceNeg,reduceCtorEq,gos,Int.reduceAdd,Int.reduceSub,Int.reduceMul,Int.reduceEq]) <;> first|rfl|simp)
    · exact drop_nil _
    · omega
    · trivial
    · intro j hj _
      have s1:=sq (2 + j) (by omega)
      have e1:IntKind.u64.wrap (((2 + j:Nat):Int) * ((2 + j:Nat):Int))=(((2 + j) * (2 + j):Nat):Int):=by rw [← Int.natCast_mul]; exact uw_of (by omega) (by omega)
      by_cases cj:j < d0 - 2
      · obtain ⟨l1,l2⟩:=lo (2 + j) (by omega) (by omega)
        have e2:(((2 + j) * (2 + j):Nat):Int) ≤ (p:Int):=by omega
        have e3:¬ (p:Int) % ((2 + j:Nat):Int)=0:=by rw [← Int.natCast_emod]; omega
        have e4:IntKind.u64.wrap (((2 + j:Nat):Int) + 1)=((2 + (j + 1):Nat):Int):=by
          rw [show ((2 + j:Nat):Int) + 1=((2 + (j + 1):Nat):Int) by omega]
          exact uw_of (by omega) (by omega)
        have e5:¬ ((2 + j:Nat):Int)=0:=by omega
        generalize (((2 + j) * (2 + j):Nat):Int)=sq2 at *
        clear lo dl dd sq
        repeat (first|refine X_opc rfl ?_|refine X_dopc rfl ?_|refine ⟨(by show drawK _ _=true; kernel_rfl:drawX _ _ _),?_⟩|exact (by show drawK _ _=true; kernel_rfl:drawX _ _ _)|simp -dsimp (maxSteps:=20000000) (disch:=omega) only [simx,zzC,zzB,tys,ite_self,opnL,callB,callX,readsB,stepOp,nilCmp,ofVal,opBuiltin,opLen,PV.sk,scalBin,scalUn,intBin,opLoad,natOf,opConvert,opField,cellsP,oneP,Value.oneCell',opStore,toIV,scalT,scalA,scalC,boxesA,boxesC,zipB_none,zipB_mx,isZ,opZip,zeroP,opAppendZ,opMakeMap,opLookup,mboxB,opUpdate,↓reduceIte,Nat.reduceSub,Nat.reduceEqDiff,Nat.reduceAdd,Nat.reduceMul,Nat.reduceLT,Nat.reduceLeDiff,Int.reduceToNat,Int.reduceLE,Int.reduceLT,Int.reduceNeg,reduceCtorEq,gos,Int.reduceAdd,Int.reduceSub,Int.reduceMul,Int.reduceEq,e1,e2,e3,e4,e5])
        exact ⟨cj,(fgt_nil),by first|exact drop_nil _|exact ⟨rfl,drop_nil _⟩⟩
      · have hj':2 + j=d0:=by omega
        rw [hj'] at e1 s1 ⊢
        by_cases c:p < d0 * d0
        · rw [decide_eq_true c]
          have e2:¬ ((d0 * d0:Nat):Int) ≤ (p:Int):=by omega
          generalize ((d0 * d0:Nat):Int)=sq2 at *
          clear lo dl dd sq
          repeat (first|refine X_opc rfl ?_|refine X_dopc rfl ?_|refine ⟨(by show drawK _ _=true; kernel_rfl:drawX _ _ _),?_⟩|exact (by show drawK _ _=true; kernel_rfl:drawX _ _ _)|simp -dsimp (maxSteps:=20000000) (disch:=omega) only [simx,zzC,zzB,tys,ite_self,opnL,callB,callX,readsB,stepOp,nilCmp,ofVal,opBuiltin,opLen,PV.sk,scalBin,scalUn,intBin,opLoad,natOf,opConvert,opField,cellsP,oneP,Value.oneCell',opStore,toIV,scalT,scalA,scalC,boxesA,boxesC,zipB_none,zipB_mx,isZ,opZip,zeroP,opAppendZ,opMakeMap,opLookup,mboxB,opUpdate,↓reduceIte,Nat.reduceSub,Nat.reduceEqDiff,Nat.reduceAdd,Nat.reduceMul,Nat.reduceLT,Nat.reduceLeDiff,Int.reduceToNat,Int.reduceLE,Int.reduceLT,Int.reduceNeg,reduceCtorEq,zzR,gos,Int.reduceAdd,Int.reduceSub,Int.reduceMul,Int.reduceEq,e1,e2])
        · rw [decide_eq_false c]
          have e2:((d0 * d0:Nat):Int) ≤ (p:Int):=by omega
          have e3:(p:Int) % (d0:Int)=0:=by
            rcases dd with h|h
            · exact absurd h c
            · rw [← Int.natCast_emod]; omega
          have e5:¬ (d0:Int)=0:=by omega
          generalize ((d0 * d0:Nat):Int)=sq2 at *
          clear lo dl dd sq
          repeat (first|refine X_opc rfl ?_|refine X_dopc rfl ?_|refine ⟨(by show drawK _ _=true; kernel_rfl:drawX _ _ _),?_⟩|exact (by show drawK _ _=true; kernel_rfl:drawX _ _ _)|simp -dsimp (maxSteps:=20000000) (disch:=omega) only [simx,zzC,zzB,tys,ite_self,opnL,callB,callX,readsB,stepOp,nilCmp,ofVal,opBuiltin,opLen,PV.sk,scalBin,scalUn,intBin,opLoad,natOf,opConvert,opField,cellsP,oneP,Value.oneCell',opStore,toIV,scalT,scalA,scalC,boxesA,boxesC,zipB_none,zipB_mx,isZ,opZip,zeroP,opAppendZ,opMakeMap,opLookup,mboxB,opUpdate,↓reduceIte,Nat.reduceSub,Nat.reduceEqDiff,Nat.reduceAdd,Nat.reduceMul,Nat.reduceLT,Nat.reduceLeDiff,Int.reduceToNat,Int.reduceLE,Int.reduceLT,Int.reduceNeg,reduceCtorEq,zzR,gos,Int.reduceAdd,Int.reduceSub,Int.reduceMul,Int.reduceEq,e1,e2,e3,e5])
  · rw [decide_eq_true_eq] at h
    exact (lo d h1 (sq_lt (Nat.lt_of_le_of_lt h3 h))).2
def nzI:List Int → Nat → Int
  | [],_ => -1
  | a::l,k => if a=0 then nzI l (k + 1) else k
def zerB (l:List Int):Bool:=l.all (fun a => a == 0)
theorem nzI_zero:∀ (l:List Int) (k:Nat),decide (0 ≤ nzI l k)=!zerB l
  | [],k => rfl
  | a::l,k => by
    unfold zerB
    rw [nzI,List.all_cons]
    by_cases h:a=0
    · rw [if_pos h,nzI_zero l (k + 1)]; simp [h,zerB]
    · rw [if_neg h]; simp [h]
theorem equal_walk (a b:List Int) (hl:a.length ≤ maxLen):CallsP Try.prog 58 [lu a,lu b] (bl (decide (a=b))):=by
  rw [mx_len] at hl
  by_cases c0:(a.length:Int)=b.length
  case neg =>
    rw [decide_eq_false (by rintro rfl; exact c0 rfl)]
    refine X_startP (n:=26) (m:=2) (rs:=[.tmp 4]) Try.func58 rfl rfl rfl rfl (by decide) fun base => ?_
    repeat (first|refine X_opc rfl ?_|refine X_dopc rfl ?_|refine ⟨(by show drawK _ _=true; kernel_rfl:drawX _ _ _),?_⟩|exact (by show drawK _ _=true; kernel_rfl:drawX _ _ _)|simp -dsimp (maxSteps:=20000000) (disch:=omega) only [simx,zzC,zzB,tys,ite_self,opnL,callB,callX,readsB,stepOp,nilCmp,ofVal,opBuiltin,opLen,PV.sk,scalBin,scalUn,intBin,opLoad,natOf,opConvert,opField,cellsP,oneP,Value.oneCell',opStore,toIV,scalT,scalA,scalC,boxesA,boxesC,zipB_none,zipB_mx,isZ,opZip,zeroP,opAppendZ,opMakeMap,opLookup,mboxB,opUpdate,↓reduceIte,Nat.reduceSub,Nat.reduceEqDiff,Nat.reduceAdd,Nat.reduceMul,Nat.reduceLT,Nat.reduceLeDiff,Int.reduceToNat,Int.reduceLE,Int.reduceLT,Int.reduceNeg,reduceCtorEq,zzR,gos,Int.reduceAdd,Int.reduceSub,Int.reduceMul,Int.reduceEq])
  refine X_startP (n:=26) (m:=2) (rs:=[.tmp 4]) Try.func58 rfl rfl rfl rfl (by decide) fun base => ?_
  repeat (first|refine X_opc rfl ?_|refine X_dopc rfl ?_|refine ⟨(by show drawK _ _=true; kernel_rfl:drawX _ _ _),?_⟩|exact (by show drawK _ _=true; kernel_rfl:drawX _ _ _)|simp -dsimp (maxSteps:=20000000) (disch:=omega) only [simx,zzC,zzB,tys,ite_self,opnL,callB,callX,readsB,stepOp,nilCmp,ofVal,opBuiltin,opLen,PV.sk,scalBin,scalUn,intBin,opLoad,natOf,opConvert,opField,cellsP,oneP,Value.oneCell',opStore,toIV,scalT,scalA,scalC,boxesA,boxesC,zipB_none,zipB_mx,isZ,opZip,zeroP,opAppendZ,opMakeMap,opLookup,mboxB,opUpdate,↓reduceIte,Nat.reduceSub,Nat.reduceEqDiff,Nat.reduceAdd,Nat.reduceMul,Nat.reduceLT,Nat.reduceLeDiff,Int.reduceToNat,Int.reduceLE,Int.reduceLT,Int.reduceNeg,reduceCtorEq,gos,Int.reduceAdd,Int.reduceSub,Int.reduceMul,Int.reduceEq])
  refine X_loopH [0,1,12,13] [] (0) (a.length) (fun j => a.take j=b.take j) (fun j => [(13,i64 j)]) (fun j => Heap.none) ?_ ?_ ?_ ?_ ?_ (by decide) ?_
  · exact (fgt_nil)
  · ((simp -dsimp (disch:=omega) only [simx,zzB,tys,ite_self,opnL,callB,callX,readsB,stepOp,nilCmp,ofVal,opBuiltin,opLen,PV.sk,scalBin,scalUn,intBin,opLoad,natOf,opConvert,opField,cellsP,oneP,Value.oneCell',opStore,toIV,scalT,scalA,scalC,boxesA,boxesC,zipB_none,zipB_mx,isZ,opZip,zeroP,opAppendZ,opMakeMap,opLookup,mboxB,opUpdate,↓reduceIte,Nat.reduceSub,Nat.reduceEqDiff,Nat.reduceAdd,Nat.reduceMul,Nat.reduceLT,Nat.reduceLeDiff,Int.reduceToNat,Int.reduceLE,Int.reduceLT,Int.reduceNeg,reduceCtorEq,gos,Int.reduceAdd,Int.reduceSub,Int.reduceMul,Int.reduceEq]) <;> first|rfl|simp)
  · exact drop_nil _
  · omega
  · rfl
  · intro j hj hf
    by_cases c:j < a.length
    · have c':j < b.length:=by omega
      have g1:a[j]?=some a[j]:=List.getElem?_eq_getElem c
      have g2:b[j]?=some b[j]:=List.getElem?_eq_getElem c'
      by_cases e:a[j]=b[j]
      · have nx:=take_next c c' hf e
        rw [e] at g1
        generalize b[j]=y at g1 g2
        repeat (first|refine X_opc rfl ?_|refine X_dopc rfl ?_|refine ⟨(by show drawK _ _=true; kernel_rfl:drawX _ _ _),?_⟩|exact (by show drawK _ _=true; kernel_rfl:drawX _ _ _)|simp -dsimp (maxSteps:=20000000) (disch:=omega) only [simx,zzC,zzB,tys,ite_self,opnL,callB,callX,readsB,stepOp,nilCmp,ofVal,opBuiltin,opLen,PV.sk,scalBin,scalUn,intBin,opLoad,natOf,opConvert,opField,cellsP,oneP,Value.oneCell',opStore,toIV,scalT,scalA,scalC,boxesA,boxesC,zipB_none,zipB_mx,isZ,opZip,zeroP,opAppendZ,opMakeMap,opLookup,mboxB,opUpdate,↓reduceIte,Nat.reduceSub,Nat.reduceEqDiff,Nat.reduceAdd,Nat.reduceMul,Nat.reduceLT,Nat.reduceLeDiff,Int.reduceToNat,Int.reduceLE,Int.reduceLT,Int.reduceNeg,reduceCtorEq,gos,Int.reduceAdd,Int.reduceSub,Int.reduceMul,Int.reduceEq,c,c',g1,g2])
        exact ⟨c,(fgt_nil),nx,rfl,drop_nil _⟩
      · rw [decide_eq_false (by rintro rfl; exact e rfl)]
        generalize a[j]=x at g1 e
        generalize b[j]=y at g2 e
        repeat (first|refine X_opc rfl ?_|refine X_dopc rfl ?_|refine ⟨(by show drawK _ _=true; kernel_rfl:drawX _ _ _),?_⟩|exact (by show drawK _ _=true; kernel_rfl:drawX _ _ _)|simp -dsimp (maxSteps:=20000000) (disch:=omega) only [simx,zzC,zzB,tys,ite_self,opnL,callB,callX,readsB,stepOp,nilCmp,ofVal,opBuiltin,opLen,PV.sk,scalBin,scalUn,intBin,opLoad,natOf,opConvert,opField,cellsP,oneP,Value.oneCell',opStore,toIV,scalT,scalA,scalC,boxesA,boxesC,zipB_none,zipB_mx,isZ,opZip,zeroP,opAppendZ,opMakeMap,opLookup,mboxB,opUpdate,↓reduceIte,Nat.reduceSub,Nat.reduceEqDiff,Nat.reduceAdd,Nat.reduceMul,Nat.reduceLT,Nat.reduceLeDiff,Int.reduceToNat,Int.reduceLE,Int.reduceLT,Int.reduceNeg,reduceCtorEq,zzR,gos,Int.reduceAdd,Int.reduceSub,Int.reduceMul,Int.reduceEq,c,c',g1,g2])
    · have hj:j=a.length:=by omega
      subst hj
      rw [List.take_length,List.take_of_length_le (by omega)] at hf
      rw [decide_eq_true hf]
      repeat (first|refine X_opc rfl ?_|refine X_dopc rfl ?_|refine ⟨(by show drawK _ _=true; kernel_rfl:drawX _ _ _),?_⟩|exact (by show drawK _ _=true; kernel_rfl:drawX _ _ _)|simp -dsimp (maxSteps:=20000000) (disch:=omega) only [simx,zzC,zzB,tys,ite_self,opnL,callB,callX,readsB,stepOp,nilCmp,ofVal,opBuiltin,opLen,PV.sk,scalBin,scalUn,intBin,opLoad,natOf,opConvert,opField,cellsP,oneP,Value.oneCell',opStore,toIV,scalT,scalA,scalC,boxesA,boxesC,zipB_none,zipB_mx,isZ,opZip,zeroP,opAppendZ,opMakeMap,opLookup,mboxB,opUpdate,↓reduceIte,Nat.reduceSub,Nat.reduceEqDiff,Nat.reduceAdd,Nat.reduceMul,Nat.reduceLT,Nat.reduceLeDiff,Int.reduceToNat,Int.reduceLE,Int.reduceLT,Int.reduceNeg,reduceCtorEq,zzR,gos,Int.reduceAdd,Int.reduceSub,Int.reduceMul,Int.reduceEq])
end Go.Proofs.Ytmalpmnmknpphaa.TM
namespace Go.Proofs.Ytmalpmnmknpphaa.TM
open Go Go.RowKit
def risF:Int → List Int → Int → Bool
  | _,[],_ => true
  | last,c::l,most => if c ≤ last ∨ most ≤ c then false else risF c l most
end Go.Proofs.Ytmalpmnmknpphaa.TM
namespace Go.Proofs.Ytmalpmnmknpphaa.TM
open Go Go.RowKit
def sumN:Nat → (Nat → Int) → Int
  | 0,_ => 0
  | n + 1,f => sumN n f + f n
theorem sumN_congr {n:Nat} {f g:Nat → Int} (h:∀ i,i < n → f i=g i):sumN n f=sumN n g:=by
  induction n with
  | zero => rfl
  | succ n ih => rw [sumN,sumN,ih (fun i hi => h i (by omega)),h n (by omega)]
theorem sumN_add (n:Nat) (f g:Nat → Int):sumN n (fun i => f i + g i)=sumN n f + sumN n g:=by
  induction n with
  | zero => rfl
  | succ n ih => simp only [sumN,ih]; omega
theorem sumN_sub (n:Nat) (f g:Nat → Int):sumN n (fun i => f i - g i)=sumN n f - sumN n g:=by
  induction n with
  | zero => rfl
  | succ n ih => simp only [sumN,ih]; omega
theorem sumN_mul (n:Nat) (a:Int) (f:Nat → Int):sumN n (fun i => a * f i)=a * sumN n f:=by
  induction n with
  | zero => simp [sumN]
  | succ n ih => simp only [sumN,ih,Int.mul_add]
theorem sumN_mulr (n:Nat) (a:Int) (f:Nat → Int):sumN n (fun i => f i * a)=sumN n f * a:=by
  induction n with
  | zero => simp [sumN]
  | succ n ih => simp only [sumN,ih,Int.add_mul]
theorem sumN_zero (n:Nat):sumN n (fun _ => 0)=0:=by
  induction n with
  | zero => rfl
  | succ n ih => simp [sumN,ih]
theorem sumN_z {n:Nat} {f:Nat → Int} (h:∀ i,i < n → f i=0):sumN n f=0:=(sumN_congr h).trans (sumN_zero n)
theorem sumN_swap (m n:Nat) (f:Nat → Nat → Int):sumN m (fun i => sumN n (fun j => f i j))=sumN n (fun j => sumN m (fun i => f i j)):=by
  induction m with
  | zero => simp [sumN,sumN_zero]
  | succ m ih => simp only [sumN,ih,sumN_add]
theorem sumN_mod {p:Int} {n:Nat} {f g:Nat → Int} (h:∀ i,i < n → f i % p=g i % p):sumN n f % p=sumN n g % p:=by
  induction n with
  | zero => rfl
  | succ n ih => rw [sumN,sumN,Int.add_emod,ih (fun i hi => h i (by omega)),h n (by omega),← Int.add_emod]
theorem sumN_one {n i:Nat} (f:Nat → Int) (hi:i < n):sumN n (fun k => if k=i then f k else 0)=f i:=by
  induction n with
  | zero => omega
  | succ n ih =>
    rw [sumN]
    by_cases h:i=n
    · subst h
      rw [sumN_z (fun k hk => if_neg (by omega)),if_pos rfl,Int.zero_add]
    · rw [ih (by omega),if_neg (by omega),Int.add_zero]
theorem sumN_split (m n:Nat) (f:Nat → Int):sumN (m + n) f=sumN m f + sumN n (fun i => f (m + i)):=by
  induction n with
  | zero => simp [sumN]
  | succ n ih => rw [← Nat.add_assoc,sumN,ih,sumN]; omega
theorem dotI_eq:∀ (n:Nat) (a b:List Int),a.length=n → b.length=n → dotI a b=sumN n (fun k => a.getD k 0 * b.getD k 0)
  | 0,[],[],_,_ => rfl
  | n + 1,x::a,y::b,ha,hb => by
    rw [dotI,dotI_eq n a b (by simpa using ha) (by simpa using hb),Nat.add_comm,sumN_split 1 n]
    simp only [sumN,Int.zero_add]
    congr 1
    apply sumN_congr
    intro i _
    rw [Nat.add_comm 1 i]; simp
  | 0,_::_,_,h,_ => by simp at h
  | 0,[],_::_,_,h => by simp at h
  | n + 1,[],_,h,_ => by simp at h
  | n + 1,_::_,[],_,h => by simp at h
def cl (c:Nat) (l:List Int) (i k:Nat):Int:=l.getD (i * c + k) 0
theorem rowM_cl {r c i k:Nat} {l:List Int} (hl:l.length=r * c) (hi:i < r) (hk:k < c):(rowM c l i).getD k 0=cl c l i k:=by
  have b1:=ic_bd (c:=c) hi
  have e3:i * c + k < l.length:=by omega
  unfold cl rowM
  rw [List.getD_eq_getElem?_getD,List.getD_eq_getElem?_getD,List.getElem?_take,if_pos hk,List.getElem?_drop]
theorem cl_tbl {r c i k:Nat} (f:Nat → Int) (hi:i < r) (hk:k < c):cl c (tbl (r * c) f) i k=f (i * c + k):=by
  have b1:=ic_bd (c:=c) hi
  exact tbl_getD f (by omega)
theorem dc_div {c i k:Nat} (hk:k < c):(i * c + k) / c=i:=by
  rw [Nat.add_comm,Nat.add_mul_div_right _ _ (by omega),Nat.div_eq_of_lt hk,Nat.zero_add]
theorem dc_mod {c i k:Nat} (hk:k < c):(i * c + k) % c=k:=by
  rw [Nat.add_comm,Nat.add_mul_mod_self_right,Nat.mod_eq_of_lt hk]
theorem dotRow {r c i:Nat} {l x:List Int} (hl:l.length=r * c) (hi:i < r) (hx:x.length=c):dotI (rowM c l i) x=sumN c (fun k => cl c l i k * x.getD k 0):=by
  rw [dotI_eq c _ _ (rowM_len hl hi) hx]
  exact sumN_congr fun k hk => by rw [rowM_cl hl hi hk]
theorem timesM_tbl {p:Int} {r c:Nat} {l x:List Int} (hl:l.length=r * c) (hx:x.length=c):timesM p r c l x=tbl r (fun i => sumN c (fun k => cl c l i k * x.getD k 0) % p):=by
  unfold timesM tbl
  exact List.map_congr_left fun i hi => by rw [dotRow hl (List.mem_range.1 hi) hx]
theorem turn_cl {r c i k:Nat} (l:List Int) (hi:i < r) (hk:k < c):cl r (turnM r c l) k i=cl c l i k:=by
  have b1:=ic_bd (c:=r) hk
  unfold cl turnM
  rw [show (List.range (c * r)).map (fun q => l.getD (srcT r c q) 0)=tbl (c * r) (fun q => l.getD (srcT r c q) 0) from rfl,tbl_getD _ (by omega)]
  unfold srcT
  rw [dc_div hi,dc_mod hi]
end Go.Proofs.Ytmalpmnmknpphaa.TM
namespace Go.Proofs.Ytmalpmnmknpphaa.TM
open Go Go.RowKit
def pickRow (C:Nat) (l cols:List Int) (i:Int):List Int:=cols.map fun c => cl C l i.toNat c.toNat
def pickM (C:Nat) (l rows cols:List Int):List Int:=rows.flatMap (pickRow C l cols)
end Go.Proofs.Ytmalpmnmknpphaa.TM
namespace Go.Proofs.Ytmalpmnmknpphaa.TM
open Go Go.RowKit
attribute [local irreducible] K W WOps Effs Xg Xo Xr Xdg Xdo Xdr Xif CallsP CallR
theorem timesM_len (p:Int) (r c:Nat) (l x:List Int):(timesM p r c l x).length=r:=by simp [timesM]
end Go.Proofs.Ytmalpmnmknpphaa.TM
namespace Go.Proofs.Ytmalpmnmknpphaa.TM
open Go Go.RowKit
theorem timesM_get {p:Int} {r c:Nat} {l x:List Int} (hl:l.length=r * c) (hx:x.length=c) {i:Nat} (hi:i < r):(timesM p r c l x).getD i 0=sumN c (fun k => cl c l i k * x.getD k 0) % p:=by
  rw [timesM_tbl hl hx,tbl_getD _ hi]
def leftM (p:Int) (x:List Int) (r c:Nat) (l:List Int):List Int:=timesM p c r (turnM r c l) x
theorem leftM_len (p:Int) (x:List Int) (r c:Nat) (l:List Int):(leftM p x r c l).length=c:=timesM_len ..
theorem leftM_get {p:Int} {r c:Nat} {l x:List Int} (hx:x.length=r) {k:Nat} (hk:k < c):(leftM p x r c l).getD k 0=sumN r (fun i => x.getD i 0 * cl c l i k) % p:=by
  unfold leftM
  rw [timesM_get (turnM_len r c l) hx hk]
  congr 1
  apply sumN_congr
  intro i hi
  rw [turn_cl l hi hk,Int.mul_comm]
where pick_cell' (C:Nat) (l cols:List Int) {m:Nat} (hm:m < cols.length):∀ (rows:List Int) (j:Nat),j < rows.length → (pickM C l rows cols).getD (j * cols.length + m) 0=cl C l (rows.getD j 0).toNat (cols.getD m 0).toNat
  | [],j,h => by simp at h
  | i::rows,0,_ => by
    unfold pickM
    rw [List.flatMap_cons,List.getD_eq_getElem?_getD,List.getElem?_append_left (by simp [pickRow]; omega)]
    simp [pickRow,List.getElem?_eq_getElem hm]
  | i::rows,j + 1,h => by
    have ih:=pick_cell' C l cols hm rows j (by simpa using h)
    unfold pickM at ih ⊢
    rw [List.flatMap_cons,List.getD_eq_getElem?_getD,List.getElem?_append_right (by simp [pickRow,Nat.succ_mul]; omega)]
    rw [List.getD_eq_getElem?_getD] at ih
    rw [show (j + 1) * cols.length + m - (pickRow C l cols i).length=j * cols.length + m by simp [pickRow,Nat.succ_mul]; omega,ih]
    simp
theorem getD_mem {l:List Int} {i:Nat} (h:i < l.length):l.getD i 0 ∈ l:=by
  rw [List.getD_eq_getElem?_getD,List.getElem?_eq_getElem h]; exact List.getElem_mem h
end Go.Proofs.Ytmalpmnmknpphaa.TM
namespace Go.Proofs.Ytmalpmnmknpphaa.TM
open Go Go.RowKit
theorem zerB_iff (l:List Int):zerB l=true ↔ ∀ i,i < l.length → l.getD i 0=0:=by
  unfold zerB
  rw [List.all_eq_true]
  constructor
  · intro h i hi
    have:=h _ (getD_mem (l:=l) hi)
    simpa using this
  · intro h a ha
    obtain ⟨i,hi,rfl⟩:=List.mem_iff_getElem.1 ha
    have:=h i hi
    rw [List.getD_eq_getElem?_getD,List.getElem?_eq_getElem hi] at this
    simpa using this
end Go.Proofs.Ytmalpmnmknpphaa.TM
namespace Go.Proofs.Ytmalpmnmknpphaa.TM
open Go Go.RowKit
attribute [local irreducible] K W WOps Effs Xg Xo Xr Xdg Xdo Xdr Xif CallsP CallR
theorem side13_walk (n:Int):CallsP Try.prog 83 [i64 n] (bl (decide (1 ≤ n) && decide (n ≤ 64))):=by
  by_cases c1:1 ≤ n
  · rw [decide_eq_true c1]
    by_cases c2:n ≤ 64
    · rw [decide_eq_true c2]
      refine X_startP (n:=9) (m:=1) (rs:=[.tmp 2]) Try.func83 rfl rfl rfl rfl (by decide) fun base => ?_
      repeat (first|refine X_opc rfl ?_|refine X_dopc rfl ?_|refine ⟨(by show drawK _ _=true; kernel_rfl:drawX _ _ _),?_⟩|exact (by show drawK _ _=true; kernel_rfl:drawX _ _ _)|simp -dsimp (maxSteps:=20000000) (disch:=omega) only [simx,zzC,zzB,tys,ite_self,opnL,callB,callX,readsB,stepOp,nilCmp,ofVal,opBuiltin,opLen,PV.sk,scalBin,scalUn,intBin,opLoad,natOf,opConvert,opField,cellsP,oneP,Value.oneCell',opStore,toIV,scalT,scalA,scalC,boxesA,boxesC,zipB_none,zipB_mx,isZ,opZip,zeroP,opAppendZ,opMakeMap,opLookup,mboxB,opUpdate,↓reduceIte,Nat.reduceSub,Nat.reduceEqDiff,Nat.reduceAdd,Nat.reduceMul,Nat.reduceLT,Nat.reduceLeDiff,Int.reduceToNat,Int.reduceLE,Int.reduceLT,Int.reduceNeg,reduceCtorEq,zzR,gos,Int.reduceAdd,Int.reduceSub,Int.reduceMul,Int.reduceEq])
    · rw [decide_eq_false c2]
      refine X_startP (n:=9) (m:=1) (rs:=[.tmp 2]) Try.func83 rfl rfl rfl rfl (by decide) fun base => ?_
      repeat (first|refine X_opc rfl ?_|refine X_dopc rfl ?_|refine ⟨(by show drawK _ _=true; kernel_rfl:drawX _ _ _),?_⟩|exact (by show drawK _ _=true; kernel_rfl:drawX _ _ _)|simp -dsimp (maxSteps:=20000000) (disch:=omega) only [simx,zzC,zzB,tys,ite_self,opnL,callB,callX,readsB,stepOp,nilCmp,ofVal,opBuiltin,opLen,PV.sk,scalBin,scalUn,intBin,opLoad,natOf,opConvert,opField,cellsP,oneP,Value.oneCell',opStore,toIV,scalT,scalA,scalC,boxesA,boxesC,zipB_none,zipB_mx,isZ,opZip,zeroP,opAppendZ,opMakeMap,opLookup,mboxB,opUpdate,↓reduceIte,Nat.reduceSub,Nat.reduceEqDiff,Nat.reduceAdd,Nat.reduceMul,Nat.reduceLT,Nat.reduceLeDiff,Int.reduceToNat,Int.reduceLE,Int.reduceLT,Int.reduceNeg,reduceCtorEq,zzR,gos,Int.reduceAdd,Int.reduceSub,Int.reduceMul,Int.reduceEq])
  · rw [decide_eq_false c1]
    refine X_startP (n:=9) (m:=1) (rs:=[.tmp 2]) Try.func83 rfl rfl rfl rfl (by decide) fun base => ?_
    repeat (first|refine X_opc rfl ?_|refine X_dopc rfl ?_|refine ⟨(by show drawK _ _=true; kernel_rfl:drawX _ _ _),?_⟩|exact (by show drawK _ _=true; kernel_rfl:drawX _ _ _)|simp -dsimp (maxSteps:=20000000) (disch:=omega) only [simx,zzC,zzB,tys,ite_self,opnL,callB,callX,readsB,stepOp,nilCmp,ofVal,opBuiltin,opLen,PV.sk,scalBin,scalUn,intBin,opLoad,natOf,opConvert,opField,cellsP,oneP,Value.oneCell',opStore,toIV,scalT,scalA,scalC,boxesA,boxesC,zipB_none,zipB_mx,isZ,opZip,zeroP,opAppendZ,opMakeMap,opLookup,mboxB,opUpdate,↓reduceIte,Nat.reduceSub,Nat.reduceEqDiff,Nat.reduceAdd,Nat.reduceMul,Nat.reduceLT,Nat.reduceLeDiff,Int.reduceToNat,Int.reduceLE,Int.reduceLT,Int.reduceNeg,reduceCtorEq,zzR,gos,Int.reduceAdd,Int.reduceSub,Int.reduceMul,Int.reduceEq,c1])
theorem sized1_walk {b base:Name} {h:Heap} {each:Int} {x:List Int} (hb:h b=some (.var [i64 each])):CallR Try.prog base 119 [lu x,.ref b 0 1] h (bl (!decide ((x.length:Int)=each))) h:=by
  by_cases c1:(x.length:Int)=each
  · rw [decide_eq_true c1]
    refine X_startR (n:=8) (m:=2) (rs:=[.tmp 3]) Try.func119 rfl rfl rfl rfl (by decide) ?_
    repeat (first|refine X_opc rfl ?_|refine X_dopc rfl ?_|refine ⟨(by show drawK _ _=true; kernel_rfl:drawX _ _ _),?_⟩|exact (by show drawK _ _=true; kernel_rfl:drawX _ _ _)|simp -dsimp (maxSteps:=20000000) (disch:=omega) only [simx,zzC,zzB,tys,ite_self,opnL,callB,callX,readsB,stepOp,nilCmp,ofVal,opBuiltin,opLen,PV.sk,scalBin,scalUn,intBin,opLoad,natOf,opConvert,opField,cellsP,oneP,Value.oneCell',opStore,toIV,scalT,scalA,scalC,boxesA,boxesC,zipB_none,zipB_mx,isZ,opZip,zeroP,opAppendZ,opMakeMap,opLookup,mboxB,opUpdate,↓reduceIte,Nat.reduceSub,Nat.reduceEqDiff,Nat.reduceAdd,Nat.reduceMul,Nat.reduceLT,Nat.reduceLeDiff,Int.reduceToNat,Int.reduceLE,Int.reduceLT,Int.reduceNeg,reduceCtorEq,zzR,gos,Int.reduceAdd,Int.reduceSub,Int.reduceMul,Int.reduceEq,hb,c1,SK.len])
  · rw [decide_eq_false c1]
    refine X_startR (n:=8) (m:=2) (rs:=[.tmp 3]) Try.func119 rfl rfl rfl rfl (by decide) ?_
    repeat (first|refine X_opc rfl ?_|refine X_dopc rfl ?_|refine ⟨(by show drawK _ _=true; kernel_rfl:drawX _ _ _),?_⟩|exact (by show drawK _ _=true; kernel_rfl:drawX _ _ _)|simp -dsimp (maxSteps:=20000000) (disch:=omega) only [simx,zzC,zzB,tys,ite_self,opnL,callB,callX,readsB,stepOp,nilCmp,ofVal,opBuiltin,opLen,PV.sk,scalBin,scalUn,intBin,opLoad,natOf,opConvert,opField,cellsP,oneP,Value.oneCell',opStore,toIV,scalT,scalA,scalC,boxesA,boxesC,zipB_none,zipB_mx,isZ,opZip,zeroP,opAppendZ,opMakeMap,opLookup,mboxB,opUpdate,↓reduceIte,Nat.reduceSub,Nat.reduceEqDiff,Nat.reduceAdd,Nat.reduceMul,Nat.reduceLT,Nat.reduceLeDiff,Int.reduceToNat,Int.reduceLE,Int.reduceLT,Int.reduceNeg,reduceCtorEq,zzR,gos,Int.reduceAdd,Int.reduceSub,Int.reduceMul,Int.reduceEq,hb,c1,SK.len])
def badS (each:Int):List (List Int) → Nat → Int
  | [],_ => -1
  | a::l,k => if (a.length:Int)=each then badS each l (k + 1) else k
theorem badS_iff (each:Int):∀ (l:List (List Int)) (k:Nat),¬ 0 ≤ badS each l k ↔ ∀ u ∈ l,(u.length:Int)=each
  | [],k => by simp [badS]
  | a::l,k => by
    rw [badS]
    by_cases h:(a.length:Int)=each
    · rw [if_pos h,badS_iff each l (k + 1)]; simp [h]
    · rw [if_neg h]
      have hk:(0:Int) ≤ (k:Int):=by omega
      simp [h,hk]
theorem drop13 {α:Type} {l:List α} {j:Nat} (h:j < l.length):l.drop j=l[j]::l.drop (j + 1):=List.drop_eq_getElem_cons h
theorem indexS_walk {b base:Name} {h:Heap} {each:Int} {l:List (List Int)} (hl:l.length ≤ maxLen) (hb:h b=some (.var [i64 each])) :
    CallR Try.prog base 136 [llP l,.clo 119 [.ref b 0 1]] h (i64 (badS each l 0)) h:=by
  rw [mx_len] at hl
  refine X_startR (n:=19) (m:=2) (rs:=[.tmp 4]) Try.func136 rfl rfl rfl rfl (by decide) ?_
  repeat (first|refine X_opc rfl ?_|refine X_dopc rfl ?_|refine ⟨(by show drawK _ _=true; kernel_rfl:drawX _ _ _),?_⟩|exact (by show drawK _ _=true; kernel_rfl:drawX _ _ _)|simp -dsimp (maxSteps:=20000000) (disch:=omega) only [simx,zzC,zzB,tys,ite_self,opnL,callB,callX,readsB,stepOp,nilCmp,ofVal,opBuiltin,opLen,PV.sk,scalBin,scalUn,intBin,opLoad,natOf,opConvert,opField,cellsP,oneP,Value.oneCell',opStore,toIV,scalT,scalA,scalC,boxesA,boxesC,zipB_none,zipB_mx,isZ,opZip,zeroP,opAppendZ,opMakeMap,opLookup,mboxB,opUpdate,↓reduceIte,Nat.reduceSub,Nat.reduceEqDiff,Nat.reduceAdd,Nat.reduceMul,Nat.reduceLT,Nat.reduceLeDiff,Int.reduceToNat,Int.reduceLE,Int.reduceLT,Int.reduceNeg,reduceCtorEq,gos,Int.reduceAdd,Int.reduceSub,Int.reduceMul,Int.reduceEq])
  refine X_loopH [0,1,7,8] [] (0) (l.length) (fun j => badS each (l.drop j) j=badS each l 0) (fun j => [(8,i64 j)]) (fun j => h) ?_ ?_ ?_ ?_ ?_ (by decide) ?_
  · exact (fgt_nil)
  · ((simp -dsimp (disch:=omega) only [simx,zzB,tys,ite_self,opnL,callB,callX,readsB,stepOp,nilCmp,ofVal,opBuiltin,opLen,PV.sk,scalBin,scalUn,intBin,opLoad,natOf,opConvert,opField,cellsP,oneP,Value.oneCell',opStore,toIV,scalT,scalA,scalC,boxesA,boxesC,zipB_none,zipB_mx,isZ,opZip,zeroP,opAppendZ,opMakeMap,opLookup,mboxB,opUpdate,↓reduceIte,Nat.reduceSub,Nat.reduceEqDiff,Nat.reduceAdd,Nat.reduceMul,Nat.reduceLT,Nat.reduceLeDiff,Int.reduceToNat,Int.reduceLE,Int.reduceLT,Int.reduceNeg,reduceCtorEq,gos,Int.reduceAdd,Int.reduceSub,Int.reduceMul,Int.reduceEq]) <;> first|rfl|simp)
  · exact drop_nil _
  · omega
  · rfl
  · intro j hj hf
    by_cases c:j < l.length
    · have g1:(l.map fun u => IV.l u.length (u.map iu))[j]?=some (.l (l[j]).length ((l[j]).map iu)):=by rw [List.getElem?_map,List.getElem?_eq_getElem c]; rfl
      rw [drop13 c,badS] at hf
      generalize l[j]=u at g1 hf
      repeat (first|refine X_opc rfl ?_|refine X_dopc rfl ?_|refine ⟨(by show drawK _ _=true; kernel_rfl:drawX _ _ _),?_⟩|exact (by show drawK _ _=true; kernel_rfl:drawX _ _ _)|simp -dsimp (maxSteps:=20000000) (disch:=omega) only [simx,zzC,zzB,tys,ite_self,opnL,callB,callX,readsB,stepOp,nilCmp,ofVal,opBuiltin,opLen,PV.sk,scalBin,scalUn,intBin,opLoad,natOf,opConvert,opField,cellsP,oneP,Value.oneCell',opStore,toIV,scalT,scalA,scalC,boxesA,boxesC,zipB_none,zipB_mx,isZ,opZip,zeroP,opAppendZ,opMakeMap,opLookup,mboxB,opUpdate,↓reduceIte,Nat.reduceSub,Nat.reduceEqDiff,Nat.reduceAdd,Nat.reduceMul,Nat.reduceLT,Nat.reduceLeDiff,Int.reduceToNat,Int.reduceLE,Int.reduceLT,Int.reduceNeg,reduceCtorEq,gos,Int.reduceAdd,Int.reduceSub,Int.reduceMul,Int.reduceEq,c,g1])
      refine X_call_shared (sized1_walk (x:=u) hb) rfl (by simp -dsimp only [calleeOf,simx,zzB,tys,ite_self,opnL,callB,callX,readsB,stepOp,nilCmp,ofVal,opBuiltin,opLen,PV.sk,scalBin,scalUn,intBin,opLoad,natOf,opConvert,opField,cellsP,oneP,Value.oneCell',opStore,toIV,scalT,scalA,scalC,boxesA,boxesC,zipB_none,zipB_mx,isZ,opZip,zeroP,opAppendZ,opMakeMap,opLookup,mboxB,opUpdate,↓reduceIte,Nat.reduceSub,Nat.reduceEqDiff,Nat.reduceAdd,Nat.reduceMul,Nat.reduceLT,Nat.reduceLeDiff,Int.reduceToNat,Int.reduceLE,Int.reduceLT,Int.reduceNeg,reduceCtorEq,gos,Int.reduceAdd,Int.reduceSub,Int.reduceMul,Int.reduceEq]) (by simp only [tys]) ?_
      by_cases e:(u.length:Int)=each
      · rw [if_pos e] at hf
        rw [decide_eq_true e]
        repeat (first|refine X_opc rfl ?_|refine X_dopc rfl ?_|refine ⟨(by show drawK _ _=true; kernel_rfl:drawX _ _ _),?_⟩|exact (by show drawK _ _=true; kernel_rfl:drawX _ _ _)|simp -dsimp (maxSteps:=20000000) (disch:=omega) only [simx,zzC,zzB,tys,ite_self,opnL,callB,callX,readsB,stepOp,nilCmp,ofVal,opBuiltin,opLen,PV.sk,scalBin,scalUn,intBin,opLoad,natOf,opConvert,opField,cellsP,oneP,Value.oneCell',opStore,toIV,scalT,scalA,scalC,boxesA,boxesC,zipB_none,zipB_mx,isZ,opZip,zeroP,opAppendZ,opMakeMap,opLookup,mboxB,opUpdate,↓reduceIte,Nat.reduceSub,Nat.reduceEqDiff,Nat.reduceAdd,Nat.reduceMul,Nat.reduceLT,Nat.reduceLeDiff,Int.reduceToNat,Int.reduceLE,Int.reduceLT,Int.reduceNeg,reduceCtorEq,gos,Int.reduceAdd,Int.reduceSub,Int.reduceMul,Int.reduceEq])
        exact ⟨c,(fgt_nil),hf,rfl,drop_nil _⟩
      · rw [if_neg e] at hf
        rw [decide_eq_false e,← show (j:Int)=badS each l 0 from hf]
        repeat (first|refine X_opc rfl ?_|refine X_dopc rfl ?_|refine ⟨(by show drawK _ _=true; kernel_rfl:drawX _ _ _),?_⟩|exact (by show drawK _ _=true; kernel_rfl:drawX _ _ _)|simp -dsimp (maxSteps:=20000000) (disch:=omega) only [simx,zzC,zzB,tys,ite_self,opnL,callB,callX,readsB,stepOp,nilCmp,ofVal,opBuiltin,opLen,PV.sk,scalBin,scalUn,intBin,opLoad,natOf,opConvert,opField,cellsP,oneP,Value.oneCell',opStore,toIV,scalT,scalA,scalC,boxesA,boxesC,zipB_none,zipB_mx,isZ,opZip,zeroP,opAppendZ,opMakeMap,opLookup,mboxB,opUpdate,↓reduceIte,Nat.reduceSub,Nat.reduceEqDiff,Nat.reduceAdd,Nat.reduceMul,Nat.reduceLT,Nat.reduceLeDiff,Int.reduceToNat,Int.reduceLE,Int.reduceLT,Int.reduceNeg,reduceCtorEq,zzR,gos,Int.reduceAdd,Int.reduceSub,Int.reduceMul,Int.reduceEq])
    · have hj:j=l.length:=by omega
      subst hj
      rw [List.drop_length,badS] at hf
      rw [← hf]
      repeat (first|refine X_opc rfl ?_|refine X_dopc rfl ?_|refine ⟨(by show drawK _ _=true; kernel_rfl:drawX _ _ _),?_⟩|exact (by show drawK _ _=true; kernel_rfl:drawX _ _ _)|simp -dsimp (maxSteps:=20000000) (disch:=omega) only [simx,zzC,zzB,tys,ite_self,opnL,callB,callX,readsB,stepOp,nilCmp,ofVal,opBuiltin,opLen,PV.sk,scalBin,scalUn,intBin,opLoad,natOf,opConvert,opField,cellsP,oneP,Value.oneCell',opStore,toIV,scalT,scalA,scalC,boxesA,boxesC,zipB_none,zipB_mx,isZ,opZip,zeroP,opAppendZ,opMakeMap,opLookup,mboxB,opUpdate,↓reduceIte,Nat.reduceSub,Nat.reduceEqDiff,Nat.reduceAdd,Nat.reduceMul,Nat.reduceLT,Nat.reduceLeDiff,Int.reduceToNat,Int.reduceLE,Int.reduceLT,Int.reduceNeg,reduceCtorEq,zzR,gos,Int.reduceAdd,Int.reduceSub,Int.reduceMul,Int.reduceEq])
theorem containsS_walk {b base:Name} {h:Heap} {each:Int} {l:List (List Int)} (hl:l.length ≤ maxLen) (hb:h b=some (.var [i64 each])) :
    CallR Try.prog base 118 [llP l,.clo 119 [.ref b 0 1]] h (bl (decide (0 ≤ badS each l 0))) h:=by
  have q:=fun bs => indexS_walk (base:=bs) hl hb
  generalize badS each l 0=i at q
  by_cases c:0 ≤ i
  · rw [decide_eq_true c]
    refine X_startR (n:=9) (m:=2) (rs:=[.tmp 4]) Try.func118 rfl rfl rfl rfl (by decide) ?_
    repeat (first|refine X_opc rfl ?_|refine X_dopc rfl ?_|refine ⟨(by show drawK _ _=true; kernel_rfl:drawX _ _ _),?_⟩|exact (by show drawK _ _=true; kernel_rfl:drawX _ _ _)|simp -dsimp (maxSteps:=20000000) (disch:=omega) only [simx,zzC,zzB,tys,ite_self,opnL,callB,callX,readsB,stepOp,nilCmp,ofVal,opBuiltin,opLen,PV.sk,scalBin,scalUn,intBin,opLoad,natOf,opConvert,opField,cellsP,oneP,Value.oneCell',opStore,toIV,scalT,scalA,scalC,boxesA,boxesC,zipB_none,zipB_mx,isZ,opZip,zeroP,opAppendZ,opMakeMap,opLookup,mboxB,opUpdate,↓reduceIte,Nat.reduceSub,Nat.reduceEqDiff,Nat.reduceAdd,Nat.reduceMul,Nat.reduceLT,Nat.reduceLeDiff,Int.reduceToNat,Int.reduceLE,Int.reduceLT,Int.reduceNeg,reduceCtorEq,gos,Int.reduceAdd,Int.reduceSub,Int.reduceMul,Int.reduceEq])
    refine X_call_shared (q _) rfl (by simp -dsimp only [callee_fn,simx,zzB,tys,ite_self,opnL,callB,callX,readsB,stepOp,nilCmp,ofVal,opBuiltin,opLen,PV.sk,scalBin,scalUn,intBin,opLoad,natOf,opConvert,opField,cellsP,oneP,Value.oneCell',opStore,toIV,scalT,scalA,scalC,boxesA,boxesC,zipB_none,zipB_mx,isZ,opZip,zeroP,opAppendZ,opMakeMap,opLookup,mboxB,opUpdate,↓reduceIte,Nat.reduceSub,Nat.reduceEqDiff,Nat.reduceAdd,Nat.reduceMul,Nat.reduceLT,Nat.reduceLeDiff,Int.reduceToNat,Int.reduceLE,Int.reduceLT,Int.reduceNeg,reduceCtorEq,gos,Int.reduceAdd,Int.reduceSub,Int.reduceMul,Int.reduceEq]) (by simp only [tys]) ?_
    repeat (first|refine X_opc rfl ?_|refine X_dopc rfl ?_|refine ⟨(by show drawK _ _=true; kernel_rfl:drawX _ _ _),?_⟩|exact (by show drawK _ _=true; kernel_rfl:drawX _ _ _)|simp -dsimp (maxSteps:=20000000) (disch:=omega) only [simx,zzC,zzB,tys,ite_self,opnL,callB,callX,readsB,stepOp,nilCmp,ofVal,opBuiltin,opLen,PV.sk,scalBin,scalUn,intBin,opLoad,natOf,opConvert,opField,cellsP,oneP,Value.oneCell',opStore,toIV,scalT,scalA,scalC,boxesA,boxesC,zipB_none,zipB_mx,isZ,opZip,zeroP,opAppendZ,opMakeMap,opLookup,mboxB,opUpdate,↓reduceIte,Nat.reduceSub,Nat.reduceEqDiff,Nat.reduceAdd,Nat.reduceMul,Nat.reduceLT,Nat.reduceLeDiff,Int.reduceToNat,Int.reduceLE,Int.reduceLT,Int.reduceNeg,reduceCtorEq,zzR,gos,Int.reduceAdd,Int.reduceSub,Int.reduceMul,Int.reduceEq])
  · rw [decide_eq_false c]
    refine X_startR (n:=9) (m:=2) (rs:=[.tmp 4]) Try.func118 rfl rfl rfl rfl (by decide) ?_
    repeat (first|refine X_opc rfl ?_|refine X_dopc rfl ?_|refine ⟨(by show drawK _ _=true; kernel_rfl:drawX _ _ _),?_⟩|exact (by show drawK _ _=true; kernel_rfl:drawX _ _ _)|simp -dsimp (maxSteps:=20000000) (disch:=omega) only [simx,zzC,zzB,tys,ite_self,opnL,callB,callX,readsB,stepOp,nilCmp,ofVal,opBuiltin,opLen,PV.sk,scalBin,scalUn,intBin,opLoad,natOf,opConvert,opField,cellsP,oneP,Value.oneCell',opStore,toIV,scalT,scalA,scalC,boxesA,boxesC,zipB_none,zipB_mx,isZ,opZip,zeroP,opAppendZ,opMakeMap,opLookup,mboxB,opUpdate,↓reduceIte,Nat.reduceSub,Nat.reduceEqDiff,Nat.reduceAdd,Nat.reduceMul,Nat.reduceLT,Nat.reduceLeDiff,Int.reduceToNat,Int.reduceLE,Int.reduceLT,Int.reduceNeg,reduceCtorEq,gos,Int.reduceAdd,Int.reduceSub,Int.reduceMul,Int.reduceEq])
    refine X_call_shared (q _) rfl (by simp -dsimp only [callee_fn,simx,zzB,tys,ite_self,opnL,callB,callX,readsB,stepOp,nilCmp,ofVal,opBuiltin,opLen,PV.sk,scalBin,scalUn,intBin,opLoad,natOf,opConvert,opField,cellsP,oneP,Value.oneCell',opStore,toIV,scalT,scalA,scalC,boxesA,boxesC,zipB_none,zipB_mx,isZ,opZip,zeroP,opAppendZ,opMakeMap,opLookup,mboxB,opUpdate,↓reduceIte,Nat.reduceSub,Nat.reduceEqDiff,Nat.reduceAdd,Nat.reduceMul,Nat.reduceLT,Nat.reduceLeDiff,Int.reduceToNat,Int.reduceLE,Int.reduceLT,Int.reduceNeg,reduceCtorEq,gos,Int.reduceAdd,Int.reduceSub,Int.reduceMul,Int.reduceEq]) (by simp only [tys]) ?_
    repeat (first|refine X_opc rfl ?_|refine X_dopc rfl ?_|refine ⟨(by show drawK _ _=true; kernel_rfl:drawX _ _ _),?_⟩|exact (by show drawK _ _=true; kernel_rfl:drawX _ _ _)|simp -dsimp (maxSteps:=20000000) (disch:=omega) only [simx,zzC,zzB,tys,ite_self,opnL,callB,callX,readsB,stepOp,nilCmp,ofVal,opBuiltin,opLen,PV.sk,scalBin,scalUn,intBin,opLoad,natOf,opConvert,opField,cellsP,oneP,Value.oneCell',opStore,toIV,scalT,scalA,scalC,boxesA,boxesC,zipB_none,zipB_mx,isZ,opZip,zeroP,opAppendZ,opMakeMap,opLookup,mboxB,opUpdate,↓reduceIte,Nat.reduceSub,Nat.reduceEqDiff,Nat.reduceAdd,Nat.reduceMul,Nat.reduceLT,Nat.reduceLeDiff,Int.reduceToNat,Int.reduceLE,Int.reduceLT,Int.reduceNeg,reduceCtorEq,zzR,gos,Int.reduceAdd,Int.reduceSub,Int.reduceMul,Int.reduceEq])
def sizedB (l:List (List Int)) (many each:Int):Bool:=decide ((l.length:Int)=many) && !decide (0 ≤ badS each l 0)
theorem sizedB_iff (l:List (List Int)) (many each:Int):sizedB l many each=true ↔ (l.length:Int)=many ∧ ∀ u ∈ l,(u.length:Int)=each:=by
  unfold sizedB
  rw [Bool.and_eq_true,decide_eq_true_eq,Bool.not_eq_true',decide_eq_false_iff_not,badS_iff]
theorem sized_walk {l:List (List Int)} (many each:Int) (hl:l.length ≤ maxLen):CallsP Try.prog 85 [llP l,i64 many,i64 each] (bl (sizedB l many each)):=by
  unfold sizedB
  by_cases c1:(l.length:Int)=many
  · rw [decide_eq_true c1]
    refine X_startP (n:=17) (m:=3) (rs:=[.tmp 6]) Try.func85 rfl rfl rfl rfl (by decide) fun base => ?_
    repeat (first|refine X_opc rfl ?_|refine X_dopc rfl ?_|refine ⟨(by show drawK _ _=true; kernel_rfl:drawX _ _ _),?_⟩|exact (by show drawK _ _=true; kernel_rfl:drawX _ _ _)|simp -dsimp (maxSteps:=20000000) (disch:=omega) only [simx,zzC,zzB,tys,ite_self,opnL,callB,callX,readsB,stepOp,nilCmp,ofVal,opBuiltin,opLen,PV.sk,scalBin,scalUn,intBin,opLoad,natOf,opConvert,opField,cellsP,oneP,Value.oneCell',opStore,toIV,scalT,scalA,scalC,boxesA,boxesC,zipB_none,zipB_mx,isZ,opZip,zeroP,opAppendZ,opMakeMap,opLookup,mboxB,opUpdate,↓reduceIte,Nat.reduceSub,Nat.reduceEqDiff,Nat.reduceAdd,Nat.reduceMul,Nat.reduceLT,Nat.reduceLeDiff,Int.reduceToNat,Int.reduceLE,Int.reduceLT,Int.reduceNeg,reduceCtorEq,gos,Int.reduceAdd,Int.reduceSub,Int.reduceMul,Int.reduceEq,c1,SK.len])
    refine X_call_shared (containsS_walk (b:=(0,0)::base) (each:=each) hl (by simp [Heap.put_at])) rfl (by simp -dsimp only [callee_fn,simx,zzB,tys,ite_self,opnL,callB,callX,readsB,stepOp,nilCmp,ofVal,opBuiltin,opLen,PV.sk,scalBin,scalUn,intBin,opLoad,natOf,opConvert,opField,cellsP,oneP,Value.oneCell',opStore,toIV,scalT,scalA,scalC,boxesA,boxesC,zipB_none,zipB_mx,isZ,opZip,zeroP,opAppendZ,opMakeMap,opLookup,mboxB,opUpdate,↓reduceIte,Nat.reduceSub,Nat.reduceEqDiff,Nat.reduceAdd,Nat.reduceMul,Nat.reduceLT,Nat.reduceLeDiff,Int.reduceToNat,Int.reduceLE,Int.reduceLT,Int.reduceNeg,reduceCtorEq,gos,Int.reduceAdd,Int.reduceSub,Int.reduceMul,Int.reduceEq]) (by simp only [tys]) ?_
    generalize decide (0 ≤ badS each l 0)=o
    repeat (first|refine X_opc rfl ?_|refine X_dopc rfl ?_|refine ⟨(by show drawK _ _=true; kernel_rfl:drawX _ _ _),?_⟩|exact (by show drawK _ _=true; kernel_rfl:drawX _ _ _)|simp -dsimp (maxSteps:=20000000) (disch:=omega) only [simx,zzC,zzB,tys,ite_self,opnL,callB,callX,readsB,stepOp,nilCmp,ofVal,opBuiltin,opLen,PV.sk,scalBin,scalUn,intBin,opLoad,natOf,opConvert,opField,cellsP,oneP,Value.oneCell',opStore,toIV,scalT,scalA,scalC,boxesA,boxesC,zipB_none,zipB_mx,isZ,opZip,zeroP,opAppendZ,opMakeMap,opLookup,mboxB,opUpdate,↓reduceIte,Nat.reduceSub,Nat.reduceEqDiff,Nat.reduceAdd,Nat.reduceMul,Nat.reduceLT,Nat.reduceLeDiff,Int.reduceToNat,Int.reduceLE,Int.reduceLT,Int.reduceNeg,reduceCtorEq,zzR,gos,Int.reduceAdd,Int.reduceSub,Int.reduceMul,Int.reduceEq])
    try rfl
  · rw [decide_eq_false c1]
    refine X_startP (n:=17) (m:=3) (rs:=[.tmp 6]) Try.func85 rfl rfl rfl rfl (by decide) fun base => ?_
    repeat (first|refine X_opc rfl ?_|refine X_dopc rfl ?_|refine ⟨(by show drawK _ _=true; kernel_rfl:drawX _ _ _),?_⟩|exact (by show drawK _ _=true; kernel_rfl:drawX _ _ _)|simp -dsimp (maxSteps:=20000000) (disch:=omega) only [simx,zzC,zzB,tys,ite_self,opnL,callB,callX,readsB,stepOp,nilCmp,ofVal,opBuiltin,opLen,PV.sk,scalBin,scalUn,intBin,opLoad,natOf,opConvert,opField,cellsP,oneP,Value.oneCell',opStore,toIV,scalT,scalA,scalC,boxesA,boxesC,zipB_none,zipB_mx,isZ,opZip,zeroP,opAppendZ,opMakeMap,opLookup,mboxB,opUpdate,↓reduceIte,Nat.reduceSub,Nat.reduceEqDiff,Nat.reduceAdd,Nat.reduceMul,Nat.reduceLT,Nat.reduceLeDiff,Int.reduceToNat,Int.reduceLE,Int.reduceLT,Int.reduceNeg,reduceCtorEq,zzR,gos,Int.reduceAdd,Int.reduceSub,Int.reduceMul,Int.reduceEq,c1,SK.len])
    try rfl
theorem rest1_walk (a:Int):CallsP Try.prog 121 [u64 a] (bl (a != 0)):=by
  refine X_startP (n:=5) (m:=1) (rs:=[.tmp 2]) Try.func121 rfl rfl rfl rfl (by decide) fun base => ?_
  repeat (first|refine X_opc rfl ?_|refine X_dopc rfl ?_|refine ⟨(by show drawK _ _=true; kernel_rfl:drawX _ _ _),?_⟩|exact (by show drawK _ _=true; kernel_rfl:drawX _ _ _)|simp -dsimp (maxSteps:=20000000) (disch:=omega) only [simx,zzC,zzB,tys,ite_self,opnL,callB,callX,readsB,stepOp,nilCmp,ofVal,opBuiltin,opLen,PV.sk,scalBin,scalUn,intBin,opLoad,natOf,opConvert,opField,cellsP,oneP,Value.oneCell',opStore,toIV,scalT,scalA,scalC,boxesA,boxesC,zipB_none,zipB_mx,isZ,opZip,zeroP,opAppendZ,opMakeMap,opLookup,mboxB,opUpdate,↓reduceIte,Nat.reduceSub,Nat.reduceEqDiff,Nat.reduceAdd,Nat.reduceMul,Nat.reduceLT,Nat.reduceLeDiff,Int.reduceToNat,Int.reduceLE,Int.reduceLT,Int.reduceNeg,reduceCtorEq,zzR,gos,Int.reduceAdd,Int.reduceSub,Int.reduceMul,Int.reduceEq])
theorem indexR_walk {l:List Int} (hl:l.length ≤ maxLen):CallsP Try.prog 130 [lu l,fnc 121] (i64 (nzI l 0)):=by
  rw [mx_len] at hl
  refine X_startP (n:=19) (m:=2) (rs:=[.tmp 4]) Try.func130 rfl rfl rfl rfl (by decide) fun base => ?_
  repeat (first|refine X_opc rfl ?_|refine X_dopc rfl ?_|refine ⟨(by show drawK _ _=true; kernel_rfl:drawX _ _ _),?_⟩|exact (by show drawK _ _=true; kernel_rfl:drawX _ _ _)|simp -dsimp (maxSteps:=20000000) (disch:=omega) only [simx,zzC,zzB,tys,ite_self,opnL,callB,callX,readsB,stepOp,nilCmp,ofVal,opBuiltin,opLen,PV.sk,scalBin,scalUn,intBin,opLoad,natOf,opConvert,opField,cellsP,oneP,Value.oneCell',opStore,toIV,scalT,scalA,scalC,boxesA,boxesC,zipB_none,zipB_mx,isZ,opZip,zeroP,opAppendZ,opMakeMap,opLookup,mboxB,opUpdate,↓reduceIte,Nat.reduceSub,Nat.reduceEqDiff,Nat.reduceAdd,Nat.reduceMul,Nat.reduceLT,Nat.reduceLeDiff,Int.reduceToNat,Int.reduceLE,Int.reduceLT,Int.reduceNeg,reduceCtorEq,gos,Int.reduceAdd,Int.reduceSub,Int.reduceMul,Int.reduceEq])
  refine X_loopH [0,1,7,8] [] (0) (l.length) (fun j => nzI (l.drop j) j=nzI l 0) (fun j => [(8,i64 j)]) (fun j => Heap.none) ?_ ?_ ?_ ?_ ?_ (by decide) ?_
  · exact (fgt_nil)
  · ((simp -dsimp (disch:=omega) only [simx,zzB,tys,ite_self,opnL,callB,callX,readsB,stepOp,nilCmp,ofVal,opBuiltin,opLen,PV.sk,scalBin,scalUn,intBin,opLoad,natOf,opConvert,opField,cellsP,oneP,Value.oneCell',opStore,toIV,scalT,scalA,scalC,boxesA,boxesC,zipB_none,zipB_mx,isZ,opZip,zeroP,opAppendZ,opMakeMap,opLookup,mboxB,opUpdate,↓reduceIte,Nat.reduceSub,Nat.reduceEqDiff,Nat.reduceAdd,Nat.reduceMul,Nat.reduceLT,Nat.reduceLeDiff,Int.reduceToNat,Int.reduceLE,Int.reduceLT,Int.reduceNeg,reduceCtorEq,gos,Int.reduceAdd,Int.reduceSub,Int.reduceMul,Int.reduceEq]) <;> first|rfl|simp)
  · exact drop_nil _
  · omega
  · rfl
  · intro j hj hf
    by_cases c:j < l.length
    · have g1:l[j]?=some l[j]:=List.getElem?_eq_getElem c
      have d:=rest1_walk l[j]
      rw [List.drop_eq_getElem_cons c,nzI] at hf
      generalize l[j]=a at g1 d hf
      by_cases e:a=0
      · rw [if_pos e] at hf
        subst e
        rw [show ((0:Int) != 0)=false from rfl] at d
        repeat (first|((first|refine X_call_fn2 rfl (by simp only [tys]) ?_|refine X_dcall_fn2 rfl (by simp only [tys]) ?_); apply Exists.intro; apply And.intro; (focus (simp -dsimp only [simx,zzC,zzB,tys,ite_self,opnL,callB,callX,readsB,stepOp,nilCmp,ofVal,opBuiltin,opLen,PV.sk,scalBin,scalUn,intBin,opLoad,natOf,opConvert,opField,cellsP,oneP,Value.oneCell',opStore,toIV,scalT,scalA,scalC,boxesA,boxesC,zipB_none,zipB_mx,isZ,opZip,zeroP,opAppendZ,opMakeMap,opLookup,mboxB,opUpdate,↓reduceIte,Nat.reduceSub,Nat.reduceEqDiff,Nat.reduceAdd,Nat.reduceMul,Nat.reduceLT,Nat.reduceLeDiff,Int.reduceToNat,Int.reduceLE,Int.reduceLT,Int.reduceNeg,reduceCtorEq,zzL,if_true,if_false] <;> rfl)); apply Exists.intro; apply And.intro; (focus (first|exact d)))|(refine X_call_val2 rfl ?_; apply Exists.intro; apply And.intro; (focus (simp -dsimp only [simx,zzC,zzB,tys,ite_self,opnL,callB,callX,readsB,stepOp,nilCmp,ofVal,opBuiltin,opLen,PV.sk,scalBin,scalUn,intBin,opLoad,natOf,opConvert,opField,cellsP,oneP,Value.oneCell',opStore,toIV,scalT,scalA,scalC,boxesA,boxesC,zipB_none,zipB_mx,isZ,opZip,zeroP,opAppendZ,opMakeMap,opLookup,mboxB,opUpdate,↓reduceIte,Nat.reduceSub,Nat.reduceEqDiff,Nat.reduceAdd,Nat.reduceMul,Nat.reduceLT,Nat.reduceLeDiff,Int.reduceToNat,Int.reduceLE,Int.reduceLT,Int.reduceNeg,reduceCtorEq,zzL,if_true,if_false] <;> rfl)); apply And.intro; (focus (first|simp only [tys]|exact such_enter _)); apply Exists.intro; apply And.intro; (focus (simp -dsimp only [simx,zzC,zzB,tys,ite_self,opnL,callB,callX,readsB,stepOp,nilCmp,ofVal,opBuiltin,opLen,PV.sk,scalBin,scalUn,intBin,opLoad,natOf,opConvert,opField,cellsP,oneP,Value.oneCell',opStore,toIV,scalT,scalA,scalC,boxesA,boxesC,zipB_none,zipB_mx,isZ,opZip,zeroP,opAppendZ,opMakeMap,opLookup,mboxB,opUpdate,↓reduceIte,Nat.reduceSub,Nat.reduceEqDiff,Nat.reduceAdd,Nat.reduceMul,Nat.reduceLT,Nat.reduceLeDiff,Int.reduceToNat,Int.reduceLE,Int.reduceLT,Int.reduceNeg,reduceCtorEq,zzL,if_true,if_false] <;> rfl)); apply Exists.intro; apply And.intro; (focus (first|exact d)))|refine X_opc rfl ?_|refine X_dopc rfl ?_|refine ⟨(by show drawK _ _=true; kernel_rfl:drawX _ _ _),?_⟩|exact (by show drawK _ _=true; kernel_rfl:drawX _ _ _)|simp -dsimp (maxSteps:=20000000) (disch:=omega) only [simx,zzC,zzB,tys,ite_self,opnL,callB,callX,readsB,stepOp,nilCmp,ofVal,opBuiltin,opLen,PV.sk,scalBin,scalUn,intBin,opLoad,natOf,opConvert,opField,cellsP,oneP,Value.oneCell',opStore,toIV,scalT,scalA,scalC,boxesA,boxesC,zipB_none,zipB_mx,isZ,opZip,zeroP,opAppendZ,opMakeMap,opLookup,mboxB,opUpdate,↓reduceIte,Nat.reduceSub,Nat.reduceEqDiff,Nat.reduceAdd,Nat.reduceMul,Nat.reduceLT,Nat.reduceLeDiff,Int.reduceToNat,Int.reduceLE,Int.reduceLT,Int.reduceNeg,reduceCtorEq,zzR,gos,Int.reduceAdd,Int.reduceSub,Int.reduceMul,Int.reduceEq,c,g1])
        exact ⟨c,(fgt_nil),hf,rfl,drop_nil _⟩
      · rw [if_neg e] at hf
        rw [← hf]
        rw [bne_tt e] at d
        repeat (first|((first|refine X_call_fn2 rfl (by simp only [tys]) ?_|refine X_dcall_fn2 rfl (by simp only [tys]) ?_); apply Exists.intro; apply And.intro; (focus (simp -dsimp only [simx,zzC,zzB,tys,ite_self,opnL,callB,callX,readsB,stepOp,nilCmp,ofVal,opBuiltin,opLen,PV.sk,scalBin,scalUn,intBin,opLoad,natOf,opConvert,opField,cellsP,oneP,Value.oneCell',opStore,toIV,scalT,scalA,scalC,boxesA,boxesC,zipB_none,zipB_mx,isZ,opZip,zeroP,opAppendZ,opMakeMap,opLookup,mboxB,opUpdate,↓reduceIte,Nat.reduceSub,Nat.reduceEqDiff,Nat.reduceAdd,Nat.reduceMul,Nat.reduceLT,Nat.reduceLeDiff,Int.reduceToNat,Int.reduceLE,Int.reduceLT,Int.reduceNeg,reduceCtorEq,zzL,if_true,if_false] <;> rfl)); apply Exists.intro; apply And.intro; (focus (first|exact d)))|(refine X_call_val2 rfl ?_; apply Exists.intro; apply And.intro; (focus (simp -dsimp only [simx,zzC,zzB,tys,ite_self,opnL,callB,callX,readsB,stepOp,nilCmp,ofVal,opBuiltin,opLen,PV.sk,scalBin,scalUn,intBin,opLoad,natOf,opConvert,opField,cellsP,oneP,Value.oneCell',opStore,toIV,scalT,scalA,scalC,boxesA,boxesC,zipB_none,zipB_mx,isZ,opZip,zeroP,opAppendZ,opMakeMap,opLookup,mboxB,opUpdate,↓reduceIte,Nat.reduceSub,Nat.reduceEqDiff,Nat.reduceAdd,Nat.reduceMul,Nat.reduceLT,Nat.reduceLeDiff,Int.reduceToNat,Int.reduceLE,Int.reduceLT,Int.reduceNeg,reduceCtorEq,zzL,if_true,if_false] <;> rfl)); apply And.intro; (focus (first|simp only [tys]|exact such_enter _)); apply Exists.intro; apply And.intro; (focus (simp -dsimp only [simx,zzC,zzB,tys,ite_self,opnL,callB,callX,readsB,stepOp,nilCmp,ofVal,opBuiltin,opLen,PV.sk,scalBin,scalUn,intBin,opLoad,natOf,opConvert,opField,cellsP,oneP,Value.oneCell',opStore,toIV,scalT,scalA,scalC,boxesA,boxesC,zipB_none,zipB_mx,isZ,opZip,zeroP,opAppendZ,opMakeMap,opLookup,mboxB,opUpdate,↓reduceIte,Nat.reduceSub,Nat.reduceEqDiff,Nat.reduceAdd,Nat.reduceMul,Nat.reduceLT,Nat.reduceLeDiff,Int.reduceToNat,Int.reduceLE,Int.reduceLT,Int.reduceNeg,reduceCtorEq,zzL,if_true,if_false] <;> rfl)); apply Exists.intro; apply And.intro; (focus (first|exact d)))|refine X_opc rfl ?_|refine X_dopc rfl ?_|refine ⟨(by show drawK _ _=true; kernel_rfl:drawX _ _ _),?_⟩|exact (by show drawK _ _=true; kernel_rfl:drawX _ _ _)|simp -dsimp (maxSteps:=20000000) (disch:=omega) only [simx,zzC,zzB,tys,ite_self,opnL,callB,callX,readsB,stepOp,nilCmp,ofVal,opBuiltin,opLen,PV.sk,scalBin,scalUn,intBin,opLoad,natOf,opConvert,opField,cellsP,oneP,Value.oneCell',opStore,toIV,scalT,scalA,scalC,boxesA,boxesC,zipB_none,zipB_mx,isZ,opZip,zeroP,opAppendZ,opMakeMap,opLookup,mboxB,opUpdate,↓reduceIte,Nat.reduceSub,Nat.reduceEqDiff,Nat.reduceAdd,Nat.reduceMul,Nat.reduceLT,Nat.reduceLeDiff,Int.reduceToNat,Int.reduceLE,Int.reduceLT,Int.reduceNeg,reduceCtorEq,zzR,gos,Int.reduceAdd,Int.reduceSub,Int.reduceMul,Int.reduceEq,c,g1])
    · have hj:j=l.length:=by omega
      subst hj
      rw [List.drop_length,nzI] at hf
      rw [← hf]
      repeat (first|refine X_opc rfl ?_|refine X_dopc rfl ?_|refine ⟨(by show drawK _ _=true; kernel_rfl:drawX _ _ _),?_⟩|exact (by show drawK _ _=true; kernel_rfl:drawX _ _ _)|simp -dsimp (maxSteps:=20000000) (disch:=omega) only [simx,zzC,zzB,tys,ite_self,opnL,callB,callX,readsB,stepOp,nilCmp,ofVal,opBuiltin,opLen,PV.sk,scalBin,scalUn,intBin,opLoad,natOf,opConvert,opField,cellsP,oneP,Value.oneCell',opStore,toIV,scalT,scalA,scalC,boxesA,boxesC,zipB_none,zipB_mx,isZ,opZip,zeroP,opAppendZ,opMakeMap,opLookup,mboxB,opUpdate,↓reduceIte,Nat.reduceSub,Nat.reduceEqDiff,Nat.reduceAdd,Nat.reduceMul,Nat.reduceLT,Nat.reduceLeDiff,Int.reduceToNat,Int.reduceLE,Int.reduceLT,Int.reduceNeg,reduceCtorEq,zzR,gos,Int.reduceAdd,Int.reduceSub,Int.reduceMul,Int.reduceEq])
theorem containsR_walk {l:List Int} (hl:l.length ≤ maxLen):CallsP Try.prog 107 [lu l,fnc 121] (bl (!zerB l)):=by
  have q:=indexR_walk hl
  rw [← nzI_zero l 0]
  generalize nzI l 0=i at q
  by_cases c:0 ≤ i
  · rw [decide_eq_true c]
    refine X_startP (n:=9) (m:=2) (rs:=[.tmp 4]) Try.func107 rfl rfl rfl rfl (by decide) fun base => ?_
    repeat (first|((first|refine X_call_fn2 rfl (by simp only [tys]) ?_|refine X_dcall_fn2 rfl (by simp only [tys]) ?_); apply Exists.intro; apply And.intro; (focus (simp -dsimp only [simx,zzC,zzB,tys,ite_self,opnL,callB,callX,readsB,stepOp,nilCmp,ofVal,opBuiltin,opLen,PV.sk,scalBin,scalUn,intBin,opLoad,natOf,opConvert,opField,cellsP,oneP,Value.oneCell',opStore,toIV,scalT,scalA,scalC,boxesA,boxesC,zipB_none,zipB_mx,isZ,opZip,zeroP,opAppendZ,opMakeMap,opLookup,mboxB,opUpdate,↓reduceIte,Nat.reduceSub,Nat.reduceEqDiff,Nat.reduceAdd,Nat.reduceMul,Nat.reduceLT,Nat.reduceLeDiff,Int.reduceToNat,Int.reduceLE,Int.reduceLT,Int.reduceNeg,reduceCtorEq,zzL,if_true,if_false] <;> rfl)); apply Exists.intro; apply And.intro; (focus (first|exact q)))|refine X_opc rfl ?_|refine X_dopc rfl ?_|refine ⟨(by show drawK _ _=true; kernel_rfl:drawX _ _ _),?_⟩|exact (by show drawK _ _=true; kernel_rfl:drawX _ _ _)|simp -dsimp (maxSteps:=20000000) (disch:=omega) only [simx,zzC,zzB,tys,ite_self,opnL,callB,callX,readsB,stepOp,nilCmp,ofVal,opBuiltin,opLen,PV.sk,scalBin,scalUn,intBin,opLoad,natOf,opConvert,opField,cellsP,oneP,Value.oneCell',opStore,toIV,scalT,scalA,scalC,boxesA,boxesC,zipB_none,zipB_mx,isZ,opZip,zeroP,opAppendZ,opMakeMap,opLookup,mboxB,opUpdate,↓reduceIte,Nat.reduceSub,Nat.reduceEqDiff,Nat.reduceAdd,Nat.reduceMul,Nat.reduceLT,Nat.reduceLeDiff,Int.reduceToNat,Int.reduceLE,Int.reduceLT,Int.reduceNeg,reduceCtorEq,zzR,gos,Int.reduceAdd,Int.reduceSub,Int.reduceMul,Int.reduceEq])
  · rw [decide_eq_false c]
    refine X_startP (n:=9) (m:=2) (rs:=[.tmp 4]) Try.func107 rfl rfl rfl rfl (by decide) fun base => ?_
    repeat (first|((first|refine X_call_fn2 rfl (by simp only [tys]) ?_|refine X_dcall_fn2 rfl (by simp only [tys]) ?_); apply Exists.intro; apply And.intro; (focus (simp -dsimp only [simx,zzC,zzB,tys,ite_self,opnL,callB,callX,readsB,stepOp,nilCmp,ofVal,opBuiltin,opLen,PV.sk,scalBin,scalUn,intBin,opLoad,natOf,opConvert,opField,cellsP,oneP,Value.oneCell',opStore,toIV,scalT,scalA,scalC,boxesA,boxesC,zipB_none,zipB_mx,isZ,opZip,zeroP,opAppendZ,opMakeMap,opLookup,mboxB,opUpdate,↓reduceIte,Nat.reduceSub,Nat.reduceEqDiff,Nat.reduceAdd,Nat.reduceMul,Nat.reduceLT,Nat.reduceLeDiff,Int.reduceToNat,Int.reduceLE,Int.reduceLT,Int.reduceNeg,reduceCtorEq,zzL,if_true,if_false] <;> rfl)); apply Exists.intro; apply And.intro; (focus (first|exact q)))|refine X_opc rfl ?_|refine X_dopc rfl ?_|refine ⟨(by show drawK _ _=true; kernel_rfl:drawX _ _ _),?_⟩|exact (by show drawK _ _=true; kernel_rfl:drawX _ _ _)|simp -dsimp (maxSteps:=20000000) (disch:=omega) only [simx,zzC,zzB,tys,ite_self,opnL,callB,callX,readsB,stepOp,nilCmp,ofVal,opBuiltin,opLen,PV.sk,scalBin,scalUn,intBin,opLoad,natOf,opConvert,opField,cellsP,oneP,Value.oneCell',opStore,toIV,scalT,scalA,scalC,boxesA,boxesC,zipB_none,zipB_mx,isZ,opZip,zeroP,opAppendZ,opMakeMap,opLookup,mboxB,opUpdate,↓reduceIte,Nat.reduceSub,Nat.reduceEqDiff,Nat.reduceAdd,Nat.reduceMul,Nat.reduceLT,Nat.reduceLeDiff,Int.reduceToNat,Int.reduceLE,Int.reduceLT,Int.reduceNeg,reduceCtorEq,zzR,gos,Int.reduceAdd,Int.reduceSub,Int.reduceMul,Int.reduceEq])
theorem rest2_walk {b base:Name} {h:Heap} {u:List Int} {q:Nat} (hb:h b=some (.var [lu u])) (hq:q < u.length):CallR Try.prog base 123 [i64 q,.ref b 0 1] h (bl (!decide (u.getD q 0=0))) h:=by
  have g:(u.map iu)[q]?=some (iu (u.getD q 0)):=by rw [List.getElem?_map,getD_some rfl hq]; rfl
  generalize u.getD q 0=x at g
  by_cases c:x=0
  · subst c
    refine X_startR (n:=9) (m:=2) (rs:=[.tmp 3]) Try.func123 rfl rfl rfl rfl (by decide) ?_
    repeat (first|refine X_opc rfl ?_|refine X_dopc rfl ?_|refine ⟨(by show drawK _ _=true; kernel_rfl:drawX _ _ _),?_⟩|exact (by show drawK _ _=true; kernel_rfl:drawX _ _ _)|simp -dsimp (maxSteps:=20000000) (disch:=omega) only [simx,zzC,zzB,tys,ite_self,opnL,callB,callX,readsB,stepOp,nilCmp,ofVal,opBuiltin,opLen,PV.sk,scalBin,scalUn,intBin,opLoad,natOf,opConvert,opField,cellsP,oneP,Value.oneCell',opStore,toIV,scalT,scalA,scalC,boxesA,boxesC,zipB_none,zipB_mx,isZ,opZip,zeroP,opAppendZ,opMakeMap,opLookup,mboxB,opUpdate,↓reduceIte,Nat.reduceSub,Nat.reduceEqDiff,Nat.reduceAdd,Nat.reduceMul,Nat.reduceLT,Nat.reduceLeDiff,Int.reduceToNat,Int.reduceLE,Int.reduceLT,Int.reduceNeg,reduceCtorEq,zzR,gos,Int.reduceAdd,Int.reduceSub,Int.reduceMul,Int.reduceEq,hb,g,hq,List.length_map,SK.len])
  · rw [decide_eq_false c]
    refine X_startR (n:=9) (m:=2) (rs:=[.tmp 3]) Try.func123 rfl rfl rfl rfl (by decide) ?_
    repeat (first|refine X_opc rfl ?_|refine X_dopc rfl ?_|refine ⟨(by show drawK _ _=true; kernel_rfl:drawX _ _ _),?_⟩|exact (by show drawK _ _=true; kernel_rfl:drawX _ _ _)|simp -dsimp (maxSteps:=20000000) (disch:=omega) only [simx,zzC,zzB,tys,ite_self,opnL,callB,callX,readsB,stepOp,nilCmp,ofVal,opBuiltin,opLen,PV.sk,scalBin,scalUn,intBin,opLoad,natOf,opConvert,opField,cellsP,oneP,Value.oneCell',opStore,toIV,scalT,scalA,scalC,boxesA,boxesC,zipB_none,zipB_mx,isZ,opZip,zeroP,opAppendZ,opMakeMap,opLookup,mboxB,opUpdate,↓reduceIte,Nat.reduceSub,Nat.reduceEqDiff,Nat.reduceAdd,Nat.reduceMul,Nat.reduceLT,Nat.reduceLeDiff,Int.reduceToNat,Int.reduceLE,Int.reduceLT,Int.reduceNeg,reduceCtorEq,zzR,gos,Int.reduceAdd,Int.reduceSub,Int.reduceMul,Int.reduceEq,hb,g,hq,c,List.length_map,SK.len])
def badC (u:List Int):List Int → Nat → Int
  | [],_ => -1
  | a::l,k => if u.getD a.toNat 0=0 then badC u l (k + 1) else k
theorem badC_iff (u:List Int):∀ (l:List Int) (k:Nat),¬ 0 ≤ badC u l k ↔ ∀ a ∈ l,u.getD a.toNat 0=0
  | [],k => by simp [badC]
  | a::l,k => by
    rw [badC]
    by_cases h:u.getD a.toNat 0=0
    · rw [if_pos h,badC_iff u l (k + 1),List.forall_mem_cons]; exact ⟨fun h' => ⟨h,h'⟩,fun h' => h'.2⟩
    · rw [if_neg h]
      have hk:(0:Int) ≤ (k:Int):=by omega
      exact ⟨fun h' => absurd hk h',fun h' => absurd (h' a (by simp)) h⟩
theorem indexC_walk {b base:Name} {h:Heap} {u l:List Int} (hl:l.length ≤ maxLen) (hb:h b=some (.var [lu u])) (hq:∀ a ∈ l,0 ≤ a ∧ a < u.length) :
    CallR Try.prog base 137 [li l,.clo 123 [.ref b 0 1]] h (i64 (badC u l 0)) h:=by
  rw [mx_len] at hl
  refine X_startR (n:=19) (m:=2) (rs:=[.tmp 4]) Try.func137 rfl rfl rfl rfl (by decide) ?_
  repeat (first|refine X_opc rfl ?_|refine X_dopc rfl ?_|refine ⟨(by show drawK _ _=true; kernel_rfl:drawX _ _ _),?_⟩|exact (by show drawK _ _=true; kernel_rfl:drawX _ _ _)|simp -dsimp (maxSteps:=20000000) (disch:=omega) only [simx,zzC,zzB,tys,ite_self,opnL,callB,callX,readsB,stepOp,nilCmp,ofVal,opBuiltin,opLen,PV.sk,scalBin,scalUn,intBin,opLoad,natOf,opConvert,opField,cellsP,oneP,Value.oneCell',opStore,toIV,scalT,scalA,scalC,boxesA,boxesC,zipB_none,zipB_mx,isZ,opZip,zeroP,opAppendZ,opMakeMap,opLookup,mboxB,opUpdate,↓reduceIte,Nat.reduceSub,Nat.reduceEqDiff,Nat.reduceAdd,Nat.reduceMul,Nat.reduceLT,Nat.reduceLeDiff,Int.reduceToNat,Int.reduceLE,Int.reduceLT,Int.reduceNeg,reduceCtorEq,gos,Int.reduceAdd,Int.reduceSub,Int.reduceMul,Int.reduceEq])
  refine X_loopH [0,1,7,8] [] (0) (l.length) (fun j => badC u (l.drop j) j=badC u l 0) (fun j => [(8,i64 j)]) (fun j => h) ?_ ?_ ?_ ?_ ?_ (by decide) ?_
  · exact (fgt_nil)
  · ((simp -dsimp (disch:=omega) only [simx,zzB,tys,ite_self,opnL,callB,callX,readsB,stepOp,nilCmp,ofVal,opBuiltin,opLen,PV.sk,scalBin,scalUn,intBin,opLoad,natOf,opConvert,opField,cellsP,oneP,Value.oneCell',opStore,toIV,scalT,scalA,scalC,boxesA,boxesC,zipB_none,zipB_mx,isZ,opZip,zeroP,opAppendZ,opMakeMap,opLookup,mboxB,opUpdate,↓reduceIte,Nat.reduceSub,Nat.reduceEqDiff,Nat.reduceAdd,Nat.reduceMul,Nat.reduceLT,Nat.reduceLeDiff,Int.reduceToNat,Int.reduceLE,Int.reduceLT,Int.reduceNeg,reduceCtorEq,gos,Int.reduceAdd,Int.reduceSub,Int.reduceMul,Int.reduceEq]) <;> first|rfl|simp)
  · exact drop_nil _
  · omega
  · rfl
  · intro j hj hf
    by_cases c:j < l.length
    · have g1:l[j]?=some l[j]:=List.getElem?_eq_getElem c
      obtain ⟨h0,h1⟩:=hq l[j] (List.getElem_mem c)
      rw [drop13 c,badC] at hf
      obtain ⟨q,hqe⟩:∃ q:Nat,l[j]=q:=⟨(l[j]).toNat,by omega⟩
      rw [hqe] at g1 hf h1
      rw [Int.toNat_natCast] at hf
      have q2:q < u.length:=by omega
      repeat (first|refine X_opc rfl ?_|refine X_dopc rfl ?_|refine ⟨(by show drawK _ _=true; kernel_rfl:drawX _ _ _),?_⟩|exact (by show drawK _ _=true; kernel_rfl:drawX _ _ _)|simp -dsimp (maxSteps:=20000000) (disch:=omega) only [simx,zzC,zzB,tys,ite_self,opnL,callB,callX,readsB,stepOp,nilCmp,ofVal,opBuiltin,opLen,PV.sk,scalBin,scalUn,intBin,opLoad,natOf,opConvert,opField,cellsP,oneP,Value.oneCell',opStore,toIV,scalT,scalA,scalC,boxesA,boxesC,zipB_none,zipB_mx,isZ,opZip,zeroP,opAppendZ,opMakeMap,opLookup,mboxB,opUpdate,↓reduceIte,Nat.reduceSub,Nat.reduceEqDiff,Nat.reduceAdd,Nat.reduceMul,Nat.reduceLT,Nat.reduceLeDiff,Int.reduceToNat,Int.reduceLE,Int.reduceLT,Int.reduceNeg,reduceCtorEq,gos,Int.reduceAdd,Int.reduceSub,Int.reduceMul,Int.reduceEq,c,g1])
      refine X_call_shared (rest2_walk (q:=q) hb q2) rfl (by simp -dsimp only [calleeOf,simx,zzB,tys,ite_self,opnL,callB,callX,readsB,stepOp,nilCmp,ofVal,opBuiltin,opLen,PV.sk,scalBin,scalUn,intBin,opLoad,natOf,opConvert,opField,cellsP,oneP,Value.oneCell',opStore,toIV,scalT,scalA,scalC,boxesA,boxesC,zipB_none,zipB_mx,isZ,opZip,zeroP,opAppendZ,opMakeMap,opLookup,mboxB,opUpdate,↓reduceIte,Nat.reduceSub,Nat.reduceEqDiff,Nat.reduceAdd,Nat.reduceMul,Nat.reduceLT,Nat.reduceLeDiff,Int.reduceToNat,Int.reduceLE,Int.reduceLT,Int.reduceNeg,reduceCtorEq,gos,Int.reduceAdd,Int.reduceSub,Int.reduceMul,Int.reduceEq]) (by simp only [tys]) ?_
      generalize u.getD q 0=x at hf ⊢
      by_cases e:x=0
      · rw [if_pos e] at hf
        rw [decide_eq_true e]
        repeat (first|refine X_opc rfl ?_|refine X_dopc rfl ?_|refine ⟨(by show drawK _ _=true; kernel_rfl:drawX _ _ _),?_⟩|exact (by show drawK _ _=true; kernel_rfl:drawX _ _ _)|simp -dsimp (maxSteps:=20000000) (disch:=omega) only [simx,zzC,zzB,tys,ite_self,opnL,callB,callX,readsB,stepOp,nilCmp,ofVal,opBuiltin,opLen,PV.sk,scalBin,scalUn,intBin,opLoad,natOf,opConvert,opField,cellsP,oneP,Value.oneCell',opStore,toIV,scalT,scalA,scalC,boxesA,boxesC,zipB_none,zipB_mx,isZ,opZip,zeroP,opAppendZ,opMakeMap,opLookup,mboxB,opUpdate,↓reduceIte,Nat.reduceSub,Nat.reduceEqDiff,Nat.reduceAdd,Nat.reduceMul,Nat.reduceLT,Nat.reduceLeDiff,Int.reduceToNat,Int.reduceLE,Int.reduceLT,Int.reduceNeg,reduceCtorEq,gos,Int.reduceAdd,Int.reduceSub,Int.reduceMul,Int.reduceEq])
        exact ⟨c,(fgt_nil),hf,rfl,drop_nil _⟩
      · rw [if_neg e] at hf
        rw [decide_eq_false e,← show (j:Int)=badC u l 0 from hf]
        repeat (first|refine X_opc rfl ?_|refine X_dopc rfl ?_|refine ⟨(by show drawK _ _=true; kernel_rfl:drawX _ _ _),?_⟩|exact (by show drawK _ _=true; kernel_rfl:drawX _ _ _)|simp -dsimp (maxSteps:=20000000) (disch:=omega) only [simx,zzC,zzB,tys,ite_self,opnL,callB,callX,readsB,stepOp,nilCmp,ofVal,opBuiltin,opLen,PV.sk,scalBin,scalUn,intBin,opLoad,natOf,opConvert,opField,cellsP,oneP,Value.oneCell',opStore,toIV,scalT,scalA,scalC,boxesA,boxesC,zipB_none,zipB_mx,isZ,opZip,zeroP,opAppendZ,opMakeMap,opLookup,mboxB,opUpdate,↓reduceIte,Nat.reduceSub,Nat.reduceEqDiff,Nat.reduceAdd,Nat.reduceMul,Nat.reduceLT,Nat.reduceLeDiff,Int.reduceToNat,Int.reduceLE,Int.reduceLT,Int.reduceNeg,reduceCtorEq,zzR,gos,Int.reduceAdd,Int.reduceSub,Int.reduceMul,Int.reduceEq])
    · have hj:j=l.length:=by omega
      subst hj
      rw [List.drop_length,badC] at hf
      rw [← hf]
      repeat (first|refine X_opc rfl ?_|refine X_dopc rfl ?_|refine ⟨(by show drawK _ _=true; kernel_rfl:drawX _ _ _),?_⟩|exact (by show drawK _ _=true; kernel_rfl:drawX _ _ _)|simp -dsimp (maxSteps:=20000000) (disch:=omega) only [simx,zzC,zzB,tys,ite_self,opnL,callB,callX,readsB,stepOp,nilCmp,ofVal,opBuiltin,opLen,PV.sk,scalBin,scalUn,intBin,opLoad,natOf,opConvert,opField,cellsP,oneP,Value.oneCell',opStore,toIV,scalT,scalA,scalC,boxesA,boxesC,zipB_none,zipB_mx,isZ,opZip,zeroP,opAppendZ,opMakeMap,opLookup,mboxB,opUpdate,↓reduceIte,Nat.reduceSub,Nat.reduceEqDiff,Nat.reduceAdd,Nat.reduceMul,Nat.reduceLT,Nat.reduceLeDiff,Int.reduceToNat,Int.reduceLE,Int.reduceLT,Int.reduceNeg,reduceCtorEq,zzR,gos,Int.reduceAdd,Int.reduceSub,Int.reduceMul,Int.reduceEq])
theorem containsC_walk {b base:Name} {h:Heap} {u l:List Int} (hl:l.length ≤ maxLen) (hb:h b=some (.var [lu u])) (hq:∀ a ∈ l,0 ≤ a ∧ a < u.length) :
    CallR Try.prog base 122 [li l,.clo 123 [.ref b 0 1]] h (bl (decide (0 ≤ badC u l 0))) h:=by
  have q:=fun bs => indexC_walk (base:=bs) hl hb hq
  generalize badC u l 0=i at q
  by_cases c:0 ≤ i
  · rw [decide_eq_true c]
    refine X_startR (n:=9) (m:=2) (rs:=[.tmp 4]) Try.func122 rfl rfl rfl rfl (by decide) ?_
    repeat (first|refine X_opc rfl ?_|refine X_dopc rfl ?_|refine ⟨(by show drawK _ _=true; kernel_rfl:drawX _ _ _),?_⟩|exact (by show drawK _ _=true; kernel_rfl:drawX _ _ _)|simp -dsimp (maxSteps:=20000000) (disch:=omega) only [simx,zzC,zzB,tys,ite_self,opnL,callB,callX,readsB,stepOp,nilCmp,ofVal,opBuiltin,opLen,PV.sk,scalBin,scalUn,intBin,opLoad,natOf,opConvert,opField,cellsP,oneP,Value.oneCell',opStore,toIV,scalT,scalA,scalC,boxesA,boxesC,zipB_none,zipB_mx,isZ,opZip,zeroP,opAppendZ,opMakeMap,opLookup,mboxB,opUpdate,↓reduceIte,Nat.reduceSub,Nat.reduceEqDiff,Nat.reduceAdd,Nat.reduceMul,Nat.reduceLT,Nat.reduceLeDiff,Int.reduceToNat,Int.reduceLE,Int.reduceLT,Int.reduceNeg,reduceCtorEq,gos,Int.reduceAdd,Int.reduceSub,Int.reduceMul,Int.reduceEq])
    refine X_call_shared (q _) rfl (by simp -dsimp only [callee_fn,simx,zzB,tys,ite_self,opnL,callB,callX,readsB,stepOp,nilCmp,ofVal,opBuiltin,opLen,PV.sk,scalBin,scalUn,intBin,opLoad,natOf,opConvert,opField,cellsP,oneP,Value.oneCell',opStore,toIV,scalT,scalA,scalC,boxesA,boxesC,zipB_none,zipB_mx,isZ,opZip,zeroP,opAppendZ,opMakeMap,opLookup,mboxB,opUpdate,↓reduceIte,Nat.reduceSub,Nat.reduceEqDiff,Nat.reduceAdd,Nat.reduceMul,Nat.reduceLT,Nat.reduceLeDiff,Int.reduceToNat,Int.reduceLE,Int.reduceLT,Int.reduceNeg,reduceCtorEq,gos,Int.reduceAdd,Int.reduceSub,Int.reduceMul,Int.reduceEq]) (by simp only [tys]) ?_
    repeat (first|refine X_opc rfl ?_|refine X_dopc rfl ?_|refine ⟨(by show drawK _ _=true; kernel_rfl:drawX _ _ _),?_⟩|exact (by show drawK _ _=true; kernel_rfl:drawX _ _ _)|simp -dsimp (maxSteps:=20000000) (disch:=omega) only [simx,zzC,zzB,tys,ite_self,opnL,callB,callX,readsB,stepOp,nilCmp,ofVal,opBuiltin,opLen,PV.sk,scalBin,scalUn,intBin,opLoad,natOf,opConvert,opField,cellsP,oneP,Value.oneCell',opStore,toIV,scalT,scalA,scalC,boxesA,boxesC,zipB_none,zipB_mx,isZ,opZip,zeroP,opAppendZ,opMakeMap,opLookup,mboxB,opUpdate,↓reduceIte,Nat.reduceSub,Nat.reduceEqDiff,Nat.reduceAdd,Nat.reduceMul,Nat.reduceLT,Nat.reduceLeDiff,Int.reduceToNat,Int.reduceLE,Int.reduceLT,Int.reduceNeg,reduceCtorEq,zzR,gos,Int.reduceAdd,Int.reduceSub,Int.reduceMul,Int.reduceEq])
  · rw [decide_eq_false c]
    refine X_startR (n:=9) (m:=2) (rs:=[.tmp 4]) Try.func122 rfl rfl rfl rfl (by decide) ?_
    repeat (first|refine X_opc rfl ?_|refine X_dopc rfl ?_|refine ⟨(by show drawK _ _=true; kernel_rfl:drawX _ _ _),?_⟩|exact (by show drawK _ _=true; kernel_rfl:drawX _ _ _)|simp -dsimp (maxSteps:=20000000) (disch:=omega) only [simx,zzC,zzB,tys,ite_self,opnL,callB,callX,readsB,stepOp,nilCmp,ofVal,opBuiltin,opLen,PV.sk,scalBin,scalUn,intBin,opLoad,natOf,opConvert,opField,cellsP,oneP,Value.oneCell',opStore,toIV,scalT,scalA,scalC,boxesA,boxesC,zipB_none,zipB_mx,isZ,opZip,zeroP,opAppendZ,opMakeMap,opLookup,mboxB,opUpdate,↓reduceIte,Nat.reduceSub,Nat.reduceEqDiff,Nat.reduceAdd,Nat.reduceMul,Nat.reduceLT,Nat.reduceLeDiff,Int.reduceToNat,Int.reduceLE,Int.reduceLT,Int.reduceNeg,reduceCtorEq,gos,Int.reduceAdd,Int.reduceSub,Int.reduceMul,Int.reduceEq])
    refine X_call_shared (q _) rfl (by simp -dsimp only [callee_fn,simx,zzB,tys,ite_self,opnL,callB,callX,readsB,stepOp,nilCmp,ofVal,opBuiltin,opLen,PV.sk,scalBin,scalUn,intBin,opLoad,natOf,opConvert,opField,cellsP,oneP,Value.oneCell',opStore,toIV,scalT,scalA,scalC,boxesA,boxesC,zipB_none,zipB_mx,isZ,opZip,zeroP,opAppendZ,opMakeMap,opLookup,mboxB,opUpdate,↓reduceIte,Nat.reduceSub,Nat.reduceEqDiff,Nat.reduceAdd,Nat.reduceMul,Nat.reduceLT,Nat.reduceLeDiff,Int.reduceToNat,Int.reduceLE,Int.reduceLT,Int.reduceNeg,reduceCtorEq,gos,Int.reduceAdd,Int.reduceSub,Int.reduceMul,Int.reduceEq]) (by simp only [tys]) ?_
    repeat (first|refine X_opc rfl ?_|refine X_dopc rfl ?_|refine ⟨(by show drawK _ _=true; kernel_rfl:drawX _ _ _),?_⟩|exact (by show drawK _ _=true; kernel_rfl:drawX _ _ _)|simp -dsimp (maxSteps:=20000000) (disch:=omega) only [simx,zzC,zzB,tys,ite_self,opnL,callB,callX,readsB,stepOp,nilCmp,ofVal,opBuiltin,opLen,PV.sk,scalBin,scalUn,intBin,opLoad,natOf,opConvert,opField,cellsP,oneP,Value.oneCell',opStore,toIV,scalT,scalA,scalC,boxesA,boxesC,zipB_none,zipB_mx,isZ,opZip,zeroP,opAppendZ,opMakeMap,opLookup,mboxB,opUpdate,↓reduceIte,Nat.reduceSub,Nat.reduceEqDiff,Nat.reduceAdd,Nat.reduceMul,Nat.reduceLT,Nat.reduceLeDiff,Int.reduceToNat,Int.reduceLE,Int.reduceLT,Int.reduceNeg,reduceCtorEq,zzR,gos,Int.reduceAdd,Int.reduceSub,Int.reduceMul,Int.reduceEq])
def restB (u cols:List Int) (k q:Nat):Bool:=zerB (u.take q) && (!decide (0 ≤ badC u (cols.take k) 0) && !decide (u.getD q 0=0))
theorem rest_walk {rw0 cw:List Int} {cc uu:List (List Int)} {k q:Nat} {u:List Int} (h1:uu[k]?=some u) (h2:cw[k]?=some (q:Int)) (hu:u.length ≤ 64) (hq:q < u.length) (hk:k ≤ 64) (hc:∀ a ∈ cw.take k,0 ≤ a ∧ a < u.length) :
    CallsP Try.prog 87 [cupQ (rw0,cw,cc,uu),i64 k] (bl (restB u cw k q)):=by
  have g1:(uu.map fun u => IV.l u.length (u.map iu))[k]?=some (.l u.length (u.map iu)):=by rw [List.getElem?_map,h1]; rfl
  have g2:(cw.map ii)[k]?=some (ii (q:Int)):=by rw [List.getElem?_map,h2]; rfl
  have g3:(u.map iu)[q]?=some (iu (u.getD q 0)):=by rw [List.getElem?_map,getD_some rfl hq]; rfl
  have k1:k < uu.length:=by
    rcases Nat.lt_or_ge k uu.length with h|h
    · exact h
    · rw [List.getElem?_eq_none h] at h1; cases h1
  have k2:k < cw.length:=by
    rcases Nat.lt_or_ge k cw.length with h|h
    · exact h
    · rw [List.getElem?_eq_none h] at h2; cases h2
  have e1:(u.map iu).take q=(u.take q).map iu:=List.map_take.symm
  have e2:(cw.map ii).take k=(cw.take k).map ii:=List.map_take.symm
  have l1:(u.take q).length=q:=by rw [List.length_take]; omega
  have l2:(cw.take k).length=k:=by rw [List.length_take]; omega
  have q1:=containsR_walk (l:=u.take q) (by rw [mx_len]; omega)
  rw [show lu (u.take q)=.i (.l q ((u.take q).map iu)) by rw [lu,l1]] at q1
  have q2:=fun (base:Name) (h:Heap) (b:Name) (hb:h b=some (.var [lu u])) => containsC_walk (base:=base) (l:=cw.take k) (u:=u) (by rw [mx_len]; omega) hb hc
  rw [show li (cw.take k)=.i (.l k ((cw.take k).map ii)) by rw [li,l2]] at q2
  have kq1:k ≤ cw.length:=by omega
  have kq2:q ≤ u.length:=by omega
  unfold restB
  generalize zerB (u.take q)=z at q1 ⊢
  generalize decide (0 ≤ badC u (cw.take k) 0)=o at q2 ⊢
  generalize u.getD q 0=x at g3 ⊢
  have hx:∀ y:Bool,y=decide (x=0) → (x=0 ∧ y=true) ∨ (¬ x=0 ∧ y=false):=fun y hy => by
    by_cases h:x=0
    · exact .inl ⟨h,by rw [hy,decide_eq_true h]⟩
    · exact .inr ⟨h,by rw [hy,decide_eq_false h]⟩
  rcases hx _ rfl with ⟨hx0,hx1⟩|⟨hx0,hx1⟩ <;> rw [hx1] <;> clear hx hx1 <;> cases z <;> cases o <;> (
    refine X_startP (n:=42) (m:=2) (rs:=[.tmp 4]) Try.func87 rfl rfl rfl rfl (by decide) fun base => ?_
    repeat (first|((first|refine X_call_fn2 rfl (by simp only [tys]) ?_|refine X_dcall_fn2 rfl (by simp only [tys]) ?_); apply Exists.intro; apply And.intro; (focus (simp -dsimp only [simx,zzC,zzB,tys,ite_self,opnL,callB,callX,readsB,stepOp,nilCmp,ofVal,opBuiltin,opLen,PV.sk,scalBin,scalUn,intBin,opLoad,natOf,opConvert,opField,cellsP,oneP,Value.oneCell',opStore,toIV,scalT,scalA,scalC,boxesA,boxesC,zipB_none,zipB_mx,isZ,opZip,zeroP,opAppendZ,opMakeMap,opLookup,mboxB,opUpdate,↓reduceIte,Nat.reduceSub,Nat.reduceEqDiff,Nat.reduceAdd,Nat.reduceMul,Nat.reduceLT,Nat.reduceLeDiff,Int.reduceToNat,Int.reduceLE,Int.reduceLT,Int.reduceNeg,reduceCtorEq,zzL,if_true,if_false,e1,e2] <;> rfl)); apply Exists.intro; apply And.intro; (focus (first|exact q1)))|refine X_opc rfl ?_|refine X_dopc rfl ?_|refine ⟨(by show drawK _ _=true; kernel_rfl:drawX _ _ _),?_⟩|exact (by show drawK _ _=true; kernel_rfl:drawX _ _ _)|simp -dsimp (maxSteps:=20000000) (disch:=omega) only [simx,zzC,zzB,tys,ite_self,opnL,callB,callX,readsB,stepOp,nilCmp,ofVal,opBuiltin,opLen,PV.sk,scalBin,scalUn,intBin,opLoad,natOf,opConvert,opField,cellsP,oneP,Value.oneCell',opStore,toIV,scalT,scalA,scalC,boxesA,boxesC,zipB_none,zipB_mx,isZ,opZip,zeroP,opAppendZ,opMakeMap,opLookup,mboxB,opUpdate,↓reduceIte,Nat.reduceSub,Nat.reduceEqDiff,Nat.reduceAdd,Nat.reduceMul,Nat.reduceLT,Nat.reduceLeDiff,Int.reduceToNat,Int.reduceLE,Int.reduceLT,Int.reduceNeg,reduceCtorEq,gos,Int.reduceAdd,Int.reduceSub,Int.reduceMul,Int.reduceEq,g1,g2,e1,e2,k1,k2,kq1,kq2,Nat.zero_le,Nat.sub_zero,List.length_map])
    refine X_call_shared (q2 _ _ ((1,10)::base) (by simp [Heap.put_at])) rfl (by simp -dsimp only [callee_fn,simx,zzB,tys,ite_self,opnL,callB,callX,readsB,stepOp,nilCmp,ofVal,opBuiltin,opLen,PV.sk,scalBin,scalUn,intBin,opLoad,natOf,opConvert,opField,cellsP,oneP,Value.oneCell',opStore,toIV,scalT,scalA,scalC,boxesA,boxesC,zipB_none,zipB_mx,isZ,opZip,zeroP,opAppendZ,opMakeMap,opLookup,mboxB,opUpdate,↓reduceIte,Nat.reduceSub,Nat.reduceEqDiff,Nat.reduceAdd,Nat.reduceMul,Nat.reduceLT,Nat.reduceLeDiff,Int.reduceToNat,Int.reduceLE,Int.reduceLT,Int.reduceNeg,reduceCtorEq,gos,Int.reduceAdd,Int.reduceSub,Int.reduceMul,Int.reduceEq]) (by simp only [tys]) ?_
    repeat (first|refine X_opc rfl ?_|refine X_dopc rfl ?_|refine ⟨(by show drawK _ _=true; kernel_rfl:drawX _ _ _),?_⟩|exact (by show drawK _ _=true; kernel_rfl:drawX _ _ _)|simp -dsimp (maxSteps:=20000000) (disch:=omega) only [simx,zzC,zzB,tys,ite_self,opnL,callB,callX,readsB,stepOp,nilCmp,ofVal,opBuiltin,opLen,PV.sk,scalBin,scalUn,intBin,opLoad,natOf,opConvert,opField,cellsP,oneP,Value.oneCell',opStore,toIV,scalT,scalA,scalC,boxesA,boxesC,zipB_none,zipB_mx,isZ,opZip,zeroP,opAppendZ,opMakeMap,opLookup,mboxB,opUpdate,↓reduceIte,Nat.reduceSub,Nat.reduceEqDiff,Nat.reduceAdd,Nat.reduceMul,Nat.reduceLT,Nat.reduceLeDiff,Int.reduceToNat,Int.reduceLE,Int.reduceLT,Int.reduceNeg,reduceCtorEq,zzR,gos,Int.reduceAdd,Int.reduceSub,Int.reduceMul,Int.reduceEq,g3,hq,hx0,List.length_map,SK.len])
    try rfl)
end Go.Proofs.Ytmalpmnmknpphaa.TM
