/- What is proved of functions, and plain facts, part 5. Conditions: none. -/
import Derived.Test.YtmalpmnmknpphaaSShapeOne4
set_option linter.defProp false
set_option linter.unusedSectionVars false
set_option linter.unusedSimpArgs false
set_option linter.unusedVariables false
namespace Go.Proofs.Ytmalpmnmknpphaa.TM
open Go Go.RowKit
attribute [local irreducible] K W WOps Effs Xg Xo Xr Xdg Xdo Xdr Xif CallsP CallR
def dotR (p:Int) (a b:List Int):Int × Int:=if HasB p a && (HasB p b && decide (a.length=b.length)) then (dotI a b % p,0) else (0,1)
set_option maxRecDepth 10000 in
theorem dot_walk (p:Int) (a b:List Int) (ha:a.length ≤ maxLen) (hb:b.length ≤ maxLen) (wa:W64s a) (wb:W64s b):CallsP Try.prog 75 [u64 p,lu a,lu b] (.tup [u64 (dotR p a b).1,i64 (dotR p a b).2]):=by
  have r1:=has_walk p a ha
  have r2:=has_walk p b hb
  rw [mx_len] at ha hb
  unfold dotR
  cases h1:HasB p a with
  | false =>
    rw [h1] at r1
    refine X_startP (n:=47) (m:=3) (rs:=[.tmp 6,.tmp 7]) Try.func75 rfl rfl rfl rfl (by decide) fun base => ?_
    repeat (first|((first|refine X_call_fn2 rfl (by simp only [tys]) ?_|refine X_dcall_fn2 rfl (by simp only [tys]) ?_); apply Exists.intro; apply And.intro; (focus (simp -dsimp only [simx,zzC,zzB,tys,ite_self,opnL,callB,callX,readsB,stepOp,nilCmp,ofVal,opBuiltin,opLen,PV.sk,scalBin,scalUn,intBin,opLoad,natOf,opConvert,opField,cellsP,oneP,Value.oneCell',opStore,toIV,scalT,scalA,scalC,boxesA,boxesC,zipB_none,zipB_mx,isZ,opZip,zeroP,opAppendZ,opMakeMap,opLookup,mboxB,opUpdate,↓reduceIte,Nat.reduceSub,Nat.reduceEqDiff,Nat.reduceAdd,Nat.reduceMul,Nat.reduceLT,Nat.reduceLeDiff,Int.reduceToNat,Int.reduceLE,Int.reduceLT,Int.reduceNeg,reduceCtorEq,zzL,if_true,if_false] <;> rfl)); apply Exists.intro; apply And.intro; (focus (first|exact r1)))|refine X_opc rfl ?_|refine X_dopc rfl ?_|refine ⟨(by show drawK _ _=true; kernel_rfl:drawX _ _ _),?_⟩|exact (by show drawK _ _=true; kernel_rfl:drawX _ _ _)|simp -dsimp (maxSteps:=20000000) (disch:=omega) only [simx,zzC,zzB,tys,ite_self,opnL,callB,callX,readsB,stepOp,nilCmp,ofVal,opBuiltin,opLen,PV.sk,scalBin,scalUn,intBin,opLoad,natOf,opConvert,opField,cellsP,oneP,Value.oneCell',opStore,toIV,scalT,scalA,scalC,boxesA,boxesC,zipB_none,zipB_mx,isZ,opZip,zeroP,opAppendZ,opMakeMap,opLookup,mboxB,opUpdate,↓reduceIte,Nat.reduceSub,Nat.reduceEqDiff,Nat.reduceAdd,Nat.reduceMul,Nat.reduceLT,Nat.reduceLeDiff,Int.reduceToNat,Int.reduceLE,Int.reduceLT,Int.reduceNeg,reduceCtorEq,zzR,gos,Int.reduceAdd,Int.reduceSub,Int.reduceMul,Int.reduceEq])
  | true =>
    cases h2:HasB p b with
    | false =>
      rw [h1] at r1
      rw [h2] at r2
      refine X_startP (n:=47) (m:=3) (rs:=[.tmp 6,.tmp 7]) Try.func75 rfl rfl rfl rfl (by decide) fun base => ?_
      repeat (first|((first|refine X_call_fn2 rfl (by simp only [tys]) ?_|refine X_dcall_fn2 rfl (by simp only [tys]) ?_); apply Exists.intro; apply And.intro; (focus (simp -dsimp only [simx,zzC,zzB,tys,ite_self,opnL,callB,callX,readsB,stepOp,nilCmp,ofVal,opBuiltin,opLen,PV.sk,scalBin,scalUn,intBin,opLoad,natOf,opConvert,opField,cellsP,oneP,Value.oneCell',opStore,toIV,scalT,scalA,scalC,boxesA,boxesC,zipB_none,zipB_mx,isZ,opZip,zeroP,opAppendZ,opMakeMap,opLookup,mboxB,opUpdate,↓reduceIte,Nat.reduceSub,Nat.reduceEqDiff,Nat.reduceAdd,Nat.reduceMul,Nat.reduceLT,Nat.reduceLeDiff,Int.reduceToNat,Int.reduceLE,Int.reduceLT,Int.reduceNeg,reduceCtorEq,zzL,if_true,if_false] <;> rfl)); apply Exists.intro; apply And.intro; (focus (first|exact r1|exact r2)))|refine X_opc rfl ?_|refine X_dopc rfl ?_|refine ⟨(by show drawK _ _=true; kernel_rfl:drawX _ _ _),?_⟩|exact (by show drawK _ _=true; kernel_rfl:drawX _ _ _)|simp -dsimp (maxSteps:=20000000) (disch:=omega) only [simx,zzC,zzB,tys,ite_self,opnL,callB,callX,readsB,stepOp,nilCmp,ofVal,opBuiltin,opLen,PV.sk,scalBin,scalUn,intBin,opLoad,natOf,opConvert,opField,cellsP,oneP,Value.oneCell',opStore,toIV,scalT,scalA,scalC,boxesA,boxesC,zipB_none,zipB_mx,isZ,opZip,zeroP,opAppendZ,opMakeMap,opLookup,mboxB,opUpdate,↓reduceIte,Nat.reduceSub,Nat.reduceEqDiff,Nat.reduceAdd,Nat.reduceMul,Nat.reduceLT,Nat.reduceLeDiff,Int.reduceToNat,Int.reduceLE,Int.reduceLT,Int.reduceNeg,reduceCtorEq,zzR,gos,Int.reduceAdd,Int.reduceSub,Int.reduceMul,Int.reduceEq])
    | true =>
      rw [h1] at r1
      rw [h2] at r2
      by_cases c0:a.length=b.length
      · rw [has_iff] at h1 h2
        obtain ⟨a1,p1,p2⟩:=h1
        have b1:=h2.1
        clear h2
        simp only [c0,decide_true,Bool.and_self,if_true]
        have c0':(a.length:Int)=(b.length:Int):=by omega
        have hp:Md p:=⟨p1,p2⟩
        refine X_startP (n:=47) (m:=3) (rs:=[.tmp 6,.tmp 7]) Try.func75 rfl rfl rfl rfl (by decide) fun base => ?_
        repeat (first|((first|refine X_call_fn2 rfl (by simp only [tys]) ?_|refine X_dcall_fn2 rfl (by simp only [tys]) ?_); apply Exists.intro; apply And.intro; (focus (simp -dsimp only [simx,zzC,zzB,tys,ite_self,opnL,callB,callX,readsB,stepOp,nilCmp,ofVal,opBuiltin,opLen,PV.sk,scalBin,scalUn,intBin,opLoad,natOf,opConvert,opField,cellsP,oneP,Value.oneCell',opStore,toIV,scalT,scalA,scalC,boxesA,boxesC,zipB_none,zipB_mx,isZ,opZip,zeroP,opAppendZ,opMakeMap,opLookup,mboxB,opUpdate,↓reduceIte,Nat.reduceSub,Nat.reduceEqDiff,Nat.reduceAdd,Nat.reduceMul,Nat.reduceLT,Nat.reduceLeDiff,Int.reduceToNat,Int.reduceLE,Int.reduceLT,Int.reduceNeg,reduceCtorEq,zzL,if_true,if_false] <;> rfl)); apply Exists.intro; apply And.intro; (focus (first|exact r1|exact r2)))|refine X_opc rfl ?_|refine X_dopc rfl ?_|refine ⟨(by show drawK _ _=true; kernel_rfl:drawX _ _ _),?_⟩|exact (by show drawK _ _=true; kernel_rfl:drawX _ _ _)|simp -dsimp (maxSteps:=20000000) (disch:=omega) only [simx,zzC,zzB,tys,ite_self,opnL,callB,callX,readsB,stepOp,nilCmp,ofVal,opBuiltin,opLen,PV.sk,scalBin,scalUn,intBin,opLoad,natOf,opConvert,opField,cellsP,oneP,Value.oneCell',opStore,toIV,scalT,scalA,scalC,boxesA,boxesC,zipB_none,zipB_mx,isZ,opZip,zeroP,opAppendZ,opMakeMap,opLookup,mboxB,opUpdate,↓reduceIte,Nat.reduceSub,Nat.reduceEqDiff,Nat.reduceAdd,Nat.reduceMul,Nat.reduceLT,Nat.reduceLeDiff,Int.reduceToNat,Int.reduceLE,Int.reduceLT,Int.reduceNeg,reduceCtorEq,gos,Int.reduceAdd,Int.reduceSub,Int.reduceMul,Int.reduceEq])
        refine X_loopH [0,2,8,28,29,30] [] (0) (a.length) (fun j => True) (fun j => [(8,u64 (dotI (a.take j) (b.take j) % p)),(30,i64 j)]) (fun j => Heap.none) ?_ ?_ ?_ ?_ ?_ (by decide) ?_
        · exact (fgt_nil)
        · ((simp -dsimp (disch:=omega) only [simx,zzB,tys,ite_self,opnL,callB,callX,readsB,stepOp,nilCmp,ofVal,opBuiltin,opLen,PV.sk,scalBin,scalUn,intBin,opLoad,natOf,opConvert,opField,cellsP,oneP,Value.oneCell',opStore,toIV,scalT,scalA,scalC,boxesA,boxesC,zipB_none,zipB_mx,isZ,opZip,zeroP,opAppendZ,opMakeMap,opLookup,mboxB,opUpdate,↓reduceIte,Nat.reduceSub,Nat.reduceEqDiff,Nat.reduceAdd,Nat.reduceMul,Nat.reduceLT,Nat.reduceLeDiff,Int.reduceToNat,Int.reduceLE,Int.reduceLT,Int.reduceNeg,reduceCtorEq,gos,Int.reduceAdd,Int.reduceSub,Int.reduceMul,Int.reduceEq]) <;> first|rfl|simp [dotI_nil])
        · exact drop_nil _
        · omega
        · trivial
        · intro j hj _
          by_cases c:j < a.length
          · have c':j < b.length:=by omega
            have g1:a[j]?=some a[j]:=List.getElem?_eq_getElem c
            have g2:b[j]?=some b[j]:=List.getElem?_eq_getElem c'
            have i1:=in_of a1 wa (List.getElem_mem c)
            have i2:=in_of b1 wb (List.getElem_mem c')
            have i3:=emod_in (p:=p) (a[j] * b[j]) (by omega)
            have i4:=emod_in (p:=p) (dotI (a.take j) (b.take j)) (by omega)
            have d1:=mul_walk p _ _ hp i1 i2
            have d2:=add_walk p _ _ hp i4 i3
            have e:(dotI (a.take j) (b.take j) % p + a[j] * b[j] % p) % p=dotI (a.take (j + 1)) (b.take (j + 1)) % p:=by rw [dotI_take c c',am_l,am_r]
            rw [e] at d2
            clear i1 i2 i3 i4
            repeat (first|((first|refine X_call_fn2 rfl (by simp only [tys]) ?_|refine X_dcall_fn2 rfl (by simp only [tys]) ?_); apply Exists.intro; apply And.intro; (focus (simp -dsimp only [simx,zzC,zzB,tys,ite_self,opnL,callB,callX,readsB,stepOp,nilCmp,ofVal,opBuiltin,opLen,PV.sk,scalBin,scalUn,intBin,opLoad,natOf,opConvert,opField,cellsP,oneP,Value.oneCell',opStore,toIV,scalT,scalA,scalC,boxesA,boxesC,zipB_none,zipB_mx,isZ,opZip,zeroP,opAppendZ,opMakeMap,opLookup,mboxB,opUpdate,↓reduceIte,Nat.reduceSub,Nat.reduceEqDiff,Nat.reduceAdd,Nat.reduceMul,Nat.reduceLT,Nat.reduceLeDiff,Int.reduceToNat,Int.reduceLE,Int.reduceLT,Int.reduceNeg,reduceCtorEq,zzL,if_true,if_false] <;> rfl)); apply Exists.intro; apply And.intro; (focus (first|exact d1|exact d2)))|refine X_opc rfl ?_|refine X_dopc rfl ?_|refine ⟨(by show drawK _ _=true; kernel_rfl:drawX _ _ _),?_⟩|exact (by show drawK _ _=true; kernel_rfl:drawX _ _ _)|simp -dsimp (maxSteps:=20000000) (disch:=omega) only [simx,zzC,zzB,tys,ite_self,opnL,callB,callX,readsB,stepOp,nilCmp,ofVal,opBuiltin,opLen,PV.sk,scalBin,scalUn,intBin,opLoad,natOf,opConvert,opField,cellsP,oneP,Value.oneCell',opStore,toIV,scalT,scalA,scalC,boxesA,boxesC,zipB_none,zipB_mx,isZ,opZip,zeroP,opAppendZ,opMakeMap,opLookup,mboxB,opUpdate,↓reduceIte,Nat.reduceSub,Nat.reduceEqDiff,Nat.reduceAdd,Nat.reduceMul,Nat.reduceLT,Nat.reduceLeDiff,Int.reduceToNat,Int.reduceLE,Int.reduceLT,Int.reduceNeg,reduceCtorEq,gos,Int.reduceAdd,Int.reduceSub,Int.reduceMul,Int.reduceEq,c,c',g1,g2])
            exact ⟨c,(fgt_nil),rfl,drop_nil _⟩
          · have hj:j=a.length:=by omega
            subst hj
            have e1:a.take b.length=a:=by rw [← c0]; exact List.take_length
            rw [c0]
            repeat (first|refine X_opc rfl ?_|refine X_dopc rfl ?_|refine ⟨(by show drawK _ _=true; kernel_rfl:drawX _ _ _),?_⟩|exact (by show drawK _ _=true; kernel_rfl:drawX _ _ _)|simp -dsimp (maxSteps:=20000000) (disch:=omega) only [simx,zzC,zzB,tys,ite_self,opnL,callB,callX,readsB,stepOp,nilCmp,ofVal,opBuiltin,opLen,PV.sk,scalBin,scalUn,intBin,opLoad,natOf,opConvert,opField,cellsP,oneP,Value.oneCell',opStore,toIV,scalT,scalA,scalC,boxesA,boxesC,zipB_none,zipB_mx,isZ,opZip,zeroP,opAppendZ,opMakeMap,opLookup,mboxB,opUpdate,↓reduceIte,Nat.reduceSub,Nat.reduceEqDiff,Nat.reduceAdd,Nat.reduceMul,Nat.reduceLT,Nat.reduceLeDiff,Int.reduceToNat,Int.reduceLE,Int.reduceLT,Int.reduceNeg,reduceCtorEq,zzR,gos,Int.reduceAdd,Int.reduceSub,Int.reduceMul,Int.reduceEq,List.take_length,e1])
      · have c0':¬ (a.length:Int)=(b.length:Int):=by omega
        refine X_startP (n:=47) (m:=3) (rs:=[.tmp 6,.tmp 7]) Try.func75 rfl rfl rfl rfl (by decide) fun base => ?_
        repeat (first|((first|refine X_call_fn2 rfl (by simp only [tys]) ?_|refine X_dcall_fn2 rfl (by simp only [tys]) ?_); apply Exists.intro; apply And.intro; (focus (simp -dsimp only [simx,zzC,zzB,tys,ite_self,opnL,callB,callX,readsB,stepOp,nilCmp,ofVal,opBuiltin,opLen,PV.sk,scalBin,scalUn,intBin,opLoad,natOf,opConvert,opField,cellsP,oneP,Value.oneCell',opStore,toIV,scalT,scalA,scalC,boxesA,boxesC,zipB_none,zipB_mx,isZ,opZip,zeroP,opAppendZ,opMakeMap,opLookup,mboxB,opUpdate,↓reduceIte,Nat.reduceSub,Nat.reduceEqDiff,Nat.reduceAdd,Nat.reduceMul,Nat.reduceLT,Nat.reduceLeDiff,Int.reduceToNat,Int.reduceLE,Int.reduceLT,Int.reduceNeg,reduceCtorEq,zzL,if_true,if_false] <;> rfl)); apply Exists.intro; apply And.intro; (focus (first|exact r1|exact r2)))|refine X_opc rfl ?_|refine X_dopc rfl ?_|refine ⟨(by show drawK _ _=true; kernel_rfl:drawX _ _ _),?_⟩|exact (by show drawK _ _=true; kernel_rfl:drawX _ _ _)|simp -dsimp (maxSteps:=20000000) (disch:=omega) only [simx,zzC,zzB,tys,ite_self,opnL,callB,callX,readsB,stepOp,nilCmp,ofVal,opBuiltin,opLen,PV.sk,scalBin,scalUn,intBin,opLoad,natOf,opConvert,opField,cellsP,oneP,Value.oneCell',opStore,toIV,scalT,scalA,scalC,boxesA,boxesC,zipB_none,zipB_mx,isZ,opZip,zeroP,opAppendZ,opMakeMap,opLookup,mboxB,opUpdate,↓reduceIte,Nat.reduceSub,Nat.reduceEqDiff,Nat.reduceAdd,Nat.reduceMul,Nat.reduceLT,Nat.reduceLeDiff,Int.reduceToNat,Int.reduceLE,Int.reduceLT,Int.reduceNeg,reduceCtorEq,zzR,gos,Int.reduceAdd,Int.reduceSub,Int.reduceMul,Int.reduceEq,c0])
end Go.Proofs.Ytmalpmnmknpphaa.TM
namespace Go.Proofs.Ytmalpmnmknpphaa.TM
open Go Go.RowKit
attribute [local irreducible] K W WOps Effs Xg Xo Xr Xdg Xdo Xdr Xif CallsP CallR
theorem side_walk (n:Int):CallsP Try.prog 65 [i64 n] (bl (SideB n)):=by
  by_cases c1:1 ≤ n
  · by_cases c2:n ≤ 64
    · rw [show SideB n=true by simp [SideB,c1,c2]]
      refine X_startP (n:=9) (m:=1) (rs:=[.tmp 2]) Try.func65 rfl rfl rfl rfl (by decide) fun base => ?_
      repeat (first|refine X_opc rfl ?_|refine X_dopc rfl ?_|refine ⟨(by show drawK _ _=true; kernel_rfl:drawX _ _ _),?_⟩|exact (by show drawK _ _=true; kernel_rfl:drawX _ _ _)|simp -dsimp (maxSteps:=20000000) (disch:=omega) only [simx,zzC,zzB,tys,ite_self,opnL,callB,callX,readsB,stepOp,nilCmp,ofVal,opBuiltin,opLen,PV.sk,scalBin,scalUn,intBin,opLoad,natOf,opConvert,opField,cellsP,oneP,Value.oneCell',opStore,toIV,scalT,scalA,scalC,boxesA,boxesC,zipB_none,zipB_mx,isZ,opZip,zeroP,opAppendZ,opMakeMap,opLookup,mboxB,opUpdate,↓reduceIte,Nat.reduceSub,Nat.reduceEqDiff,Nat.reduceAdd,Nat.reduceMul,Nat.reduceLT,Nat.reduceLeDiff,Int.reduceToNat,Int.reduceLE,Int.reduceLT,Int.reduceNeg,reduceCtorEq,zzR,gos,Int.reduceAdd,Int.reduceSub,Int.reduceMul,Int.reduceEq])
    · rw [show SideB n=false by simp [SideB,c2]]
      refine X_startP (n:=9) (m:=1) (rs:=[.tmp 2]) Try.func65 rfl rfl rfl rfl (by decide) fun base => ?_
      repeat (first|refine X_opc rfl ?_|refine X_dopc rfl ?_|refine ⟨(by show drawK _ _=true; kernel_rfl:drawX _ _ _),?_⟩|exact (by show drawK _ _=true; kernel_rfl:drawX _ _ _)|simp -dsimp (maxSteps:=20000000) (disch:=omega) only [simx,zzC,zzB,tys,ite_self,opnL,callB,callX,readsB,stepOp,nilCmp,ofVal,opBuiltin,opLen,PV.sk,scalBin,scalUn,intBin,opLoad,natOf,opConvert,opField,cellsP,oneP,Value.oneCell',opStore,toIV,scalT,scalA,scalC,boxesA,boxesC,zipB_none,zipB_mx,isZ,opZip,zeroP,opAppendZ,opMakeMap,opLookup,mboxB,opUpdate,↓reduceIte,Nat.reduceSub,Nat.reduceEqDiff,Nat.reduceAdd,Nat.reduceMul,Nat.reduceLT,Nat.reduceLeDiff,Int.reduceToNat,Int.reduceLE,Int.reduceLT,Int.reduceNeg,reduceCtorEq,zzR,gos,Int.reduceAdd,Int.reduceSub,Int.reduceMul,Int.reduceEq])
  · rw [show SideB n=false by simp [SideB,c1]]
    refine X_startP (n:=9) (m:=1) (rs:=[.tmp 2]) Try.func65 rfl rfl rfl rfl (by decide) fun base => ?_
    repeat (first|refine X_opc rfl ?_|refine X_dopc rfl ?_|refine ⟨(by show drawK _ _=true; kernel_rfl:drawX _ _ _),?_⟩|exact (by show drawK _ _=true; kernel_rfl:drawX _ _ _)|simp -dsimp (maxSteps:=20000000) (disch:=omega) only [simx,zzC,zzB,tys,ite_self,opnL,callB,callX,readsB,stepOp,nilCmp,ofVal,opBuiltin,opLen,PV.sk,scalBin,scalUn,intBin,opLoad,natOf,opConvert,opField,cellsP,oneP,Value.oneCell',opStore,toIV,scalT,scalA,scalC,boxesA,boxesC,zipB_none,zipB_mx,isZ,opZip,zeroP,opAppendZ,opMakeMap,opLookup,mboxB,opUpdate,↓reduceIte,Nat.reduceSub,Nat.reduceEqDiff,Nat.reduceAdd,Nat.reduceMul,Nat.reduceLT,Nat.reduceLeDiff,Int.reduceToNat,Int.reduceLE,Int.reduceLT,Int.reduceNeg,reduceCtorEq,zzR,gos,Int.reduceAdd,Int.reduceSub,Int.reduceMul,Int.reduceEq])
theorem mright_walk (p r c:Int) (l:List Int) (hl:l.length ≤ maxLen):CallsP Try.prog 23 [u64 p,matP r c l] (bl (MatB p r c l)):=by
  have s1:=side_walk r
  have s2:=side_walk c
  have h:=has_walk p l hl
  rw [mx_len] at hl
  unfold MatB
  cases h1:SideB r with
  | false =>
    rw [h1] at s1
    refine X_startP (n:=30) (m:=2) (rs:=[.tmp 4]) Try.func23 rfl rfl rfl rfl (by decide) fun base => ?_
    repeat (first|((first|refine X_call_fn2 rfl (by simp only [tys]) ?_|refine X_dcall_fn2 rfl (by simp only [tys]) ?_); apply Exists.intro; apply And.intro; (focus (simp -dsimp only [simx,zzC,zzB,tys,ite_self,opnL,callB,callX,readsB,stepOp,nilCmp,ofVal,opBuiltin,opLen,PV.sk,scalBin,scalUn,intBin,opLoad,natOf,opConvert,opField,cellsP,oneP,Value.oneCell',opStore,toIV,scalT,scalA,scalC,boxesA,boxesC,zipB_none,zipB_mx,isZ,opZip,zeroP,opAppendZ,opMakeMap,opLookup,mboxB,opUpdate,↓reduceIte,Nat.reduceSub,Nat.reduceEqDiff,Nat.reduceAdd,Nat.reduceMul,Nat.reduceLT,Nat.reduceLeDiff,Int.reduceToNat,Int.reduceLE,Int.reduceLT,Int.reduceNeg,reduceCtorEq,zzL,if_true,if_false] <;> rfl)); apply Exists.intro; apply And.intro; (focus (first|exact s1)))|refine X_opc rfl ?_|refine X_dopc rfl ?_|refine ⟨(by show drawK _ _=true; kernel_rfl:drawX _ _ _),?_⟩|exact (by show drawK _ _=true; kernel_rfl:drawX _ _ _)|simp -dsimp (maxSteps:=20000000) (disch:=omega) only [simx,zzC,zzB,tys,ite_self,opnL,callB,callX,readsB,stepOp,nilCmp,ofVal,opBuiltin,opLen,PV.sk,scalBin,scalUn,intBin,opLoad,natOf,opConvert,opField,cellsP,oneP,Value.oneCell',opStore,toIV,scalT,scalA,scalC,boxesA,boxesC,zipB_none,zipB_mx,isZ,opZip,zeroP,opAppendZ,opMakeMap,opLookup,mboxB,opUpdate,↓reduceIte,Nat.reduceSub,Nat.reduceEqDiff,Nat.reduceAdd,Nat.reduceMul,Nat.reduceLT,Nat.reduceLeDiff,Int.reduceToNat,Int.reduceLE,Int.reduceLT,Int.reduceNeg,reduceCtorEq,zzR,gos,Int.reduceAdd,Int.reduceSub,Int.reduceMul,Int.reduceEq])
  | true =>
    rw [h1] at s1
    cases h2:SideB c with
    | false =>
      rw [h2] at s2
      refine X_startP (n:=30) (m:=2) (rs:=[.tmp 4]) Try.func23 rfl rfl rfl rfl (by decide) fun base => ?_
      repeat (first|((first|refine X_call_fn2 rfl (by simp only [tys]) ?_|refine X_dcall_fn2 rfl (by simp only [tys]) ?_); apply Exists.intro; apply And.intro; (focus (simp -dsimp only [simx,zzC,zzB,tys,ite_self,opnL,callB,callX,readsB,stepOp,nilCmp,ofVal,opBuiltin,opLen,PV.sk,scalBin,scalUn,intBin,opLoad,natOf,opConvert,opField,cellsP,oneP,Value.oneCell',opStore,toIV,scalT,scalA,scalC,boxesA,boxesC,zipB_none,zipB_mx,isZ,opZip,zeroP,opAppendZ,opMakeMap,opLookup,mboxB,opUpdate,↓reduceIte,Nat.reduceSub,Nat.reduceEqDiff,Nat.reduceAdd,Nat.reduceMul,Nat.reduceLT,Nat.reduceLeDiff,Int.reduceToNat,Int.reduceLE,Int.reduceLT,Int.reduceNeg,reduceCtorEq,zzL,if_true,if_false] <;> rfl)); apply Exists.intro; apply And.intro; (focus (first|exact s1|exact s2)))|refine X_opc rfl ?_|refine X_dopc rfl ?_|refine ⟨(by show drawK _ _=true; kernel_rfl:drawX _ _ _),?_⟩|exact (by show drawK _ _=true; kernel_rfl:drawX _ _ _)|simp -dsimp (maxSteps:=20000000) (disch:=omega) only [simx,zzC,zzB,tys,ite_self,opnL,callB,callX,readsB,stepOp,nilCmp,ofVal,opBuiltin,opLen,PV.sk,scalBin,scalUn,intBin,opLoad,natOf,opConvert,opField,cellsP,oneP,Value.oneCell',opStore,toIV,scalT,scalA,scalC,boxesA,boxesC,zipB_none,zipB_mx,isZ,opZip,zeroP,opAppendZ,opMakeMap,opLookup,mboxB,opUpdate,↓reduceIte,Nat.reduceSub,Nat.reduceEqDiff,Nat.reduceAdd,Nat.reduceMul,Nat.reduceLT,Nat.reduceLeDiff,Int.reduceToNat,Int.reduceLE,Int.reduceLT,Int.reduceNeg,reduceCtorEq,zzR,gos,Int.reduceAdd,Int.reduceSub,Int.reduceMul,Int.reduceEq])
    | true =>
      rw [h2] at s2
      rw [side_iff] at h1 h2
      obtain ⟨a1,a2⟩:=h1
      obtain ⟨b1,b2⟩:=h2
      have m:=mul_bd (a:=r) (b:=c) (m:=64) (n:=64) (by omega) (by omega) a2 b2
      have e:IntKind.i64.wrap (r * c)=r * c:=iw_of (by omega) (by omega)
      by_cases h3:(l.length:Int)=r * c
      · rw [decide_eq_true h3]
        refine X_startP (n:=30) (m:=2) (rs:=[.tmp 4]) Try.func23 rfl rfl rfl rfl (by decide) fun base => ?_
        repeat (first|((first|refine X_call_fn2 rfl (by simp only [tys]) ?_|refine X_dcall_fn2 rfl (by simp only [tys]) ?_); apply Exists.intro; apply And.intro; (focus (simp -dsimp only [simx,zzC,zzB,tys,ite_self,opnL,callB,callX,readsB,stepOp,nilCmp,ofVal,opBuiltin,opLen,PV.sk,scalBin,scalUn,intBin,opLoad,natOf,opConvert,opField,cellsP,oneP,Value.oneCell',opStore,toIV,scalT,scalA,scalC,boxesA,boxesC,zipB_none,zipB_mx,isZ,opZip,zeroP,opAppendZ,opMakeMap,opLookup,mboxB,opUpdate,↓reduceIte,Nat.reduceSub,Nat.reduceEqDiff,Nat.reduceAdd,Nat.reduceMul,Nat.reduceLT,Nat.reduceLeDiff,Int.reduceToNat,Int.reduceLE,Int.reduceLT,Int.reduceNeg,reduceCtorEq,zzL,if_true,if_false] <;> rfl)); apply Exists.intro; apply And.intro; (focus (first|exact s1|exact s2|exact h)))|refine X_opc rfl ?_|refine X_dopc rfl ?_|refine ⟨(by show drawK _ _=true; kernel_rfl:drawX _ _ _),?_⟩|exact (by show drawK _ _=true; kernel_rfl:drawX _ _ _)|simp -dsimp (maxSteps:=20000000) (disch:=omega) only [simx,zzC,zzB,tys,ite_self,opnL,callB,callX,readsB,stepOp,nilCmp,ofVal,opBuiltin,opLen,PV.sk,scalBin,scalUn,intBin,opLoad,natOf,opConvert,opField,cellsP,oneP,Value.oneCell',opStore,toIV,scalT,scalA,scalC,boxesA,boxesC,zipB_none,zipB_mx,isZ,opZip,zeroP,opAppendZ,opMakeMap,opLookup,mboxB,opUpdate,↓reduceIte,Nat.reduceSub,Nat.reduceEqDiff,Nat.reduceAdd,Nat.reduceMul,Nat.reduceLT,Nat.reduceLeDiff,Int.reduceToNat,Int.reduceLE,Int.reduceLT,Int.reduceNeg,reduceCtorEq,zzR,gos,Int.reduceAdd,Int.reduceSub,Int.reduceMul,Int.reduceEq,e])
      · rw [decide_eq_false h3]
        refine X_startP (n:=30) (m:=2) (rs:=[.tmp 4]) Try.func23 rfl rfl rfl rfl (by decide) fun base => ?_
        repeat (first|((first|refine X_call_fn2 rfl (by simp only [tys]) ?_|refine X_dcall_fn2 rfl (by simp only [tys]) ?_); apply Exists.intro; apply And.intro; (focus (simp -dsimp only [simx,zzC,zzB,tys,ite_self,opnL,callB,callX,readsB,stepOp,nilCmp,ofVal,opBuiltin,opLen,PV.sk,scalBin,scalUn,intBin,opLoad,natOf,opConvert,opField,cellsP,oneP,Value.oneCell',opStore,toIV,scalT,scalA,scalC,boxesA,boxesC,zipB_none,zipB_mx,isZ,opZip,zeroP,opAppendZ,opMakeMap,opLookup,mboxB,opUpdate,↓reduceIte,Nat.reduceSub,Nat.reduceEqDiff,Nat.reduceAdd,Nat.reduceMul,Nat.reduceLT,Nat.reduceLeDiff,Int.reduceToNat,Int.reduceLE,Int.reduceLT,Int.reduceNeg,reduceCtorEq,zzL,if_true,if_false] <;> rfl)); apply Exists.intro; apply And.intro; (focus (first|exact s1|exact s2|exact h)))|refine X_opc rfl ?_|refine X_dopc rfl ?_|refine ⟨(by show drawK _ _=true; kernel_rfl:drawX _ _ _),?_⟩|exact (by show drawK _ _=true; kernel_rfl:drawX _ _ _)|simp -dsimp (maxSteps:=20000000) (disch:=omega) only [simx,zzC,zzB,tys,ite_self,opnL,callB,callX,readsB,stepOp,nilCmp,ofVal,opBuiltin,opLen,PV.sk,scalBin,scalUn,intBin,opLoad,natOf,opConvert,opField,cellsP,oneP,Value.oneCell',opStore,toIV,scalT,scalA,scalC,boxesA,boxesC,zipB_none,zipB_mx,isZ,opZip,zeroP,opAppendZ,opMakeMap,opLookup,mboxB,opUpdate,↓reduceIte,Nat.reduceSub,Nat.reduceEqDiff,Nat.reduceAdd,Nat.reduceMul,Nat.reduceLT,Nat.reduceLeDiff,Int.reduceToNat,Int.reduceLE,Int.reduceLT,Int.reduceNeg,reduceCtorEq,zzR,gos,Int.reduceAdd,Int.reduceSub,Int.reduceMul,Int.reduceEq,e])
end Go.Proofs.Ytmalpmnmknpphaa.TM
namespace Go.Proofs.Ytmalpmnmknpphaa.TM
open Go Go.RowKit
def tbl (n:Nat) (f:Nat → Int):List Int:=(List.range n).map f
theorem tbl_len (n:Nat) (f:Nat → Int):(tbl n f).length=n:=by simp [tbl]
theorem tbl_get? {n:Nat} (f:Nat → Int) {i:Nat} (h:i < n):(tbl n f)[i]?=some (f i):=by unfold tbl; rw [List.getElem?_map,List.getElem?_range h]; rfl
theorem tbl_getD {n:Nat} (f:Nat → Int) {i:Nat} (h:i < n):(tbl n f).getD i 0=f i:=by rw [List.getD_eq_getElem?_getD,tbl_get? f h]; rfl
theorem tbl_succ (n:Nat) (f:Nat → Int):tbl (n + 1) f=tbl n f ++ [f n]:=by unfold tbl; rw [List.range_succ,List.map_append]; rfl
theorem tbl_congr {n:Nat} {f g:Nat → Int} (h:∀ i,i < n → f i=g i):tbl n f=tbl n g:=by
  unfold tbl
  exact List.map_congr_left fun i hi => h i (List.mem_range.1 hi)
theorem tbl_of {n:Nat} {l:List Int} (h:l.length=n):l=tbl n (fun i => l.getD i 0):=by
  apply List.ext_getElem?
  intro i
  by_cases hi:i < n
  · rw [tbl_get? _ hi,List.getD_eq_getElem?_getD,List.getElem?_eq_getElem (by omega)]; rfl
  · rw [List.getElem?_eq_none (by omega),List.getElem?_eq_none (by rw [tbl_len]; omega)]
theorem tbl_zero (n:Nat):tbl n (fun _ => 0)=List.replicate n 0:=by
  unfold tbl
  rw [List.map_const',List.length_range]
theorem tbl_mem {n:Nat} {f:Nat → Int} {a:Int} (h:a ∈ tbl n f):∃ i,i < n ∧ f i=a:=by
  unfold tbl at h
  obtain ⟨i,hi,e⟩:=List.mem_map.1 h
  exact ⟨i,List.mem_range.1 hi,e⟩
theorem tbl_put {n d:Nat} (f:Nat → Int) (x:Int) (hd:d < n):(tbl n f).take d ++ [x] ++ (tbl n f).drop (d + 1)=tbl n (fun q => if q=d then x else f q):=by
  have h1:((tbl n f).take d).length=d:=by rw [List.length_take,tbl_len]; omega
  apply List.ext_getElem?
  intro i
  rw [List.append_assoc,List.getElem?_append,h1]
  by_cases hi:i < n
  · rw [tbl_get? _ hi]
    by_cases a:i < d
    · rw [if_pos a,List.getElem?_take,if_pos a,tbl_get? _ hi,if_neg (by omega)]
    · rw [if_neg a,List.getElem?_append]
      by_cases b:i=d
      · subst b; rw [if_pos (by simp),if_pos rfl]; simp
      · rw [if_neg (by simp; omega),List.getElem?_drop,List.length_singleton,show d + 1 + (i - d - 1)=i by omega,tbl_get? _ hi,if_neg b]
  · rw [List.getElem?_eq_none (l:=tbl n _) (by rw [tbl_len]; omega),if_neg (by omega),List.getElem?_append_right (by simp; omega),List.getElem?_drop,List.length_singleton,List.getElem?_eq_none (by rw [tbl_len]; omega)]
theorem tbl_put_iu {n d:Nat} (f:Nat → Int) (x:Int) (hd:d < n):((tbl n f).map iu).take d ++ [iu x] ++ ((tbl n f).map iu).drop (d + 1)=(tbl n (fun q => if q=d then x else f q)).map iu:=by
  rw [← tbl_put f x hd]; simp
theorem zero_tbl (n:Nat):List.map IV.v (zeroRow [Value.int .u64 0] n)=(tbl n (fun _ => 0)).map iu:=by
  rw [tbl_zero,List.map_replicate]
  induction n with
  | zero => rfl
  | succ n ih => rw [zeroRow_succ,List.map_append,ih]; rfl
end Go.Proofs.Ytmalpmnmknpphaa.TM
namespace Go.Proofs.Ytmalpmnmknpphaa.TM
open Go Go.RowKit
attribute [local irreducible] K W WOps Effs Xg Xo Xr Xdg Xdo Xdr Xif CallsP CallR
theorem Mul_in {p a b:Int} (hp:Md p) (ha:In p a) (hb:In p b):CallsP Try.prog 79 [u64 p,u64 a,u64 b] (.tup [u64 (a * b % p),i64 0]):=by
  have h:=Mul_walk p a b ⟨ha.1,by have:=ha.2; have:=hp.2; omega⟩ ⟨hb.1,by have:=hb.2; have:=hp.2; omega⟩
  rw [twoR,if_pos ((has_iff p _).2 ⟨fun x hx => by simp at hx; rcases hx with rfl|rfl; exact ha.2; exact hb.2,hp.1,hp.2⟩)] at h
  exact h
theorem Sub_in {p a b:Int} (hp:Md p) (ha:In p a) (hb:In p b):CallsP Try.prog 61 [u64 p,u64 a,u64 b] (.tup [u64 ((a - b) % p),i64 0]):=by
  have h:=Sub_walk p a b ⟨ha.1,by have:=ha.2; have:=hp.2; omega⟩ ⟨hb.1,by have:=hb.2; have:=hp.2; omega⟩
  rw [twoR,if_pos ((has_iff p _).2 ⟨fun x hx => by simp at hx; rcases hx with rfl|rfl; exact ha.2; exact hb.2,hp.1,hp.2⟩)] at h
  exact h
theorem Add_in {p a b:Int} (hp:Md p) (ha:In p a) (hb:In p b):CallsP Try.prog 102 [u64 p,u64 a,u64 b] (.tup [u64 ((a + b) % p),i64 0]):=by
  have h:=Add_walk p a b ⟨ha.1,by have:=ha.2; have:=hp.2; omega⟩ ⟨hb.1,by have:=hb.2; have:=hp.2; omega⟩
  rw [twoR,if_pos ((has_iff p _).2 ⟨fun x hx => by simp at hx; rcases hx with rfl|rfl; exact ha.2; exact hb.2,hp.1,hp.2⟩)] at h
  exact h
theorem in_emod {p:Int} (hp:Md p) (a:Int):In p (a % p):=⟨Int.emod_nonneg _ (by have:=hp.1; omega),Int.emod_lt_of_pos _ (by have:=hp.1; omega)⟩
def lessJ (p c:Int) (x y:List Int) (j:Nat):List Int:=tbl x.length (fun i => if i < j then (x.getD i 0 - c * y.getD i 0 % p) % p else x.getD i 0)
def lessV (p c:Int) (x y:List Int):List Int:=tbl x.length (fun i => (x.getD i 0 - c * y.getD i 0 % p) % p)
theorem lessV_len (p c:Int) (x y:List Int):(lessV p c x y).length=x.length:=tbl_len ..
theorem lessV_get (p c:Int) (x y:List Int) {i:Nat} (h:i < x.length):(lessV p c x y).getD i 0=(x.getD i 0 - c * y.getD i 0 % p) % p:=tbl_getD _ h
theorem lessV_in {p:Int} (hp:Md p) (c:Int) (x y:List Int):∀ a ∈ lessV p c x y,In p a:=fun a ha => by
  obtain ⟨i,hi,rfl⟩:=tbl_mem ha
  exact in_emod hp _
theorem lessJ_zero (p c:Int) (x y:List Int):lessJ p c x y 0=x:=by
  unfold lessJ
  simp only [Nat.not_lt_zero,if_false]
  exact (tbl_of rfl).symm
theorem lessJ_all (p c:Int) (x y:List Int):lessJ p c x y x.length=lessV p c x y:=tbl_congr fun i hi => if_pos hi
theorem lessJ_next {p c:Int} {x y:List Int} {j n:Nat} (hl:x.length=n) (hj:j < n):((lessJ p c x y j).map iu).take j ++ [iu ((x.getD j 0 - c * y.getD j 0 % p) % p)] ++ ((lessJ p c x y j).map iu).drop (j + 1)=(lessJ p c x y (j + 1)).map iu:=by
  subst hl
  rw [lessJ,tbl_put_iu (fun i => if i < j then (x.getD i 0 - c * y.getD i 0 % p) % p else x.getD i 0) ((x.getD j 0 - c * y.getD j 0 % p) % p) hj]
  congr 1
  apply tbl_congr
  intro i _
  by_cases e:i=j
  · subst e; rw [if_pos rfl,if_pos (by omega)]
  · rw [if_neg e]
    by_cases d:i < j
    · rw [if_pos d,if_pos (by omega)]
    · rw [if_neg d,if_neg (by omega)]
theorem lessJ_len (p c:Int) (x y:List Int) (j:Nat):(lessJ p c x y j).length=x.length:=tbl_len ..
theorem lessJ_at {p c:Int} {x y:List Int} {j n:Nat} (hl:x.length=n) (hj:j < n):((lessJ p c x y j).map iu)[j]?=some (iu (x.getD j 0)):=by
  rw [List.getElem?_map,lessJ,tbl_get? _ (by omega),if_neg (by omega)]; rfl
theorem getD_some {l:List Int} {i n:Nat} (hl:l.length=n) (h:i < n):l[i]?=some (l.getD i 0):=by rw [List.getD_eq_getElem?_getD,List.getElem?_eq_getElem (by omega)]; rfl
theorem getD_of {p:Int} {l:List Int} (hi:∀ a ∈ l,In p a) {i:Nat} (h:i < l.length):In p (l.getD i 0):=by
  rw [List.getD_eq_getElem?_getD,List.getElem?_eq_getElem h]; exact hi _ (List.getElem_mem h)
set_option maxHeartbeats 1000000 in
theorem cless_walk {h : Heap} {base bT bX : Name} {a0 a1 a2 a3 a5 : PV} {p c : Int} {x y : List Int} {n : Nat} (hp : Md p) (hc : In p c) (hx : ∀ a ∈ x, In p a) (hy : ∀ a ∈ y, In p a) (hl : x.length = n) (hl2 : y.length = n) (hn : n ≤ 64)
    (hT:h ((3,2)::bT)=some (.var [a0,a1,a2,a3,u64 p,a5])) (hX:h ((1,1)::bX)=some (.row false (x.map iu))) :
    CallR Try.prog base 129 [.ref ((3,2)::bT) 0 6,.view ((1,1)::bX) 0 1 n n,u64 c,.i (.l n (y.map iu))] h (.tup []) (h.put ((1,1)::bX) (.row false ((lessV p c x y).map iu))):=by
  refine X_startR (n:=46) (m:=4) (rs:=[]) Try.func129 rfl rfl rfl rfl (by decide) ?_
  repeat (first|refine X_opc rfl ?_|refine X_dopc rfl ?_|refine ⟨(by show drawK _ _=true; kernel_rfl:drawX _ _ _),?_⟩|exact (by show drawK _ _=true; kernel_rfl:drawX _ _ _)|simp -dsimp (maxSteps:=20000000) (disch:=omega) only [simx,zzC,zzB,tys,ite_self,opnL,callB,callX,readsB,stepOp,nilCmp,ofVal,opBuiltin,opLen,PV.sk,scalBin,scalUn,intBin,opLoad,natOf,opConvert,opField,cellsP,oneP,Value.oneCell',opStore,toIV,scalT,scalA,scalC,boxesA,boxesC,zipB_none,zipB_mx,isZ,opZip,zeroP,opAppendZ,opMakeMap,opLookup,mboxB,opUpdate,↓reduceIte,Nat.reduceSub,Nat.reduceEqDiff,Nat.reduceAdd,Nat.reduceMul,Nat.reduceLT,Nat.reduceLeDiff,Int.reduceToNat,Int.reduceLE,Int.reduceLT,Int.reduceNeg,reduceCtorEq,gos,Int.reduceAdd,Int.reduceSub,Int.reduceMul,Int.reduceEq])
  refine X_loopH [0,1,2,12,13,14] [] (0) (n) (fun j => True) (fun j => [(0,.ref ((3,2)::bT) 0 6),(1,.view ((1,1)::bX) 0 1 n n),(2,u64 c),(12,.i (.l n (y.map iu))),(13,i64 n),(14,i64 j)]) (fun j => h.put ((1,1)::bX) (.row false ((lessJ p c x y j).map iu))) ?_ ?_ ?_ ?_ ?_ (by decide) ?_
  · exact (fgt_nil)
  · ((simp -dsimp (disch:=omega) only [simx,zzB,tys,ite_self,opnL,callB,callX,readsB,stepOp,nilCmp,ofVal,opBuiltin,opLen,PV.sk,scalBin,scalUn,intBin,opLoad,natOf,opConvert,opField,cellsP,oneP,Value.oneCell',opStore,toIV,scalT,scalA,scalC,boxesA,boxesC,zipB_none,zipB_mx,isZ,opZip,zeroP,opAppendZ,opMakeMap,opLookup,mboxB,opUpdate,↓reduceIte,Nat.reduceSub,Nat.reduceEqDiff,Nat.reduceAdd,Nat.reduceMul,Nat.reduceLT,Nat.reduceLeDiff,Int.reduceToNat,Int.reduceLE,Int.reduceLT,Int.reduceNeg,reduceCtorEq,gos,Int.reduceAdd,Int.reduceSub,Int.reduceMul,Int.reduceEq]) <;> first|rfl|simp)
  · rw [drop_nil,lessJ_zero]
    funext b
    rw [Heap.put_at]
    split
    · rename_i e; rw [e,hX]
    · rfl
  · omega
  · trivial
  · intro j hj _
    by_cases cj:j < n
    · have g1:=lessJ_at (p:=p) (c:=c) (y:=y) hl cj
      have g2:=getD_some hl2 cj
      have g3:=lessJ_len p c x y j
      have ix:=getD_of hx (i:=j) (by omega)
      have iy:=getD_of hy (i:=j) (by omega)
      have m1:=Mul_in hp hc iy
      have m2:=Sub_in hp ix (in_emod hp (c * y.getD j 0))
      have nx:=lessJ_next (p:=p) (c:=c) (y:=y) hl cj
      rw [hl] at g3
      have cj1:j + 1 ≤ n:=by omega
      clear hx hy
      repeat (first|((first|refine X_call_fn2 rfl (by simp only [tys]) ?_|refine X_dcall_fn2 rfl (by simp only [tys]) ?_); apply Exists.intro; apply And.intro; (focus (simp -dsimp only [simx,zzC,zzB,tys,ite_self,opnL,callB,callX,readsB,stepOp,nilCmp,ofVal,opBuiltin,opLen,PV.sk,scalBin,scalUn,intBin,opLoad,natOf,opConvert,opField,cellsP,oneP,Value.oneCell',opStore,toIV,scalT,scalA,scalC,boxesA,boxesC,zipB_none,zipB_mx,isZ,opZip,zeroP,opAppendZ,opMakeMap,opLookup,mboxB,opUpdate,↓reduceIte,Nat.reduceSub,Nat.reduceEqDiff,Nat.reduceAdd,Nat.reduceMul,Nat.reduceLT,Nat.reduceLeDiff,Int.reduceToNat,Int.reduceLE,Int.reduceLT,Int.reduceNeg,reduceCtorEq,zzL,if_true,if_false] <;> rfl)); apply Exists.intro; apply And.intro; (focus (first|exact m1|exact m2)))|refine X_opc rfl ?_|refine X_dopc rfl ?_|refine ⟨(by show drawK _ _=true; kernel_rfl:drawX _ _ _),?_⟩|exact (by show drawK _ _=true; kernel_rfl:drawX _ _ _)|simp -dsimp (maxSteps:=20000000) (disch:=omega) only [simx,zzC,zzB,tys,ite_self,opnL,callB,callX,readsB,stepOp,nilCmp,ofVal,opBuiltin,opLen,PV.sk,scalBin,scalUn,intBin,opLoad,natOf,opConvert,opField,cellsP,oneP,Value.oneCell',opStore,toIV,scalT,scalA,scalC,boxesA,boxesC,zipB_none,zipB_mx,isZ,opZip,zeroP,opAppendZ,opMakeMap,opLookup,mboxB,opUpdate,↓reduceIte,Nat.reduceSub,Nat.reduceEqDiff,Nat.reduceAdd,Nat.reduceMul,Nat.reduceLT,Nat.reduceLeDiff,Int.reduceToNat,Int.reduceLE,Int.reduceLT,Int.reduceNeg,reduceCtorEq,gos,Int.reduceAdd,Int.reduceSub,Int.reduceMul,Int.reduceEq,cj,cj1,hT,hX,g1,g2,g3,List.length_map])
      refine ⟨cj,(fgt_nil),rfl,?_⟩
      rw [drop_nil,nx]
      funext b
      simp only [Heap.put_at]
      split <;> rfl
    · have:j=n:=by omega
      subst this
      rw [← hl,lessJ_all]
      repeat (first|refine X_opc rfl ?_|refine X_dopc rfl ?_|refine ⟨(by show drawK _ _=true; kernel_rfl:drawX _ _ _),?_⟩|exact (by show drawK _ _=true; kernel_rfl:drawX _ _ _)|simp -dsimp (maxSteps:=20000000) (disch:=omega) only [simx,zzC,zzB,tys,ite_self,opnL,callB,callX,readsB,stepOp,nilCmp,ofVal,opBuiltin,opLen,PV.sk,scalBin,scalUn,intBin,opLoad,natOf,opConvert,opField,cellsP,oneP,Value.oneCell',opStore,toIV,scalT,scalA,scalC,boxesA,boxesC,zipB_none,zipB_mx,isZ,opZip,zeroP,opAppendZ,opMakeMap,opLookup,mboxB,opUpdate,↓reduceIte,Nat.reduceSub,Nat.reduceEqDiff,Nat.reduceAdd,Nat.reduceMul,Nat.reduceLT,Nat.reduceLeDiff,Int.reduceToNat,Int.reduceLE,Int.reduceLT,Int.reduceNeg,reduceCtorEq,zzR,gos,Int.reduceAdd,Int.reduceSub,Int.reduceMul,Int.reduceEq])
      rfl
end Go.Proofs.Ytmalpmnmknpphaa.TM
namespace Go.Proofs.Ytmalpmnmknpphaa.TM
open Go
section
variable {P:Program} {C:CallRel} {h0:Heap} {base:Name} {Qf:Ex → List PV → Heap → Prop} {k:List It} {t:List PV} {h:Heap}
theorem Xdr_eq {r : Option Out} {out : Out} {d : Option Tmp} {p : Op} {nm : Name} {id : Nat} {ops : Array Oper} {ds : List (Option Tmp)} {i : Nat} {os : List Oper} {pf : XPf ops ds i os} {acc : List Keys} (hr : r = some out)
    (hk:K P C h0 base Qf (.xdops id ops ds i os pf ((keysU out.ups,keysT nm p ((opnL p).map (St.opnd t)))::acc)::k) .normal (putT t d out.val) (h.ups out.ups)):Xdr P C h0 base Qf r d p nm (mkD id ops ds i os pf) acc k t h:=by
  subst hr; exact hk
theorem X_dappend_one {d : Option Tmp} {p : Op} {nm : Name} {id : Nat} {ops : Array Oper} {ds : List (Option Tmp)} {i : Nat} {os : List Oper} {pf : XPf ops ds i os} {acc : List Keys} {s b : Name} {ty : TypeId} (e : TypeId) (zs : List Value) {n z : Nat} {cs : List IV} (xs : List IV) {fz : Bool}
    (he:elemB P ty=some e) (hz:zeroB P e=some zs) (hzl:zs.length=z) (hz0:0 < z) (hn:cs.length=n * z) (hs:h s=if n=0 then none else some (.row false cs)) (hb:h b=some (.row fz xs)) (hx:xs.length=z)
    (hby:(n + 1) * P.bytesOf e ≤ 140737488355328) (hl:n + 1 ≤ maxLen)
    (hk:K P C h0 base Qf (.xdops id ops ds i os pf ((keysU [(s,Box.row false (cs ++ xs))],keysT nm p ((opnL p).map (St.opnd t)))::acc)::k) .normal (putT t d (rowP s z (n + 1) (cs ++ xs))) (h.put s (.row false (cs ++ xs)))) :
    Xdr P C h0 base Qf (opAppend P h s ty (rowP s z n cs) (.view b 0 z 1 z)) d p nm (mkD id ops ds i os pf) acc k t h:=by
  refine Xdr_eq (append_row he hz hzl hz0 hn hs rfl (m:=1) rfl (by decide) (xs:=xs) ?_ hby hl) hk
  simp only [SK.cells,hb,hx,Nat.zero_add,Nat.one_mul,Nat.le_refl,and_self,if_true,List.drop_zero]
  rw [← hx,List.take_length]
theorem X_append_own {R : It} {d : Option Tmp} {s b bx : Name} {ty : TypeId} (e : TypeId) (zs : List Value) {n z top : Nat} {cs : List IV} (xs : List IV) {fz : Bool}
    (he:elemB P ty=some e) (hz:zeroB P e=some zs) (hzl:zs.length=z) (hz0:0 < z) (hb:h b=some (.row false cs)) (ht:top=cs.length) (hn:cs.length=n * z) (hx:h bx=some (.row fz xs)) (hxl:xs.length=z)
    (hby:(n + 1) * P.bytesOf e ≤ 140737488355328) (hl:n + 1 ≤ maxLen)
    (hk:K P C h0 base Qf (R::k) .normal (putT t d (.view b 0 z (n + 1) (cs ++ xs).length)) (h.put b (.row false (cs ++ xs)))) :
    Xr P C h0 base Qf (opAppend P h s ty (.view b 0 z n top) (.view bx 0 z 1 z)) d R k t h:=by
  subst ht
  subst hzl
  refine Xr_eq (out:=⟨.view b 0 zs.length (n + 1) (cs ++ xs).length,[(b,.row false (cs ++ xs))]⟩) ?_ hk
  unfold opAppend
  rw [he]
  simp only [hz]
  simp only [show (PV.view b 0 zs.length n cs.length).sk=some (SK.own b 0 zs.length n cs.length) from rfl,show (PV.view bx 0 zs.length 1 zs.length).sk=some (SK.own bx 0 zs.length 1 zs.length) from rfl,SK.cells,SK.len,hx,hxl,Nat.zero_add,Nat.one_mul,Nat.le_refl,and_self,if_true,List.drop_zero]
  rw [← hxl,List.take_length,if_pos ⟨hxl ▸ hz0,hby,hl⟩,if_neg (by omega),hb]
  simp only [hxl,hn,and_self,if_true,true_and]
theorem X_call_shared {id : Nat} {ops : Array Oper} {ds : List (Option Tmp)} {i : Nat} {d : Option Tmp} {p : Op} {ty : TypeId} {ps : String} {af : Array Edge} {g0 : Option (Nat × Bool)} {os : List Oper} {pf : XPf ops ds i ({ dst := d, op := p, type := ty, pos := ps, after := af, guard := g0 } :: os)} {c : Call} {g : FuncId} {args : List PV} {v : PV} {h' : Heap}
    (hs:CallR P ((id,i)::base) g args h v h') (ho:p=.call c) (hcal:calleeOf t c=some (g,args)) (he:enterB P g=true)
    (hk:K P (CallR P) h0 base Qf (.xops id ops (d::ds) (i + 1) os ⟨pf.h.step⟩::k) .normal (putT t d v) h') :
    K P (CallR P) h0 base Qf (.xcall id ops ds i { dst:=d,op:=p,type:=ty,pos:=ps,after:=af,guard:=g0 } os pf::k) .normal t h :=
  K_call_shared (i:=i) (ops:=ops) (id:=id) (os:=os) (o:={ dst:=d,op:=p,type:=ty,pos:=ps,after:=af,guard:=g0 }) hs ho hcal he hk
end
end Go.Proofs.Ytmalpmnmknpphaa.TM
namespace Go.Proofs.Ytmalpmnmknpphaa.TM
open Go Go.RowKit
attribute [local irreducible] K W WOps Effs Xg Xo Xr Xdg Xdo Xdr Xif CallsP CallR
theorem X_app_full {P : Program} {C : CallRel} {h h0 : Heap} {base : Name} {Qf : Ex → List PV → Heap → Prop} {k : List It} {t : List PV} {R : It} {d : Option Tmp} {s b : Name} {ty : TypeId} (e : TypeId) (zs : List Value) {n m : Nat} {cs : List IV} (xs : List IV)
    (he:elemB P ty=some e) (hz:zeroB P e=some zs) (hzl:zs.length=1) (hb:h b=some (.row false cs)) (hl:cs.length=n) (hm:0 < m) (hx:xs.length=m)
    (hby:(n + m) * P.bytesOf e ≤ 140737488355328) (hmx:n + m ≤ maxLen)
    (hk:K P C h0 base Qf (R::k) .normal (putT t d (.view b 0 1 (n + m) (n + m))) (h.put b (.row false (cs ++ xs)))) :
    Xr P C h0 base Qf (opAppend P h s ty (.view b 0 1 n n) (.i (.l m xs))) d R k t h:=by
  refine Xr_eq (out:=⟨.view b 0 1 (n + m) (n + m),[(b,.row false (cs ++ xs))]⟩) ?_ hk
  have h1:¬ m=0:=by omega
  subst hl
  simp only [opAppend,he,hz,hzl,PV.sk,SK.cells,SK.len,hx,hb,Nat.mul_one,if_true,h1,if_false,hby,hmx,Nat.zero_lt_one,and_self,true_and,List.length_append]
theorem cloneU_own {n:Nat} {l:List Int} (hl:l.length=n) (h0:0 < n) (hn:n ≤ 4096):CallsO Try.prog 127 [.i (.l n (l.map iu))] 1 n n (l.map iu):=by
  intro base
  refine ⟨(3,0)::base,Heap.none.put ((3,0)::base) (.row false (l.map iu)),?_,by simp [Heap.put_at],by simp [hl]⟩
  have h1:¬ n=0:=by omega
  refine X_startR (n:=8) (m:=1) (rs:=[.tmp 2]) Try.func127 rfl rfl rfl rfl (by decide) ?_
  repeat (first|refine X_opc rfl ?_|refine X_dopc rfl ?_|refine ⟨(by show drawK _ _=true; kernel_rfl:drawX _ _ _),?_⟩|exact (by show drawK _ _=true; kernel_rfl:drawX _ _ _)|simp -dsimp (maxSteps:=20000000) (disch:=omega) only [simx,zzC,zzB,tys,ite_self,opnL,callB,callX,readsB,stepOp,nilCmp,ofVal,opBuiltin,opLen,PV.sk,scalBin,scalUn,intBin,opLoad,natOf,opConvert,opField,cellsP,oneP,Value.oneCell',opStore,toIV,scalT,scalA,scalC,boxesA,boxesC,zipB_none,zipB_mx,isZ,opZip,zeroP,opAppendZ,opMakeMap,opLookup,mboxB,opUpdate,↓reduceIte,Nat.reduceSub,Nat.reduceEqDiff,Nat.reduceAdd,Nat.reduceMul,Nat.reduceLT,Nat.reduceLeDiff,Int.reduceToNat,Int.reduceLE,Int.reduceLT,Int.reduceNeg,reduceCtorEq,gos,Int.reduceAdd,Int.reduceSub,Int.reduceMul,Int.reduceEq,h1,h0])
  refine X_app_full (cs:=[]) 22 [.int .u64 0] (l.map iu) (by simp only [tys]) (by simp only [tys]) rfl (by simp [Heap.put_at]) rfl h0 (by simp [hl]) (by simp only [tys]; omega) (by rw [mx_len]; omega) ?_
  repeat (first|refine X_opc rfl ?_|refine X_dopc rfl ?_|refine ⟨(by show drawK _ _=true; kernel_rfl:drawX _ _ _),?_⟩|exact (by show drawK _ _=true; kernel_rfl:drawX _ _ _)|simp -dsimp (maxSteps:=20000000) (disch:=omega) only [simx,zzC,zzB,tys,ite_self,opnL,callB,callX,readsB,stepOp,nilCmp,ofVal,opBuiltin,opLen,PV.sk,scalBin,scalUn,intBin,opLoad,natOf,opConvert,opField,cellsP,oneP,Value.oneCell',opStore,toIV,scalT,scalA,scalC,boxesA,boxesC,zipB_none,zipB_mx,isZ,opZip,zeroP,opAppendZ,opMakeMap,opLookup,mboxB,opUpdate,↓reduceIte,Nat.reduceSub,Nat.reduceEqDiff,Nat.reduceAdd,Nat.reduceMul,Nat.reduceLT,Nat.reduceLeDiff,Int.reduceToNat,Int.reduceLE,Int.reduceLT,Int.reduceNeg,reduceCtorEq,zzR,gos,Int.reduceAdd,Int.reduceSub,Int.reduceMul,Int.reduceEq])
  funext c
  simp only [Heap.put_at,List.nil_append]
  split <;> rfl
def nzA:List Int → Nat → Int
  | [],_ => -1
  | a::l,k => if a=0 then nzA l (k + 1) else k
theorem row1_walk (a:Int):CallsP Try.prog 131 [u64 a] (bl (a != 0)):=by
  refine X_startP (n:=5) (m:=1) (rs:=[.tmp 2]) Try.func131 rfl rfl rfl rfl (by decide) fun base => ?_
  repeat (first|refine X_opc rfl ?_|refine X_dopc rfl ?_|refine ⟨(by show drawK _ _=true; kernel_rfl:drawX _ _ _),?_⟩|exact (by show drawK _ _=true; kernel_rfl:drawX _ _ _)|simp -dsimp (maxSteps:=20000000) (disch:=omega) only [simx,zzC,zzB,tys,ite_self,opnL,callB,callX,readsB,stepOp,nilCmp,ofVal,opBuiltin,opLen,PV.sk,scalBin,scalUn,intBin,opLoad,natOf,opConvert,opField,cellsP,oneP,Value.oneCell',opStore,toIV,scalT,scalA,scalC,boxesA,boxesC,zipB_none,zipB_mx,isZ,opZip,zeroP,opAppendZ,opMakeMap,opLookup,mboxB,opUpdate,↓reduceIte,Nat.reduceSub,Nat.reduceEqDiff,Nat.reduceAdd,Nat.reduceMul,Nat.reduceLT,Nat.reduceLeDiff,Int.reduceToNat,Int.reduceLE,Int.reduceLT,Int.reduceNeg,reduceCtorEq,zzR,gos,Int.reduceAdd,Int.reduceSub,Int.reduceMul,Int.reduceEq])
theorem indexA_walk {l:List Int} (hl:l.length ≤ maxLen):CallsP Try.prog 130 [lu l,fnc 131] (i64 (nzA l 0)):=by
  rw [mx_len] at hl
  refine X_startP (n:=19) (m:=2) (rs:=[.tmp 4]) Try.func130 rfl rfl rfl rfl (by decide) fun base => ?_
  repeat (first|refine X_opc rfl ?_|refine X_dopc rfl ?_|refine ⟨(by show drawK _ _=true; kernel_rfl:drawX _ _ _),?_⟩|exact (by show drawK _ _=true; kernel_rfl:drawX _ _ _)|simp -dsimp (maxSteps:=20000000) (disch:=omega) only [simx,zzC,zzB,tys,ite_self,opnL,callB,callX,readsB,stepOp,nilCmp,ofVal,opBuiltin,opLen,PV.sk,scalBin,scalUn,intBin,opLoad,natOf,opConvert,opField,cellsP,oneP,Value.oneCell',opStore,toIV,scalT,scalA,scalC,boxesA,boxesC,zipB_none,zipB_mx,isZ,opZip,zeroP,opAppendZ,opMakeMap,opLookup,mboxB,opUpdate,↓reduceIte,Nat.reduceSub,Nat.reduceEqDiff,Nat.reduceAdd,Nat.reduceMul,Nat.reduceLT,Nat.reduceLeDiff,Int.reduceToNat,Int.reduceLE,Int.reduceLT,Int.reduceNeg,reduceCtorEq,gos,Int.reduceAdd,Int.reduceSub,Int.reduceMul,Int.reduceEq])
  refine X_loopH [0,1,7,8] [] (0) (l.length) (fun j => nzA (l.drop j) j=nzA l 0) (fun j => [(8,i64 j)]) (fun j => Heap.none) ?_ ?_ ?_ ?_ ?_ (by decide) ?_
  · exact (fgt_nil)
  · ((simp -dsimp (disch:=omega) only [simx,zzB,tys,ite_self,opnL,callB,callX,readsB,stepOp,nilCmp,ofVal,opBuiltin,opLen,PV.sk,scalBin,scalUn,intBin,opLoad,natOf,opConvert,opField,cellsP,oneP,Value.oneCell',opStore,toIV,scalT,scalA,scalC,boxesA,boxesC,zipB_none,zipB_mx,isZ,opZip,zeroP,opAppendZ,opMakeMap,opLookup,mboxB,opUpdate,↓reduceIte,Nat.reduceSub,Nat.reduceEqDiff,Nat.reduceAdd,Nat.reduceMul,Nat.reduceLT,Nat.reduceLeDiff,Int.reduceToNat,Int.reduceLE,Int.reduceLT,Int.reduceNeg,reduceCtorEq,gos,Int.reduceAdd,Int.reduceSub,Int.reduceMul,Int.reduceEq]) <;> first|rfl|simp)
  · exact drop_nil _
  · omega
  · rfl
  · intro j hj hf
    by_cases c:j < l.length
    · have g1:l[j]?=some l[j]:=List.getElem?_eq_getElem c
      have d:=row1_walk l[j]
      rw [List.drop_eq_getElem_cons c,nzA] at hf
      generalize l[j]=a at g1 d hf
      by_cases e:a=0
      · rw [if_pos e] at hf
        subst e
        rw [show ((0:Int) != 0)=false from rfl] at d
        repeat (first|((first|refine X_call_fn2 rfl (by simp only [tys]) ?_|refine X_dcall_fn2 rfl (by simp only [tys]) ?_); apply Exists.intro; apply And.intro; (focus (simp -dsimp only [simx,zzC,zzB,tys,ite_self,opnL,callB,callX,readsB,stepOp,nilCmp,ofVal,opBuiltin,opLen,PV.sk,scalBin,scalUn,intBin,opLoad,natOf,opConvert,opField,cellsP,oneP,Value.oneCell',opStore,toIV,scalT,scalA,scalC,boxesA,boxesC,zipB_none,zipB_mx,isZ,opZip,zeroP,opAppendZ,opMakeMap,opLookup,mboxB,opUpdate,↓reduceIte,Nat.reduceSub,Nat.reduceEqDiff,Nat.reduceAdd,Nat.reduceMul,Nat.reduceLT,Nat.reduceLeDiff,Int.reduceToNat,Int.reduceLE,Int.reduceLT,Int.reduceNeg,reduceCtorEq,zzL,if_true,if_false] <;> rfl)); apply Exists.intro; apply And.intro; (focus (first|exact d)))|(refine X_call_val2 rfl ?_; apply Exists.intro; apply And.intro; (focus (simp -dsimp only [simx,zzC,zzB,tys,ite_self,opnL,callB,callX,readsB,stepOp,nilCmp,ofVal,opBuiltin,opLen,PV.sk,scalBin,scalUn,intBin,opLoad,natOf,opConvert,opField,cellsP,oneP,Value.oneCell',opStore,toIV,scalT,scalA,scalC,boxesA,boxesC,zipB_none,zipB_mx,isZ,opZip,zeroP,opAppendZ,opMakeMap,opLookup,mboxB,opUpdate,↓reduceIte,Nat.reduceSub,Nat.reduceEqDiff,Nat.reduceAdd,Nat.reduceMul,Nat.reduceLT,Nat.reduceLeDiff,Int.reduceToNat,Int.reduceLE,Int.reduceLT,Int.reduceNeg,reduceCtorEq,zzL,if_true,if_false] <;> rfl)); apply And.intro; (focus (first|simp only [tys]|exact such_enter _)); apply Exists.intro; apply And.intro; (focus (simp -dsimp only [simx,zzC,zzB,tys,ite_self,opnL,callB,callX,readsB,stepOp,nilCmp,ofVal,opBuiltin,opLen,PV.sk,scalBin,scalUn,intBin,opLoad,natOf,opConvert,opField,cellsP,oneP,Value.oneCell',opStore,toIV,scalT,scalA,scalC,boxesA,boxesC,zipB_none,zipB_mx,isZ,opZip,zeroP,opAppendZ,opMakeMap,opLookup,mboxB,opUpdate,↓reduceIte,Nat.reduceSub,Nat.reduceEqDiff,Nat.reduceAdd,Nat.reduceMul,Nat.reduceLT,Nat.reduceLeDiff,Int.reduceToNat,Int.reduceLE,Int.reduceLT,Int.reduceNeg,reduceCtorEq,zzL,if_true,if_false] <;> rfl)); apply Exists.intro; apply And.intro; (focus (first|exact d)))|refine X_opc rfl ?_|refine X_dopc rfl ?_|refine ⟨(by show drawK _ _=true; kernel_rfl:drawX _ _ _),?_⟩|exact (by show drawK _ _=true; kernel_rfl:drawX _ _ _)|simp -dsimp (maxSteps:=20000000) (disch:=omega) only [simx,zzC,zzB,tys,ite_self,opnL,callB,callX,readsB,stepOp,nilCmp,ofVal,opBuiltin,opLen,PV.sk,scalBin,scalUn,intBin,opLoad,natOf,opConvert,opField,cellsP,oneP,Value.oneCell',opStore,toIV,scalT,scalA,scalC,boxesA,boxesC,zipB_none,zipB_mx,isZ,opZip,zeroP,opAppendZ,opMakeMap,opLookup,mboxB,opUpdate,↓reduceIte,Nat.reduceSub,Nat.reduceEqDiff,Nat.reduceAdd,Nat.reduceMul,Nat.reduceLT,Nat.reduceLeDiff,Int.reduceToNat,Int.reduceLE,Int.reduceLT,Int.reduceNeg,reduceCtorEq,zzR,gos,Int.reduceAdd,Int.reduceSub,Int.reduceMul,Int.reduceEq,c,g1])
        exact ⟨c,(fgt_nil),hf,rfl,drop_nil _⟩
      · rw [if_neg e] at hf
        rw [← hf]
        rw [show (a != 0)=true by simp [e]] at d
        repeat (first|((first|refine X_call_fn2 rfl (by simp only [tys]) ?_|refine X_dcall_fn2 rfl (by simp only [tys]) ?_); apply Exists.intro; apply And.intro; (focus (simp -dsimp only [simx,zzC,zzB,tys,ite_self,opnL,callB,callX,readsB,stepOp,nilCmp,ofVal,opBuiltin,opLen,PV.sk,scalBin,scalUn,intBin,opLoad,natOf,opConvert,opField,cellsP,oneP,Value.oneCell',opStore,toIV,scalT,scalA,scalC,boxesA,boxesC,zipB_none,zipB_mx,isZ,opZip,zeroP,opAppendZ,opMakeMap,opLookup,mboxB,opUpdate,↓reduceIte,Nat.reduceSub,Nat.reduceEqDiff,Nat.reduceAdd,Nat.reduceMul,Nat.reduceLT,Nat.reduceLeDiff,Int.reduceToNat,Int.reduceLE,Int.reduceLT,Int.reduceNeg,reduceCtorEq,zzL,if_true,if_false] <;> rfl)); apply Exists.intro; apply And.intro; (focus (first|exact d)))|(refine X_call_val2 rfl ?_; apply Exists.intro; apply And.intro; (focus (simp -dsimp only [simx,zzC,zzB,tys,ite_self,opnL,callB,callX,readsB,stepOp,nilCmp,ofVal,opBuiltin,opLen,PV.sk,scalBin,scalUn,intBin,opLoad,natOf,opConvert,opField,cellsP,oneP,Value.oneCell',opStore,toIV,scalT,scalA,scalC,boxesA,boxesC,zipB_none,zipB_mx,isZ,opZip,zeroP,opAppendZ,opMakeMap,opLookup,mboxB,opUpdate,↓reduceIte,Nat.reduceSub,Nat.reduceEqDiff,Nat.reduceAdd,Nat.reduceMul,Nat.reduceLT,Nat.reduceLeDiff,Int.reduceToNat,Int.reduceLE,Int.reduceLT,Int.reduceNeg,reduceCtorEq,zzL,if_true,if_false] <;> rfl)); apply And.intro; (focus (first|simp only [tys]|exact such_enter _)); apply Exists.intro; apply And.intro; (focus (simp -dsimp only [simx,zzC,zzB,tys,ite_self,opnL,callB,callX,readsB,stepOp,nilCmp,ofVal,opBuiltin,opLen,PV.sk,scalBin,scalUn,intBin,opLoad,natOf,opConvert,opField,cellsP,oneP,Value.oneCell',opStore,toIV,scalT,scalA,scalC,boxesA,boxesC,zipB_none,zipB_mx,isZ,opZip,zeroP,opAppendZ,opMakeMap,opLookup,mboxB,opUpdate,↓reduceIte,Nat.reduceSub,Nat.reduceEqDiff,Nat.reduceAdd,Nat.reduceMul,Nat.reduceLT,Nat.reduceLeDiff,Int.reduceToNat,Int.reduceLE,Int.reduceLT,Int.reduceNeg,reduceCtorEq,zzL,if_true,if_false] <;> rfl)); apply Exists.intro; apply And.intro; (focus (first|exact d)))|refine X_opc rfl ?_|refine X_dopc rfl ?_|refine ⟨(by show drawK _ _=true; kernel_rfl:drawX _ _ _),?_⟩|exact (by show drawK _ _=true; kernel_rfl:drawX _ _ _)|simp -dsimp (maxSteps:=20000000) (disch:=omega) only [simx,zzC,zzB,tys,ite_self,opnL,callB,callX,readsB,stepOp,nilCmp,ofVal,opBuiltin,opLen,PV.sk,scalBin,scalUn,intBin,opLoad,natOf,opConvert,opField,cellsP,oneP,Value.oneCell',opStore,toIV,scalT,scalA,scalC,boxesA,boxesC,zipB_none,zipB_mx,isZ,opZip,zeroP,opAppendZ,opMakeMap,opLookup,mboxB,opUpdate,↓reduceIte,Nat.reduceSub,Nat.reduceEqDiff,Nat.reduceAdd,Nat.reduceMul,Nat.reduceLT,Nat.reduceLeDiff,Int.reduceToNat,Int.reduceLE,Int.reduceLT,Int.reduceNeg,reduceCtorEq,zzR,gos,Int.reduceAdd,Int.reduceSub,Int.reduceMul,Int.reduceEq,c,g1])
    · have hj:j=l.length:=by omega
      subst hj
      rw [List.drop_length,nzA] at hf
      rw [← hf]
      repeat (first|refine X_opc rfl ?_|refine X_dopc rfl ?_|refine ⟨(by show drawK _ _=true; kernel_rfl:drawX _ _ _),?_⟩|exact (by show drawK _ _=true; kernel_rfl:drawX _ _ _)|simp -dsimp (maxSteps:=20000000) (disch:=omega) only [simx,zzC,zzB,tys,ite_self,opnL,callB,callX,readsB,stepOp,nilCmp,ofVal,opBuiltin,opLen,PV.sk,scalBin,scalUn,intBin,opLoad,natOf,opConvert,opField,cellsP,oneP,Value.oneCell',opStore,toIV,scalT,scalA,scalC,boxesA,boxesC,zipB_none,zipB_mx,isZ,opZip,zeroP,opAppendZ,opMakeMap,opLookup,mboxB,opUpdate,↓reduceIte,Nat.reduceSub,Nat.reduceEqDiff,Nat.reduceAdd,Nat.reduceMul,Nat.reduceLT,Nat.reduceLeDiff,Int.reduceToNat,Int.reduceLE,Int.reduceLT,Int.reduceNeg,reduceCtorEq,zzR,gos,Int.reduceAdd,Int.reduceSub,Int.reduceMul,Int.reduceEq])
end Go.Proofs.Ytmalpmnmknpphaa.TM
namespace Go.Proofs.Ytmalpmnmknpphaa.TM
open Go Go.RowKit
def finvC (p a:Int):Int:=match (List.range p.toNat).find? (fun x:Nat => a * (x:Int) % p == 1) with
  | some x => (x:Int)
  | none => 0
theorem finv_c (p a:Int):finv p a=finvC p a:=by
  unfold finvC
  cases h:(List.range p.toNat).find? (fun x:Nat => a * (x:Int) % p == 1) with
  | some x =>
    have h1:=List.find?_some h
    have h2:=List.mem_range.1 (List.mem_of_find?_eq_some h)
    show finv p a=(x:Int)
    exact finv_spec ⟨by omega,by omega⟩ (by simpa using h1)
  | none =>
    have h1:=List.find?_eq_none.1 h
    unfold finv
    rw [dif_neg]
    · rintro ⟨x,hx,hm⟩
      have h0:=hx.1
      have h2:=hx.2
      have:=h1 x.toNat (List.mem_range.2 (by omega))
      rw [show ((x.toNat:Nat):Int)=x by have:=hx.1; omega,hm] at this
      simp at this
theorem finvC_in {p a:Int} (hp2:2 ≤ p) (hp:p < 9223372036854775808) (ha:In p a) (h:Int.gcd p a=1):In p (finvC p a) ∧ a * finvC p a % p=1:=by
  rw [← finv_c]; exact finv_in hp2 hp ha h
structure Tk where
  rows:List Int
  cols:List Int
  cs:List (List Int)
  us:List (List Int)
  vs:List Int
def elR (p:Int) (T:Tk) (row:List Int):Nat → List Int
  | 0 => row
  | k + 1 => lessV p ((elR p T row k).getD (T.cols.getD k 0).toNat 0 * T.vs.getD k 0 % p) (elR p T row k) (T.us.getD k [])
def elX (p:Int) (T:Tk) (row:List Int) (k:Nat):Int:=(elR p T row k).getD (T.cols.getD k 0).toNat 0 * T.vs.getD k 0 % p
theorem elR_succ (p:Int) (T:Tk) (row:List Int) (k:Nat):elR p T row (k + 1)=lessV p (elX p T row k) (elR p T row k) (T.us.getD k []):=rfl
theorem elR_len (p:Int) (T:Tk) (row:List Int):∀ k,(elR p T row k).length=row.length
  | 0 => rfl
  | k + 1 => by rw [elR_succ,lessV_len,elR_len p T row k]
theorem elR_in {p:Int} (hp:Md p) (T:Tk) {row:List Int} (h:∀ a ∈ row,In p a):∀ k,∀ a ∈ elR p T row k,In p a
  | 0 => h
  | k + 1 => by rw [elR_succ]; exact lessV_in hp _ _ _
theorem elX_in {p:Int} (hp:Md p) (T:Tk) (row:List Int) (k:Nat):In p (elX p T row k):=in_emod hp _
def rstT (p:Int) (T:Tk) (row:List Int):List Int:=elR p T row T.us.length
def xsT (p:Int) (T:Tk) (row:List Int):List Int:=tbl T.us.length (elX p T row)
def tkRow (p:Int) (T:Tk) (i:Int) (row:List Int):Tk :=
  if nzA (rstT p T row) 0 < 0 then { T with cs:=T.cs ++ [xsT p T row] } else
  { rows:=T.rows ++ [i],cols:=T.cols ++ [nzA (rstT p T row) 0],cs:=T.cs ++ [xsT p T row ++ [1]],us:=T.us ++ [rstT p T row],vs:=T.vs ++ [finvC p ((rstT p T row).getD (nzA (rstT p T row) 0).toNat 0)] }
def tkN (p:Int) (C:Nat) (l:List Int):Nat → Tk
  | 0 => ⟨[],[],[],[],[]⟩
  | i + 1 => tkRow p (tkN p C l i) i (rowM C l i)
structure TkI (p:Int) (C i:Nat) (T:Tk):Prop where
  rl:T.rows.length=T.us.length
  ql:T.cols.length=T.us.length
  vl:T.vs.length=T.us.length
  cl:T.cs.length=i
  ri:T.us.length ≤ i
  rb:∀ a ∈ T.rows,0 ≤ a ∧ a < i
  qb:∀ a ∈ T.cols,0 ≤ a ∧ a < C
  ul:∀ u ∈ T.us,u.length=C ∧ ∀ a ∈ u,In p a
  vb:∀ a ∈ T.vs,In p a
  cb:∀ c ∈ T.cs,c.length ≤ T.us.length ∧ ∀ a ∈ c,In p a
theorem TkI.zero (p:Int) (C:Nat):TkI p C 0 ⟨[],[],[],[],[]⟩:=⟨rfl,rfl,rfl,rfl,Nat.le_refl _,by simp,by simp,by simp,by simp,by simp⟩
theorem nzA_spec:∀ (l:List Int) (k:Nat),(nzA l k=-1 ∧ ∀ a ∈ l,a=0) ∨ ∃ n:Nat,nzA l k=((k + n:Nat):Int) ∧ n < l.length ∧ l.getD n 0 ≠ 0 ∧ ∀ j,j < n → l.getD j 0=0
  | [],k => .inl ⟨rfl,by simp⟩
  | a::l,k => by
    by_cases h:a=0
    · rcases nzA_spec l (k + 1) with ⟨h1,h2⟩|⟨n,h1,h2,h3,h4⟩
      · left; rw [nzA,if_pos h]; exact ⟨h1,by intro b hb; rcases List.mem_cons.1 hb with rfl|hb; exact h; exact h2 b hb⟩
      · right
        refine ⟨n + 1,by rw [nzA,if_pos h,h1]; congr 1; omega,by simpa using h2,by simpa using h3,?_⟩
        intro j hj
        cases j with
        | zero => simpa using h
        | succ j => simpa using h4 j (by omega)
    · right
      exact ⟨0,by rw [nzA,if_neg h]; rfl,by simp,by simpa using h,by intro j hj; omega⟩
end Go.Proofs.Ytmalpmnmknpphaa.TM
namespace Go.Proofs.Ytmalpmnmknpphaa.TM
open Go
theorem X_startE {P : Program} {base : Name} {f : FuncId} {fn : Func} {c : Code} {args : List PV} {h : Heap} {v : PV} {Φ : Heap → Prop} {n m : Nat} {rs : List ResultVar} (hf : P.funcs[f]? = some fn) (hb : fn.body = some c) (hn : fn.ntmps = n) (hrs : fn.results.toList = rs) (hm : args.length = m) (hmn : m ≤ n)
    (hw:K P (CallR P) h base (LkQ (fun e t hh => (e=.normal ∨ e=.ret) ∧ resB P rs t hh=some v ∧ Φ hh) .mk) [.lk c .mk] .normal (toL n (argsF args)) h):∃ h',CallR P base f args h v h' ∧ Φ h':=by
  obtain ⟨e,t',h',⟨he,hr,hp⟩,hw'⟩:=W_point c _ _ (show W P (CallR P) h base c (toL n (argsF args)) h _ from hw)
  refine ⟨h',CallR.startF (v:=v) hf hb hn hrs hm hmn ?_,hp⟩
  show W P (CallR P) h base c (toL n (argsF args)) h _
  refine W_mono (fun _ _ _ _ _ _ h => h) c _ _ (fun e2 t2 h2 hh => ?_) hw'
  obtain ⟨rfl,rfl,rfl⟩:=hh
  exact ⟨he,hr,rfl⟩
end Go.Proofs.Ytmalpmnmknpphaa.TM
namespace Go.Proofs.Ytmalpmnmknpphaa.TM
open Go Go.RowKit
def Prm (p:Nat):Prop:=2 ≤ p ∧ ∀ a,0 < a → a < p → Nat.gcd p a=1
theorem prm_of {p:Nat} (h2:2 ≤ p) (h:∀ d,2 ≤ d → d * d ≤ p → p % d ≠ 0):Prm p:=by
  refine ⟨h2,fun a h0 h1 => ?_⟩
  have d1:=Nat.gcd_dvd_left p a
  have d2:=Nat.gcd_dvd_right p a
  have gp:0 < Nat.gcd p a:=Nat.gcd_pos_of_pos_left _ (by omega)
  have ga:Nat.gcd p a ≤ a:=Nat.le_of_dvd h0 d2
  generalize Nat.gcd p a=g at *
  by_cases e:g=1
  · exact e
  exfalso
  obtain ⟨c,hc⟩:=d1
  by_cases e2:g * g ≤ p
  · exact h g (by omega) e2 (Nat.mod_eq_zero_of_dvd ⟨c,hc⟩)
  · have c1:c ≠ 0:=by rintro rfl; omega
    have c2:c ≠ 1:=by rintro rfl; omega
    have c3:c < g:=by
      rcases Nat.lt_or_ge c g with h|h
      · exact h
      · exact absurd (by rw [hc]; exact Nat.mul_le_mul_left g h) e2
    refine h c (by omega) ?_ (Nat.mod_eq_zero_of_dvd ⟨g,by rw [hc,Nat.mul_comm]⟩)
    rw [hc]; exact Nat.mul_le_mul_right c (Nat.le_of_lt c3)
def noDiv (p:Nat):Nat → Nat → Bool
  | 0,lo => p % lo != 0
  | k + 1,lo => noDiv p k lo && noDiv p k (lo + 2 ^ k)
theorem noDiv_all (p:Nat):∀ (k lo:Nat),noDiv p k lo=true → ∀ d,lo ≤ d → d < lo + 2 ^ k → p % d ≠ 0
  | 0,lo,h,d,h1,h2 => by
    obtain rfl:d=lo:=by omega
    simpa [noDiv] using h
  | k + 1,lo,h,d,h1,h2 => by
    rw [noDiv,Bool.and_eq_true] at h
    by_cases c:d < lo + 2 ^ k
    · exact noDiv_all p k lo h.1 d h1 c
    · exact noDiv_all p k _ h.2 d (by omega) (by rw [Nat.pow_succ] at h2; omega)
theorem sq_lt {d n:Nat} (h:d * d < n * n):d < n:=by
  rcases Nat.lt_or_ge d n with g|g
  · exact g
  · exact absurd (Nat.mul_le_mul g g) (by omega)
theorem prm31:Prm 2147483647:=by
  refine prm_of (by decide) fun d h2 hd => ?_
  have hk:noDiv 2147483647 16 2=true:=by decide +kernel
  exact noDiv_all _ 16 2 hk d h2 (by have:d < 46341:=sq_lt (Nat.lt_of_le_of_lt hd (by decide)); omega)
theorem least (Q:Nat → Prop):∀ n,Q n → ∃ m,Q m ∧ ∀ k,k < m → ¬ Q k:=by
  intro n
  induction n using Nat.strongRecOn with
  | _ n ih =>
  intro h
  by_cases c:∃ k,k < n ∧ Q k
  · obtain ⟨k,hk,hq⟩:=c
    exact ih k hk hq
  · exact ⟨n,h,fun k hk hq => c ⟨k,hk,hq⟩⟩
theorem pigeon:∀ (g n:Nat) (f:Nat → Nat),(∀ i,i < n → f i < g) → (∀ i j,i < j → j < n → f i ≠ f j) → n ≤ g
  | 0,n,f,h,_ => by
    rcases Nat.eq_zero_or_pos n with h0|h0
    · omega
    · exact absurd (h 0 h0) (by omega)
  | g + 1,n,f,h,hd => by
    by_cases c:∃ i,i < n ∧ f i=g
    · obtain ⟨i,hi,he⟩:=c
      have:=pigeon g (n - 1) (fun j => if j < i then f j else f (j + 1)) (fun j hj => by
        by_cases e:j < i
        · simp only [if_pos e]
          have h1:=h j (by omega)
          have h2:=hd j i e hi
          omega
        · simp only [if_neg e]
          have h1:=h (j + 1) (by omega)
          have h2:=hd i (j + 1) (by omega) (by omega)
          omega) (fun j k hjk hk => by
        by_cases e:j < i
        · by_cases e2:k < i
          · simp only [if_pos e,if_pos e2]; exact hd j k hjk (by omega)
          · simp only [if_pos e,if_neg e2]; exact hd j (k + 1) (by omega) (by omega)
        · simp only [if_neg e,if_neg (show ¬ k < i by omega)]; exact hd (j + 1) (k + 1) (by omega) (by omega))
      omega
    · have:=pigeon g n f (fun i hi => by
        have h1:=h i hi
        have h2:f i ≠ g:=fun e => c ⟨i,hi,e⟩
        omega) hd
      omega
theorem mod_pow (a n:Nat):∀ k,(a % n) ^ k % n=a ^ k % n
  | 0 => rfl
  | k + 1 => by rw [Nat.pow_succ,Nat.pow_succ,Nat.mul_mod,mod_pow a n k,Nat.mod_mod,← Nat.mul_mod]
theorem lucas {n a:Nat} (hn:3 ≤ n) (L:List Nat) (h1:a ^ (n - 1) % n=1) (hL:∀ q ∈ L,∃ c,(a ^ ((n - 1) / q) % n + (n - 1)) * c % n=1) (hm:∀ m,m ∣ n - 1 → m ≠ 1 → ∃ q ∈ L,q ∣ m):Prm n:=by
  refine ⟨by omega,fun x x0 x1 => ?_⟩
  have d1:=Nat.gcd_dvd_left n x
  have d2:=Nat.gcd_dvd_right n x
  have gp:0 < Nat.gcd n x:=Nat.gcd_pos_of_pos_left _ (by omega)
  have gx:Nat.gcd n x ≤ x:=Nat.le_of_dvd x0 d2
  generalize Nat.gcd n x=g at *
  by_cases e:g=1
  · exact e
  exfalso
  have g2:2 ≤ g:=by omega
  have one:1 % g=1:=Nat.mod_eq_of_lt (by omega)
  have tog:∀ {y:Nat},y % n=1 → y % g=1:=by
    intro y hy
    rw [← Nat.mod_mod_of_dvd y d1,hy,one]
  have a1:=tog h1
  obtain ⟨d,⟨dp,hd⟩,dl⟩:=least (fun k => 0 < k ∧ a ^ k % g=1) (n - 1) ⟨by omega,a1⟩
  have mul1:∀ {u v:Nat},u % g=1 → u * v % g=v % g:=fun {u v} hu => by rw [Nat.mul_mod,hu,Nat.one_mul,Nat.mod_mod]
  have powd:∀ k,a ^ (d * k) % g=1:=by
    intro k
    rw [Nat.pow_mul,← mod_pow,hd,Nat.one_pow,one]
  have dd:d ∣ n - 1:=by
    have e1:=Nat.div_add_mod (n - 1) d
    have:a ^ ((n - 1) % d) % g=1:=by
      have h:=a1
      rw [← e1,Nat.pow_add,mul1 (powd _)] at h
      exact h
    by_cases z:(n - 1) % d=0
    · exact Nat.dvd_of_mod_eq_zero z
    · exact absurd ⟨by omega,this⟩ (dl _ (Nat.mod_lt _ dp))
  obtain ⟨m,hmd⟩:=dd
  have m1:m=1:=by
    by_cases m1:m=1
    · exact m1
    exfalso
    obtain ⟨q,hq,⟨s,hs⟩⟩:=hm m ⟨d,by rw [hmd,Nat.mul_comm]⟩ m1
    have q0:0 < q:=by
      rcases Nat.eq_zero_or_pos q with h|h
      · subst h; rw [hs,Nat.zero_mul,Nat.mul_zero] at hmd; omega
      · exact h
    obtain ⟨c,hc⟩:=hL q hq
    have e2:(n - 1) / q=d * s:=by
      rw [hmd,hs,show d * (q * s)=d * s * q by rw [Nat.mul_comm q s,Nat.mul_assoc],Nat.mul_div_cancel _ q0]
    rw [e2] at hc
    have h3:=tog hc
    obtain ⟨u,hu⟩:=d1
    have h4:(a ^ (d * s) % n + (n - 1)) % g=0:=by
      have h5:a ^ (d * s) % n % g=1:=by rw [Nat.mod_mod_of_dvd _ ⟨u,hu⟩]; exact powd s
      rw [Nat.add_mod,h5]
      have h6:(n - 1) % g=g - 1:=by
        have u0:0 < u:=by
          rcases Nat.eq_zero_or_pos u with h|h
          · subst h; omega
          · exact h
        obtain ⟨w,rfl⟩:∃ w,u=w + 1:=⟨u - 1,by omega⟩
        rw [show n - 1=g - 1 + g * w by rw [hu,Nat.mul_succ]; omega,Nat.add_mul_mod_self_left]
        exact Nat.mod_eq_of_lt (by omega)
      rw [h6,show 1 + (g - 1)=g by omega,Nat.mod_self]
    rw [Nat.mul_mod,h4,Nat.zero_mul,Nat.zero_mod] at h3
    omega
  have dn:d=n - 1:=by rw [hmd,m1,Nat.mul_one]
  have inj:∀ i j,i < j → j < n - 1 → a ^ i % g ≠ a ^ j % g:=by
    intro i j hij hj he
    have h7:a ^ (j - i) % g=1:=by
      have k1:a ^ (n - 1 - i) * a ^ i % g=1:=by rw [← Nat.pow_add,show n - 1 - i + i=n - 1 by omega]; exact a1
      have k2:a ^ (n - 1 - i) * a ^ j % g=a ^ (j - i) % g:=by
        rw [show j=i + (j - i) by omega,Nat.pow_add,← Nat.mul_assoc,mul1 k1,show i + (j - i) - i=j - i by omega]
      rw [← k2,Nat.mul_mod,← he,← Nat.mul_mod,k1]
    exact dl (j - i) (by omega) ⟨by omega,h7⟩
  have nz:∀ i,i < n - 1 → a ^ i % g ≠ 0:=by
    intro i hi h0
    have k1:a ^ (n - 1 - i) * a ^ i % g=1:=by rw [← Nat.pow_add,show n - 1 - i + i=n - 1 by omega]; exact a1
    rw [Nat.mul_mod,h0,Nat.mul_zero,Nat.zero_mod] at k1
    omega
  have:=pigeon (g - 1) (n - 1) (fun i => a ^ i % g - 1) (fun i hi => by have:=nz i hi; have:=Nat.mod_lt (a ^ i) gp; omega) (fun i j hij hj he => by
    have h8:=inj i j hij hj
    have h9:=nz i (by omega)
    have h10:=nz j hj
    omega)
  omega
def pm2 (n:Nat):Nat → Nat → Nat → Nat
  | 0,_,_ => 1 % n
  | k + 1,a,e => if e % 2=1 then a * pm2 n k (a * a % n) (e / 2) % n else pm2 n k (a * a % n) (e / 2)
theorem pm2_eq (n:Nat):∀ (k a e:Nat),e < 2 ^ k → pm2 n k a e=a ^ e % n
  | 0, a, e, h => by obtain rfl : e = 0 := by omega
                     rfl
  | k + 1,a,e,h => by
    have h2:e / 2 < 2 ^ k:=by rw [Nat.pow_succ] at h; omega
    have e1:a ^ e=(a * a) ^ (e / 2) * a ^ (e % 2):=by
      rw [show a * a=a ^ 2 by rw [Nat.pow_succ,Nat.pow_succ,Nat.pow_zero,Nat.one_mul],← Nat.pow_mul,← Nat.pow_add]
      congr 1; omega
    rw [pm2,pm2_eq n k _ _ h2,mod_pow]
    rcases Nat.mod_two_eq_zero_or_one e with c|c
    · rw [if_neg (by omega),e1,c,Nat.pow_zero,Nat.mul_one]
    · rw [if_pos c,e1,c,Nat.pow_one,Nat.mul_comm,Nat.mod_mul_mod]
theorem prime_div {q:Nat} (h:(List.range (q + 1)).all (fun d => d == 1 || d == q || q % d != 0)=true) (hq:2 ≤ q) {m:Nat} (hm:¬ q ∣ m):Nat.gcd m q=1:=by
  have d1:=Nat.gcd_dvd_left m q
  have d2:=Nat.gcd_dvd_right m q
  have:=List.all_eq_true.1 h (Nat.gcd m q) (List.mem_range.2 (by have:=Nat.le_of_dvd (by omega) d2; omega))
  simp only [Bool.or_eq_true,beq_iff_eq,bne_iff_ne] at this
  rcases this with (h1|h1)|h1
  · exact h1
  · exact absurd (h1 ▸ d1) hm
  · exact absurd (Nat.mod_eq_zero_of_dvd d2) h1
theorem lucas' {n a k:Nat} (hn:3 ≤ n) (hk:n ≤ 2 ^ k) (L:List (Nat × Nat)) (h1:pm2 n k a (n - 1)=1) (hL:L.all (fun w => (pm2 n k a ((n - 1) / w.1) + (n - 1)) * w.2 % n == 1)=true) (hm:∀ m,m ∣ n - 1 → m ≠ 1 → ∃ q ∈ L.map (·.1),q ∣ m):Prm n:=by
  refine lucas (a:=a) hn (L.map (·.1)) (by rw [← pm2_eq n k _ _ (by omega)]; exact h1) (fun q hq => ?_) hm
  obtain ⟨w,hw,rfl⟩:=List.mem_map.1 hq
  refine ⟨w.2,?_⟩
  rw [← pm2_eq n k _ _ (by have:=Nat.div_le_self (n - 1) w.1; omega)]
  have:=List.all_eq_true.1 hL w hw
  simpa using this
def wit61:List (Nat × Nat):=[(2,1152921504606846975),(3,212086872990781878),(5,1436392118636136522),(7,62135951423208583),(11,2117382201747708966),(13,1243296897272292213),(31,42235654463646013),(41,730874616585150915),(61,329365932848850065),(151,68233547637592170),(331,1960352316127796739),(1321,2165998172066445805)]
def fac61:List Nat:=wit61.map (·.1)
theorem prm61:Prm 2305843009213693951:=by
  refine lucas' (a:=37) (k:=62) (by decide) (by decide) wit61 (by decide +kernel) (by decide +kernel) ?_
  · intro m hm h1
    show ∃ q ∈ fac61,q ∣ m
    by_cases c:∃ q ∈ fac61,q ∣ m
    · exact c
    exfalso
    have cop:∀ q ∈ fac61,Nat.gcd m q=1:=by
      intro q hq
      have hn:¬ q ∣ m:=fun h => c ⟨q,hq,h⟩
      have hall:fac61.all (fun q => (List.range (q + 1)).all (fun d => d == 1 || d == q || q % d != 0) && decide (2 ≤ q))=true:=by decide +kernel
      have:=List.all_eq_true.1 hall q hq
      rw [Bool.and_eq_true,decide_eq_true_eq] at this
      exact prime_div this.1 this.2 hn
    have e:(2305843009213693951 - 1:Nat)=2 * (3 * (3 * (5 * (5 * (7 * (11 * (13 * (31 * (41 * (61 * (151 * (331 * 1321)))))))))))):=by decide
    have cm:∀ {u v:Nat},Nat.gcd m u=1 → Nat.gcd m v=1 → Nat.gcd m (u * v)=1:=fun {u v} h1 h2 => Nat.Coprime.mul_right h1 h2
    have:Nat.gcd m (2305843009213693951 - 1)=1:=by
      rw [e]
      have k:=fun q hq => cop q hq
      exact cm (k 2 (by decide)) (cm (k 3 (by decide)) (cm (k 3 (by decide)) (cm (k 5 (by decide)) (cm (k 5 (by decide)) (cm (k 7 (by decide)) (cm (k 11 (by decide)) (cm (k 13 (by decide)) (cm (k 31 (by decide)) (cm (k 41 (by decide)) (cm (k 61 (by decide)) (cm (k 151 (by decide)) (cm (k 331 (by decide)) (k 1321 (by decide))))))))))))))
    rw [Nat.gcd_eq_left hm] at this
    exact h1 this
end Go.Proofs.Ytmalpmnmknpphaa.TM
namespace Go.Proofs.Ytmalpmnmknpphaa.TM
open Go Go.RowKit
attribute [local irreducible] K W WOps Effs Xg Xo Xr Xdg Xdo Xdr Xif CallsP CallR
def clmP (s:Name) (n:Nat):PV:=if n=0 then nilP else .view s 0 1 n n
def clmB (n:Nat) (L:List PV):Option Box:=if n=0 then none else some (.var L)
theorem clmP_zero (s:Name):clmP s 0=nilP:=rfl
theorem clmP_succ (s:Name) (n:Nat):clmP s (n + 1)=.view s 0 1 (n + 1) (n + 1):=rfl
theorem mem_refs_clmP {b s:Name} {n:Nat}:b ∈ refsP (clmP s n) ↔ n ≠ 0 ∧ b=s:=by
  unfold clmP
  by_cases h:n=0
  · simp [h,refsP]
  · simp [h,refsP]
theorem X_appendV {P : Program} {C : CallRel} {h h0 : Heap} {base : Name} {Qf : Ex → List PV → Heap → Prop} {k : List It} {t : List PV} {R : It} {d : Option Tmp} {s b : Name} {ty : TypeId} (e : TypeId) (zs : List Value) {n : Nat} {L : List PV} {v : PV} {s' : Name}
    (he:elemB P ty=some e) (hz:zeroB P e=some zs) (hzl:zs.length=1) (hn:L.length=n) (hs:h s=clmB n L) (hb:h b=some (.var [v]))
    (hby:(n + 1) * P.bytesOf e ≤ 140737488355328) (hl:n + 1 ≤ maxLen) (hss:n=0 → s'=s)
    (hk:K P C h0 base Qf (R::k) .normal (putT t d (clmP s (n + 1))) (h.put s (.var (L ++ [v])))) :
    Xr P C h0 base Qf (opAppendV P h s' ty (clmP s n) (.view b 0 1 1 1)) d R k t h:=by
  refine Xr_eq (out:=⟨clmP s (n + 1),[(s,.var (L ++ [v]))]⟩) ?_ hk
  unfold opAppendV
  rw [he]
  simp only [hz,hzl,hb]
  rw [if_pos (by simp)]
  unfold clmP clmB at *
  by_cases h0:n=0
  · subst h0
    rw [if_pos rfl] at hs
    have:=List.eq_nil_of_length_eq_zero hn
    subst this
    have:=hss rfl
    subst this
    simp only [if_true,nilP]
    rw [if_pos (by rw [mx_len]; simpa using hby)]
    simp [newBox,hs]
  · rw [if_neg h0] at hs ⊢
    simp only [hs]
    rw [if_pos (by simp [hn]; exact ⟨hby,hl⟩)]
    simp [hn]
theorem X_dappend_own {P : Program} {C : CallRel} {h0 : Heap} {base : Name} {Qf : Ex → List PV → Heap → Prop} {k : List It} {t : List PV} {h : Heap} {d : Option Tmp} {p : Op} {nm : Name} {id : Nat} {ops : Array Oper} {ds : List (Option Tmp)} {i : Nat} {os : List Oper} {pf : XPf ops ds i os} {acc : List Keys} {s b bx : Name} {ty : TypeId} (e : TypeId) (zs : List Value) {n z top : Nat} {cs : List IV} (xs : List IV) {fz : Bool}
    (he:elemB P ty=some e) (hz:zeroB P e=some zs) (hzl:zs.length=z) (hz0:0 < z) (hb:h b=some (.row false cs)) (ht:top=cs.length) (hn:cs.length=n * z) (hx:h bx=some (.row fz xs)) (hxl:xs.length=z)
    (hby:(n + 1) * P.bytesOf e ≤ 140737488355328) (hl:n + 1 ≤ maxLen)
    (hk:K P C h0 base Qf (.xdops id ops ds i os pf ((keysU [(b,Box.row false (cs ++ xs))],keysT nm p ((opnL p).map (St.opnd t)))::acc)::k) .normal (putT t d (.view b 0 z (n + 1) (cs ++ xs).length)) (h.put b (.row false (cs ++ xs)))) :
    Xdr P C h0 base Qf (opAppend P h s ty (.view b 0 z n top) (.view bx 0 z 1 z)) d p nm (mkD id ops ds i os pf) acc k t h:=by
  subst ht
  subst hzl
  refine Xdr_eq (out:=⟨.view b 0 zs.length (n + 1) (cs ++ xs).length,[(b,.row false (cs ++ xs))]⟩) ?_ hk
  unfold opAppend
  rw [he]
  simp only [hz]
  simp only [show (PV.view b 0 zs.length n cs.length).sk=some (SK.own b 0 zs.length n cs.length) from rfl,show (PV.view bx 0 zs.length 1 zs.length).sk=some (SK.own bx 0 zs.length 1 zs.length) from rfl,SK.cells,SK.len,hx,hxl,Nat.zero_add,Nat.one_mul,Nat.le_refl,and_self,if_true,List.drop_zero]
  rw [← hxl,List.take_length,if_pos ⟨hxl ▸ hz0,hby,hl⟩,if_neg (by omega),hb]
  simp only [hxl,hn,and_self,if_true,true_and]
abbrev lv (C:Nat) (u:List Int):IV:=.l C (u.map iu)
def cupH (h:Heap) (base bT:Name) (P C i:Nat) (L:List PV) (T T':Tk) (r:Nat):Heap :=
  rowH (rowH (rowH (rowH (rowH ((h.put ((3,2)::bT) (.var [rowP ((16,11)::base) 1 r (T'.rows.map ii),rowP ((16,19)::base) 1 r (T'.cols.map ii),clmP ((10,8)::base) (i + 1),rowP ((16,27)::base) 1 r (T'.us.map (lv C)),u64 P,rowP ((16,34)::base) 1 r (T'.vs.map iu)])).put ((10,8)::base) (.var (L ++ [rowP ((900,i)::base) 1 (T'.cs.getD i []).length ((T'.cs.getD i []).map iu)])))
    ((900,i)::base) (T'.cs.getD i []).length ((T'.cs.getD i []).map iu)) ((16,11)::base) r (T'.rows.map ii)) ((16,19)::base) r (T'.cols.map ii)) ((16,27)::base) r (T'.us.map (lv C))) ((16,34)::base) r (T'.vs.map iu)
theorem in_w64 {p a:Int} (hp:Md p) (h:In p a):W64 a:=⟨h.1,by have:=h.2; have:=hp.2; omega⟩
theorem prm_gcd {P:Nat} (hP:Prm P) {a:Int} (h:In P a) (h0:a ≠ 0):Int.gcd P a=1:=by
  have:=hP.2 a.toNat (by have:=h.1; omega) (by have:=h.1; have:=h.2; omega)
  rw [Int.gcd_eq_natAbs_gcd_natAbs]
  rw [show (P:Int).natAbs=P from rfl,show a.natAbs=a.toNat by have:=h.1; omega]
  exact this
theorem Inv_in {P:Nat} (hP:Prm P) (hp:Md P) {a:Int} (h:In P a) (h0:a ≠ 0):CallsP Try.prog 109 [u64 P,u64 a] (.tup [u64 (finvC P a),i64 0]):=by
  obtain ⟨r,hr,hc⟩:=Inv_walk P a (in_w64 hp h)
  rw [if_pos ((has_iff _ _).2 ⟨fun x hx => by simp at hx; subst hx; exact h.2,hp.1,hp.2⟩),invR,if_pos (prm_gcd hP h h0)] at hr
  subst hr
  rw [← finv_c]
  exact hc
theorem tk_end {p:Int} {C i:Nat} {T:Tk} (I:TkI p C i T) (row:List Int) (x:Int) (hi:x=(i:Int)) :
    (nzA (rstT p T row) 0 < 0 → (tkRow p T x row).cs.getD i []=xsT p T row) ∧ (¬ nzA (rstT p T row) 0 < 0 → (tkRow p T x row).cs.getD i []=xsT p T row ++ [1]):=by
  unfold tkRow
  constructor
  · intro h
    rw [if_pos h]
    simp [List.getD_eq_getElem?_getD,List.getElem?_append_right,I.cl]
  · intro h
    rw [if_neg h]
    simp [List.getD_eq_getElem?_getD,List.getElem?_append_right,I.cl]
theorem nv_col {h:Heap} {s:Name} {i:Nat} {L:List PV} {bs:List Name} (hCol:h s=clmB i L) (hL:L.length=i) (nv:∀ b ∈ bs,noVar b h):∀ b ∈ bs,b ∉ refsL L:=fun b hb => by
  unfold clmB at hCol
  split at hCol
  · rename_i h0
    have:L=[]:=List.eq_nil_of_length_eq_zero (by omega)
    subst this; simp [refsL]
  · exact nv b hb _ _ hCol
theorem tk_no {p:Int} {T:Tk} {row:List Int} {x:Int} (h:nzA (rstT p T row) 0 < 0):(tkRow p T x row).rows=T.rows ∧ (tkRow p T x row).cols=T.cols ∧ (tkRow p T x row).us=T.us ∧ (tkRow p T x row).vs=T.vs:=by
  unfold tkRow; rw [if_pos h]; exact ⟨rfl,rfl,rfl,rfl⟩
theorem tk_yes {p:Int} {T:Tk} {row:List Int} {x:Int} (h:¬ nzA (rstT p T row) 0 < 0):(tkRow p T x row).rows=T.rows ++ [x] ∧ (tkRow p T x row).cols=T.cols ++ [nzA (rstT p T row) 0] ∧ (tkRow p T x row).us=T.us ++ [rstT p T row] ∧ (tkRow p T x row).vs=T.vs ++ [finvC p ((rstT p T row).getD (nzA (rstT p T row) 0).toNat 0)]:=by
  unfold tkRow; rw [if_neg h]; exact ⟨rfl,rfl,rfl,rfl⟩
set_option maxHeartbeats 4000000 in
theorem rowA0_walk {h : Heap} {base bT : Name} {P C i : Nat} {T : Tk} {row : List Int} {L : List PV} (hP : Prm P) (hp : Md P) (I : TkI P C i T) (hrow : ∀ a ∈ row, In P a) (hl : row.length = C) (h0 : 0 < C) (hC : C ≤ 64) (hi : i < 64) (hL : L.length = i) (hr : T.us.length = 0)
    (hT:h ((3,2)::bT)=some (.var [rowP ((16,11)::base) 1 0 (T.rows.map ii),rowP ((16,19)::base) 1 0 (T.cols.map ii),clmP ((10,8)::base) i,rowP ((16,27)::base) 1 0 (T.us.map (lv C)),u64 P,rowP ((16,34)::base) 1 0 (T.vs.map iu)]))
    (hR:h ((16,11)::base)=if 0=0 then none else some (.row false (T.rows.map ii))) (hQ:h ((16,19)::base)=if 0=0 then none else some (.row false (T.cols.map ii))) (hU:h ((16,27)::base)=if 0=0 then none else some (.row false (T.us.map (lv C)))) (hV:h ((16,34)::base)=if 0=0 then none else some (.row false (T.vs.map iu)))
    (hCol:h ((10,8)::base)=clmB i L) (hNi:h ((900,i)::base)=none)
    (j1:h ((1,1)::base)=none) (j2:h ((8,2)::base)=none) (j3:h ((10,7)::base)=none) (j4:h ((15,7)::base)=none) (j5:h ((16,10)::base)=none) (j6:h ((16,18)::base)=none) (j7:h ((16,26)::base)=none) (j8:h ((16,33)::base)=none)
    (nv:∀ b ∈ [(1,1)::base,(8,2)::base,(10,7)::base,(15,7)::base,(16,10)::base,(16,18)::base,(16,26)::base,(16,33)::base],noVar b h) :
    ∃ h',CallR Try.prog base 98 [.ref ((3,2)::bT) 0 6,i64 i,.i (.l C (row.map iu))] h (bl true) h' ∧ (h'.drop [(1,1)::base,(8,2)::base,(10,7)::base,(15,7)::base,(16,10)::base,(16,18)::base,(16,26)::base,(16,33)::base]=cupH h base bT P C i L T (tkRow P T i row) (tkRow P T i row).us.length ∧ ∀ b ∈ [(1,1)::base,(8,2)::base,(10,7)::base,(15,7)::base,(16,10)::base,(16,18)::base,(16,26)::base,(16,33)::base],noVar b h'):=by
  have nvL:=nv_col hCol hL nv
  have dc:=(cloneU_own hl h0 (by omega)).toA
  have rl:(rstT P T row)=row:=by unfold rstT; rw [hr]; rfl
  have x0:xsT P T row=[]:=by unfold xsT; rw [hr]; rfl
  have hix:=indexA_walk (l:=row) (by rw [mx_len]; omega)
  rw [lu,hl] at hix
  have hrows:T.rows=[]:=List.eq_nil_of_length_eq_zero (by rw [I.rl,hr])
  have hcols:T.cols=[]:=List.eq_nil_of_length_eq_zero (by rw [I.ql,hr])
  have hvs:T.vs=[]:=List.eq_nil_of_length_eq_zero (by rw [I.vl,hr])
  have hus:T.us=[]:=List.eq_nil_of_length_eq_zero hr
  obtain ⟨te1,te2⟩:=tk_end I row (i:Int) rfl
  rw [rl,x0] at te1 te2
  rw [if_pos rfl] at hR hQ hU hV
  rcases nzA_spec row 0 with ⟨z1,z2⟩|⟨n,z1,z2,z3,z4⟩
  · rw [z1] at hix
    have te:=te1 (by rw [z1]; decide)
    obtain ⟨t1,t2,t3,t4⟩:=tk_no (p:=P) (T:=T) (row:=row) (x:=i) (by rw [rl,z1]; decide)
    unfold cupH
    rw [te,t1,t2,t3,t4,hr]
    refine X_startE (n:=151) (m:=3) (rs:=[.tmp 6]) Try.func98 rfl rfl rfl rfl (by decide) ?_
    repeat (first|refine X_opc rfl ?_|refine X_dopc rfl ?_|refine ⟨(by show drawK _ _=true; kernel_rfl:drawX _ _ _),?_⟩|exact (by show drawK _ _=true; kernel_rfl:drawX _ _ _)|simp -dsimp (maxSteps:=20000000) (disch:=omega) only [simx,zzC,zzB,tys,ite_self,opnL,callB,callX,readsB,stepOp,nilCmp,ofVal,opBuiltin,opLen,PV.sk,scalBin,scalUn,intBin,opLoad,natOf,opConvert,opField,cellsP,oneP,Value.oneCell',opStore,toIV,scalT,scalA,scalC,boxesA,boxesC,zipB_none,zipB_mx,isZ,opZip,zeroP,opAppendZ,opMakeMap,opLookup,mboxB,opUpdate,↓reduceIte,Nat.reduceSub,Nat.reduceEqDiff,Nat.reduceAdd,Nat.reduceMul,Nat.reduceLT,Nat.reduceLeDiff,Int.reduceToNat,Int.reduceLE,Int.reduceLT,Int.reduceNeg,reduceCtorEq,gos,Int.reduceAdd,Int.reduceSub,Int.reduceMul,Int.reduceEq])
    ((first|refine X_call_ad (dc) rfl (by simp only [tys]) (by (simp -dsimp only [simx,zzC,zzB,tys,ite_self,opnL,callB,callX,readsB,stepOp,nilCmp,ofVal,opBuiltin,opLen,PV.sk,scalBin,scalUn,intBin,opLoad,natOf,opConvert,opField,cellsP,oneP,Value.oneCell',opStore,toIV,scalT,scalA,scalC,boxesA,boxesC,zipB_none,zipB_mx,isZ,opZip,zeroP,opAppendZ,opMakeMap,opLookup,mboxB,opUpdate,↓reduceIte,Nat.reduceSub,Nat.reduceEqDiff,Nat.reduceAdd,Nat.reduceMul,Nat.reduceLT,Nat.reduceLeDiff,Int.reduceToNat,Int.reduceLE,Int.reduceLT,Int.reduceNeg,reduceCtorEq,zzL,if_true,if_false] <;> rfl)) (by simp [Heap.put_at,Heap.none_at,rowH_app,j1]) ?_|refine X_dcall_ad (dc) rfl (by simp only [tys]) (by (simp -dsimp only [simx,zzC,zzB,tys,ite_self,opnL,callB,callX,readsB,stepOp,nilCmp,ofVal,opBuiltin,opLen,PV.sk,scalBin,scalUn,intBin,opLoad,natOf,opConvert,opField,cellsP,oneP,Value.oneCell',opStore,toIV,scalT,scalA,scalC,boxesA,boxesC,zipB_none,zipB_mx,isZ,opZip,zeroP,opAppendZ,opMakeMap,opLookup,mboxB,opUpdate,↓reduceIte,Nat.reduceSub,Nat.reduceEqDiff,Nat.reduceAdd,Nat.reduceMul,Nat.reduceLT,Nat.reduceLeDiff,Int.reduceToNat,Int.reduceLE,Int.reduceLT,Int.reduceNeg,reduceCtorEq,zzL,if_true,if_false] <;> rfl)) (by simp [Heap.put_at,Heap.none_at,rowH_app,j1]) ?_))
    repeat (first|refine X_opc rfl ?_|refine X_dopc rfl ?_|refine ⟨(by show drawK _ _=true; kernel_rfl:drawX _ _ _),?_⟩|exact (by show drawK _ _=true; kernel_rfl:drawX _ _ _)|simp -dsimp (maxSteps:=20000000) (disch:=omega) only [simx,zzC,zzB,tys,ite_self,opnL,callB,callX,readsB,stepOp,nilCmp,ofVal,opBuiltin,opLen,PV.sk,scalBin,scalUn,intBin,opLoad,natOf,opConvert,opField,cellsP,oneP,Value.oneCell',opStore,toIV,scalT,scalA,scalC,boxesA,boxesC,zipB_none,zipB_mx,isZ,opZip,zeroP,opAppendZ,opMakeMap,opLookup,mboxB,opUpdate,↓reduceIte,Nat.reduceSub,Nat.reduceEqDiff,Nat.reduceAdd,Nat.reduceMul,Nat.reduceLT,Nat.reduceLeDiff,Int.reduceToNat,Int.reduceLE,Int.reduceLT,Int.reduceNeg,reduceCtorEq,gos,Int.reduceAdd,Int.reduceSub,Int.reduceMul,Int.reduceEq,hT,rowP_zero])
    refine X_loopH [0,1,7,8,22,23,24] [(8,2)::base] (0) (0) (fun j => True) (fun j => [(8,nilP),(24,i64 j)]) (fun j => h.put ((1,1)::base) (.row false (row.map iu))) ?_ ?_ ?_ ?_ ?_ (by decide) ?_
    · exact fgt_cons j2 (by simp -dsimp only [simx,zzC,zzB,tys,ite_self,opnL,notIn_cons,notIn_nil] <;> simp [refsP]) (noVar_row (nv _ (by simp))) fgt_nil
    · repeat (first|refine X_opc rfl ?_|refine X_dopc rfl ?_|refine ⟨(by show drawK _ _=true; kernel_rfl:drawX _ _ _),?_⟩|exact (by show drawK _ _=true; kernel_rfl:drawX _ _ _)|simp -dsimp (maxSteps:=20000000) (disch:=omega) only [simx,zzC,zzB,tys,ite_self,opnL,callB,callX,readsB,stepOp,nilCmp,ofVal,opBuiltin,opLen,PV.sk,scalBin,scalUn,intBin,opLoad,natOf,opConvert,opField,cellsP,oneP,Value.oneCell',opStore,toIV,scalT,scalA,scalC,boxesA,boxesC,zipB_none,zipB_mx,isZ,opZip,zeroP,opAppendZ,opMakeMap,opLookup,mboxB,opUpdate,↓reduceIte,Nat.reduceSub,Nat.reduceEqDiff,Nat.reduceAdd,Nat.reduceMul,Nat.reduceLT,Nat.reduceLeDiff,Int.reduceToNat,Int.reduceLE,Int.reduceLT,Int.reduceNeg,reduceCtorEq,gos,Int.reduceAdd,Int.reduceSub,Int.reduceMul,Int.reduceEq])
      rfl
    · funext c
      rw [Heap.drop_at]
      split
      · rename_i e
        rw [List.mem_singleton.1 e]
        simp [Heap.put_at,j2]
      · rfl
    · omega
    · trivial
    · intro j hj _
      have:j=0:=by omega
      subst this
      repeat (first|refine ⟨(by show drawK _ _=true; kernel_rfl:drawX _ _ _),?_⟩|exact (by show drawK _ _=true; kernel_rfl:drawX _ _ _)|simp -dsimp (maxSteps:=20000000) (disch:=omega) only [simx,zzC,zzB,tys,ite_self,opnL,callB,callX,readsB,stepOp,nilCmp,ofVal,opBuiltin,opLen,PV.sk,scalBin,scalUn,intBin,opLoad,natOf,opConvert,opField,cellsP,oneP,Value.oneCell',opStore,toIV,scalT,scalA,scalC,boxesA,boxesC,zipB_none,zipB_mx,isZ,opZip,zeroP,opAppendZ,opMakeMap,opLookup,mboxB,opUpdate,↓reduceIte,Nat.reduceSub,Nat.reduceEqDiff,Nat.reduceAdd,Nat.reduceMul,Nat.reduceLT,Nat.reduceLeDiff,Int.reduceToNat,Int.reduceLE,Int.reduceLT,Int.reduceNeg,reduceCtorEq,gos,Int.reduceAdd,Int.reduceSub,Int.reduceMul,Int.reduceEq,hT])
      refine X_opa ((10,7)::base) rfl ?_
      repeat (first|refine ⟨(by show drawK _ _=true; kernel_rfl:drawX _ _ _),?_⟩|exact (by show drawK _ _=true; kernel_rfl:drawX _ _ _)|simp -dsimp (maxSteps:=20000000) (disch:=omega) only [simx,zzC,zzB,tys,ite_self,opnL,callB,callX,readsB,stepOp,nilCmp,ofVal,opBuiltin,opLen,PV.sk,scalBin,scalUn,intBin,opLoad,natOf,opConvert,opField,cellsP,oneP,Value.oneCell',opStore,toIV,scalT,scalA,scalC,boxesA,boxesC,zipB_none,zipB_mx,isZ,opZip,zeroP,opAppendZ,opMakeMap,opLookup,mboxB,opUpdate,↓reduceIte,Nat.reduceSub,Nat.reduceEqDiff,Nat.reduceAdd,Nat.reduceMul,Nat.reduceLT,Nat.reduceLeDiff,Int.reduceToNat,Int.reduceLE,Int.reduceLT,Int.reduceNeg,reduceCtorEq,gos,Int.reduceAdd,Int.reduceSub,Int.reduceMul,Int.reduceEq,stepAlt,opBuildSliceV,j3])
      refine X_opa ((10,8)::base) rfl ?_
      repeat (first|refine ⟨(by show drawK _ _=true; kernel_rfl:drawX _ _ _),?_⟩|exact (by show drawK _ _=true; kernel_rfl:drawX _ _ _)|simp -dsimp (maxSteps:=20000000) (disch:=omega) only [simx,zzC,zzB,tys,ite_self,opnL,callB,callX,readsB,stepOp,nilCmp,ofVal,opBuiltin,opLen,PV.sk,scalBin,scalUn,intBin,opLoad,natOf,opConvert,opField,cellsP,oneP,Value.oneCell',opStore,toIV,scalT,scalA,scalC,boxesA,boxesC,zipB_none,zipB_mx,isZ,opZip,zeroP,opAppendZ,opMakeMap,opLookup,mboxB,opUpdate,↓reduceIte,Nat.reduceSub,Nat.reduceEqDiff,Nat.reduceAdd,Nat.reduceMul,Nat.reduceLT,Nat.reduceLeDiff,Int.reduceToNat,Int.reduceLE,Int.reduceLT,Int.reduceNeg,reduceCtorEq,gos,Int.reduceAdd,Int.reduceSub,Int.reduceMul,Int.reduceEq,stepAlt])
      refine X_appendV 23 [.slice none 0 0] (by simp only [tys]) (by simp only [tys]) rfl hL (by simp [Heap.put_at]; exact hCol) (by simp [Heap.put_at]; rfl) (by simp only [tys]; omega) (by rw [mx_len]; omega) (fun _ => rfl) ?_
      have hp1:=clmP_succ ((10,8)::base) i
      have z0:(-1:Int) < 0:=by decide
      have nt:(row.map iu).take C=row.map iu:=List.take_of_length_le (by simp [hl])
      repeat (first|((first|refine X_call_fn2 rfl (by simp only [tys]) ?_|refine X_dcall_fn2 rfl (by simp only [tys]) ?_); apply Exists.intro; apply And.intro; (focus (simp -dsimp only [simx,zzC,zzB,tys,ite_self,opnL,callB,callX,readsB,stepOp,nilCmp,ofVal,opBuiltin,opLen,PV.sk,scalBin,scalUn,intBin,opLoad,natOf,opConvert,opField,cellsP,oneP,Value.oneCell',opStore,toIV,scalT,scalA,scalC,boxesA,boxesC,zipB_none,zipB_mx,isZ,opZip,zeroP,opAppendZ,opMakeMap,opLookup,mboxB,opUpdate,↓reduceIte,Nat.reduceSub,Nat.reduceEqDiff,Nat.reduceAdd,Nat.reduceMul,Nat.reduceLT,Nat.reduceLeDiff,Int.reduceToNat,Int.reduceLE,Int.reduceLT,Int.reduceNeg,reduceCtorEq,zzL,if_true,if_false,List.length_map,hl,nt] <;> rfl)); apply Exists.intro; apply And.intro; (focus (first|exact hix)))|refine X_opc rfl ?_|refine X_dopc rfl ?_|refine ⟨(by show drawK _ _=true; kernel_rfl:drawX _ _ _),?_⟩|exact (by show drawK _ _=true; kernel_rfl:drawX _ _ _)|simp -dsimp (maxSteps:=20000000) (disch:=omega) only [simx,zzC,zzB,tys,ite_self,opnL,callB,callX,readsB,stepOp,nilCmp,ofVal,opBuiltin,opLen,PV.sk,scalBin,scalUn,intBin,opLoad,natOf,opConvert,opField,cellsP,oneP,Value.oneCell',opStore,toIV,scalT,scalA,scalC,boxesA,boxesC,zipB_none,zipB_mx,isZ,opZip,zeroP,opAppendZ,opMakeMap,opLookup,mboxB,opUpdate,↓reduceIte,Nat.reduceSub,Nat.reduceEqDiff,Nat.reduceAdd,Nat.reduceMul,Nat.reduceLT,Nat.reduceLeDiff,Int.reduceToNat,Int.reduceLE,Int.reduceLT,Int.reduceNeg,reduceCtorEq,zzR,gos,Int.reduceAdd,Int.reduceSub,Int.reduceMul,Int.reduceEq,hT,hp1,z0,List.length_map,hl,nt])
      refine ⟨?_,fun b hb => ?_⟩
      · funext c
        simp (maxSteps:=20000000) only [Heap.drop_at,rowH_app,Heap.put_at,Heap.none_at,List.mem_cons,List.not_mem_nil,or_false]
        by_cases e0:c=(3,2)::bT
        · subst e0; simp [j1,j2,j3,j4,j5,j6,j7,j8,rowP_zero]
        by_cases e1:c=(10,8)::base
        · subst e1; simp [j1,j2,j3,j4,j5,j6,j7,j8,rowP_zero]
        by_cases e2:c=(1,1)::base
        · subst e2; simp [j1,j2,j3,j4,j5,j6,j7,j8,rowP_zero]
        by_cases e3:c=(8,2)::base
        · subst e3; simp [j1,j2,j3,j4,j5,j6,j7,j8,rowP_zero]
        by_cases e4:c=(10,7)::base
        · subst e4; simp [j1,j2,j3,j4,j5,j6,j7,j8,rowP_zero]
        by_cases e5:c=(15,7)::base
        · subst e5; simp [j1,j2,j3,j4,j5,j6,j7,j8,rowP_zero]
        by_cases e6:c=(16,10)::base
        · subst e6; simp [j1,j2,j3,j4,j5,j6,j7,j8,rowP_zero]
        by_cases e7:c=(16,18)::base
        · subst e7; simp [j1,j2,j3,j4,j5,j6,j7,j8,rowP_zero]
        by_cases e8:c=(16,26)::base
        · subst e8; simp [j1,j2,j3,j4,j5,j6,j7,j8,rowP_zero]
        by_cases e9:c=(16,33)::base
        · subst e9; simp [j1,j2,j3,j4,j5,j6,j7,j8,rowP_zero]
        simp [e0,e1,e2,e3,e4,e5,e6,e7,e8,e9,j1,j2,j3,j4,j5,j6,j7,j8,rowP_zero]
      · have n0:=nv b hb
        have n1:=nvL b hb
        clear nv nvL
        simp only [List.mem_cons,List.not_mem_nil,or_false] at hb
        rcases hb with rfl|rfl|rfl|rfl|rfl|rfl|rfl|rfl
        all_goals (repeat (first|exact n0|refine noVar_row ?_|refine noVar_var ?_ (by simp [refsL,refsP,refsL_append,mem_refs_rowP,mem_refs_clmP,n1])))
  · have zn:(0 + n:Nat)=n:=by omega
    rw [z1,zn] at hix
    have te:=te2 (by rw [z1]; omega)
    obtain ⟨t1,t2,t3,t4⟩:=tk_yes (p:=P) (T:=T) (row:=row) (x:=i) (by rw [rl,z1]; omega)
    generalize hHH:cupH h base bT P C i L T (tkRow P T i row) (tkRow P T i row).us.length=HH
    unfold cupH at hHH
    rw [te,t1,t2,t3,t4,rl,z1,zn,show (T.us ++ [row]).length=0 + 1 by simp [hr],Int.toNat_natCast] at hHH
    have ln:(row.map iu)[n]?=some (iu (row.getD n 0)):=by rw [List.getElem?_map,getD_some hl (by omega)]; rfl
    have ii1:=Inv_in hP hp (getD_of hrow (i:=n) z2) z3
    generalize row.getD n 0=a at ln ii1 hHH
    have z0:¬ (n:Int) < 0:=by omega
    have nC:n < C:=by omega
    have nt:(row.map iu).take C=row.map iu:=List.take_of_length_le (by simp [hl])
    have hp1:=clmP_succ ((10,8)::base) i
    have ilt:i < i + 1:=Nat.lt_succ_self i
    have ile:i + 1 ≤ i + 1:=Nat.le_refl _
    have lt:∀ x:PV,(L ++ [x]).take i=L:=fun x => List.take_left' hL
    have ld:∀ x:PV,(L ++ [x]).drop (i + 1)=[]:=fun x => List.drop_eq_nil_of_le (by simp [hL])
    refine X_startE (n:=151) (m:=3) (rs:=[.tmp 6]) Try.func98 rfl rfl rfl rfl (by decide) ?_
    repeat (first|refine X_opc rfl ?_|refine X_dopc rfl ?_|refine ⟨(by show drawK _ _=true; kernel_rfl:drawX _ _ _),?_⟩|exact (by show drawK _ _=true; kernel_rfl:drawX _ _ _)|simp -dsimp (maxSteps:=20000000) (disch:=omega) only [simx,zzC,zzB,tys,ite_self,opnL,callB,callX,readsB,stepOp,nilCmp,ofVal,opBuiltin,opLen,PV.sk,scalBin,scalUn,intBin,opLoad,natOf,opConvert,opField,cellsP,oneP,Value.oneCell',opStore,toIV,scalT,scalA,scalC,boxesA,boxesC,zipB_none,zipB_mx,isZ,opZip,zeroP,opAppendZ,opMakeMap,opLookup,mboxB,opUpdate,↓reduceIte,Nat.reduceSub,Nat.reduceEqDiff,Nat.reduceAdd,Nat.reduceMul,Nat.reduceLT,Nat.reduceLeDiff,Int.reduceToNat,Int.reduceLE,Int.reduceLT,Int.reduceNeg,reduceCtorEq,gos,Int.reduceAdd,Int.reduceSub,Int.reduceMul,Int.reduceEq])
    ((first|refine X_call_ad (dc) rfl (by simp only [tys]) (by (simp -dsimp only [simx,zzC,zzB,tys,ite_self,opnL,callB,callX,readsB,stepOp,nilCmp,ofVal,opBuiltin,opLen,PV.sk,scalBin,scalUn,intBin,opLoad,natOf,opConvert,opField,cellsP,oneP,Value.oneCell',opStore,toIV,scalT,scalA,scalC,boxesA,boxesC,zipB_none,zipB_mx,isZ,opZip,zeroP,opAppendZ,opMakeMap,opLookup,mboxB,opUpdate,↓reduceIte,Nat.reduceSub,Nat.reduceEqDiff,Nat.reduceAdd,Nat.reduceMul,Nat.reduceLT,Nat.reduceLeDiff,Int.reduceToNat,Int.reduceLE,Int.reduceLT,Int.reduceNeg,reduceCtorEq,zzL,if_true,if_false] <;> rfl)) (by simp [Heap.put_at,Heap.none_at,rowH_app,j1]) ?_|refine X_dcall_ad (dc) rfl (by simp only [tys]) (by (simp -dsimp only [simx,zzC,zzB,tys,ite_self,opnL,callB,callX,readsB,stepOp,nilCmp,ofVal,opBuiltin,opLen,PV.sk,scalBin,scalUn,intBin,opLoad,natOf,opConvert,opField,cellsP,oneP,Value.oneCell',opStore,toIV,scalT,scalA,scalC,boxesA,boxesC,zipB_none,zipB_mx,isZ,opZip,zeroP,opAppendZ,opMakeMap,opLookup,mboxB,opUpdate,↓reduceIte,Nat.reduceSub,Nat.reduceEqDiff,Nat.reduceAdd,Nat.reduceMul,Nat.reduceLT,Nat.reduceLeDiff,Int.reduceToNat,Int.reduceLE,Int.reduceLT,Int.reduceNeg,reduceCtorEq,zzL,if_true,if_false] <;> rfl)) (by simp [Heap.put_at,Heap.none_at,rowH_app,j1]) ?_))
    repeat (first|refine X_opc rfl ?_|refine X_dopc rfl ?_|refine ⟨(by show drawK _ _=true; kernel_rfl:drawX _ _ _),?_⟩|exact (by show drawK _ _=true; kernel_rfl:drawX _ _ _)|simp -dsimp (maxSteps:=20000000) (disch:=omega) only [simx,zzC,zzB,tys,ite_self,opnL,callB,callX,readsB,stepOp,nilCmp,ofVal,opBuiltin,opLen,PV.sk,scalBin,scalUn,intBin,opLoad,natOf,opConvert,opField,cellsP,oneP,Value.oneCell',opStore,toIV,scalT,scalA,scalC,boxesA,boxesC,zipB_none,zipB_mx,isZ,opZip,zeroP,opAppendZ,opMakeMap,opLookup,mboxB,opUpdate,↓reduceIte,Nat.reduceSub,Nat.reduceEqDiff,Nat.reduceAdd,Nat.reduceMul,Nat.reduceLT,Nat.reduceLeDiff,Int.reduceToNat,Int.reduceLE,Int.reduceLT,Int.reduceNeg,reduceCtorEq,gos,Int.reduceAdd,Int.reduceSub,Int.reduceMul,Int.reduceEq,hT,rowP_zero])
    refine X_loopH [0,1,7,8,22,23,24] [(8,2)::base] (0) (0) (fun j => True) (fun j => [(8,nilP),(24,i64 j)]) (fun j => h.put ((1,1)::base) (.row false (row.map iu))) ?_ ?_ ?_ ?_ ?_ (by decide) ?_
    · exact fgt_cons j2 (by simp -dsimp only [simx,zzC,zzB,tys,ite_self,opnL,notIn_cons,notIn_nil] <;> simp [refsP]) (noVar_row (nv _ (by simp))) fgt_nil
    · repeat (first|refine X_opc rfl ?_|refine X_dopc rfl ?_|refine ⟨(by show drawK _ _=true; kernel_rfl:drawX _ _ _),?_⟩|exact (by show drawK _ _=true; kernel_rfl:drawX _ _ _)|simp -dsimp (maxSteps:=20000000) (disch:=omega) only [simx,zzC,zzB,tys,ite_self,opnL,callB,callX,readsB,stepOp,nilCmp,ofVal,opBuiltin,opLen,PV.sk,scalBin,scalUn,intBin,opLoad,natOf,opConvert,opField,cellsP,oneP,Value.oneCell',opStore,toIV,scalT,scalA,scalC,boxesA,boxesC,zipB_none,zipB_mx,isZ,opZip,zeroP,opAppendZ,opMakeMap,opLookup,mboxB,opUpdate,↓reduceIte,Nat.reduceSub,Nat.reduceEqDiff,Nat.reduceAdd,Nat.reduceMul,Nat.reduceLT,Nat.reduceLeDiff,Int.reduceToNat,Int.reduceLE,Int.reduceLT,Int.reduceNeg,reduceCtorEq,gos,Int.reduceAdd,Int.reduceSub,Int.reduceMul,Int.reduceEq])
      rfl
    · funext c
      rw [Heap.drop_at]
      split
      · rename_i e
        rw [List.mem_singleton.1 e]
        simp [Heap.put_at,j2]
      · rfl
    · omega
    · trivial
    · intro j hj _
      have:j=0:=by omega
      subst this
      repeat (first|refine ⟨(by show drawK _ _=true; kernel_rfl:drawX _ _ _),?_⟩|exact (by show drawK _ _=true; kernel_rfl:drawX _ _ _)|simp -dsimp (maxSteps:=20000000) (disch:=omega) only [simx,zzC,zzB,tys,ite_self,opnL,callB,callX,readsB,stepOp,nilCmp,ofVal,opBuiltin,opLen,PV.sk,scalBin,scalUn,intBin,opLoad,natOf,opConvert,opField,cellsP,oneP,Value.oneCell',opStore,toIV,scalT,scalA,scalC,boxesA,boxesC,zipB_none,zipB_mx,isZ,opZip,zeroP,opAppendZ,opMakeMap,opLookup,mboxB,opUpdate,↓reduceIte,Nat.reduceSub,Nat.reduceEqDiff,Nat.reduceAdd,Nat.reduceMul,Nat.reduceLT,Nat.reduceLeDiff,Int.reduceToNat,Int.reduceLE,Int.reduceLT,Int.reduceNeg,reduceCtorEq,gos,Int.reduceAdd,Int.reduceSub,Int.reduceMul,Int.reduceEq,hT])
      refine X_opa ((10,7)::base) rfl ?_
      repeat (first|refine ⟨(by show drawK _ _=true; kernel_rfl:drawX _ _ _),?_⟩|exact (by show drawK _ _=true; kernel_rfl:drawX _ _ _)|simp -dsimp (maxSteps:=20000000) (disch:=omega) only [simx,zzC,zzB,tys,ite_self,opnL,callB,callX,readsB,stepOp,nilCmp,ofVal,opBuiltin,opLen,PV.sk,scalBin,scalUn,intBin,opLoad,natOf,opConvert,opField,cellsP,oneP,Value.oneCell',opStore,toIV,scalT,scalA,scalC,boxesA,boxesC,zipB_none,zipB_mx,isZ,opZip,zeroP,opAppendZ,opMakeMap,opLookup,mboxB,opUpdate,↓reduceIte,Nat.reduceSub,Nat.reduceEqDiff,Nat.reduceAdd,Nat.reduceMul,Nat.reduceLT,Nat.reduceLeDiff,Int.reduceToNat,Int.reduceLE,Int.reduceLT,Int.reduceNeg,reduceCtorEq,gos,Int.reduceAdd,Int.reduceSub,Int.reduceMul,Int.reduceEq,stepAlt,opBuildSliceV,j3])
      refine X_opa ((10,8)::base) rfl ?_
      repeat (first|refine ⟨(by show drawK _ _=true; kernel_rfl:drawX _ _ _),?_⟩|exact (by show drawK _ _=true; kernel_rfl:drawX _ _ _)|simp -dsimp (maxSteps:=20000000) (disch:=omega) only [simx,zzC,zzB,tys,ite_self,opnL,callB,callX,readsB,stepOp,nilCmp,ofVal,opBuiltin,opLen,PV.sk,scalBin,scalUn,intBin,opLoad,natOf,opConvert,opField,cellsP,oneP,Value.oneCell',opStore,toIV,scalT,scalA,scalC,boxesA,boxesC,zipB_none,zipB_mx,isZ,opZip,zeroP,opAppendZ,opMakeMap,opLookup,mboxB,opUpdate,↓reduceIte,Nat.reduceSub,Nat.reduceEqDiff,Nat.reduceAdd,Nat.reduceMul,Nat.reduceLT,Nat.reduceLeDiff,Int.reduceToNat,Int.reduceLE,Int.reduceLT,Int.reduceNeg,reduceCtorEq,gos,Int.reduceAdd,Int.reduceSub,Int.reduceMul,Int.reduceEq,stepAlt])
      refine X_appendV 23 [.slice none 0 0] (by simp only [tys]) (by simp only [tys]) rfl hL (by simp [Heap.put_at]; exact hCol) (by simp [Heap.put_at]; rfl) (by simp only [tys]; omega) (by rw [mx_len]; omega) (fun _ => rfl) ?_
      repeat (first|((first|refine X_call_fn2 rfl (by simp only [tys]) ?_|refine X_dcall_fn2 rfl (by simp only [tys]) ?_); apply Exists.intro; apply And.intro; (focus (simp -dsimp only [simx,zzC,zzB,tys,ite_self,opnL,callB,callX,readsB,stepOp,nilCmp,ofVal,opBuiltin,opLen,PV.sk,scalBin,scalUn,intBin,opLoad,natOf,opConvert,opField,cellsP,oneP,Value.oneCell',opStore,toIV,scalT,scalA,scalC,boxesA,boxesC,zipB_none,zipB_mx,isZ,opZip,zeroP,opAppendZ,opMakeMap,opLookup,mboxB,opUpdate,↓reduceIte,Nat.reduceSub,Nat.reduceEqDiff,Nat.reduceAdd,Nat.reduceMul,Nat.reduceLT,Nat.reduceLeDiff,Int.reduceToNat,Int.reduceLE,Int.reduceLT,Int.reduceNeg,reduceCtorEq,zzL,if_true,if_false,List.length_map,hl,nt] <;> rfl)); apply Exists.intro; apply And.intro; (focus (first|exact hix|exact ii1)))|refine ⟨(by show drawK _ _=true; kernel_rfl:drawX _ _ _),?_⟩|exact (by show drawK _ _=true; kernel_rfl:drawX _ _ _)|simp -dsimp (maxSteps:=20000000) (disch:=omega) only [simx,zzC,zzB,tys,ite_self,opnL,callB,callX,readsB,stepOp,nilCmp,ofVal,opBuiltin,opLen,PV.sk,scalBin,scalUn,intBin,opLoad,natOf,opConvert,opField,cellsP,oneP,Value.oneCell',opStore,toIV,scalT,scalA,scalC,boxesA,boxesC,zipB_none,zipB_mx,isZ,opZip,zeroP,opAppendZ,opMakeMap,opLookup,mboxB,opUpdate,↓reduceIte,Nat.reduceSub,Nat.reduceEqDiff,Nat.reduceAdd,Nat.reduceMul,Nat.reduceLT,Nat.reduceLeDiff,Int.reduceToNat,Int.reduceLE,Int.reduceLT,Int.reduceNeg,reduceCtorEq,gos,Int.reduceAdd,Int.reduceSub,Int.reduceMul,Int.reduceEq,hT,hp1,z0,List.length_map,hl,nt,ln,nC])
      refine X_dopc rfl ?_
      repeat (first|refine ⟨(by show drawK _ _=true; kernel_rfl:drawX _ _ _),?_⟩|exact (by show drawK _ _=true; kernel_rfl:drawX _ _ _)|simp -dsimp (maxSteps:=20000000) (disch:=omega) only [simx,zzC,zzB,tys,ite_self,opnL,callB,callX,readsB,stepOp,nilCmp,ofVal,opBuiltin,opLen,PV.sk,scalBin,scalUn,intBin,opLoad,natOf,opConvert,opField,cellsP,oneP,Value.oneCell',opStore,toIV,scalT,scalA,scalC,boxesA,boxesC,zipB_none,zipB_mx,isZ,opZip,zeroP,opAppendZ,opMakeMap,opLookup,mboxB,opUpdate,↓reduceIte,Nat.reduceSub,Nat.reduceEqDiff,Nat.reduceAdd,Nat.reduceMul,Nat.reduceLT,Nat.reduceLeDiff,Int.reduceToNat,Int.reduceLE,Int.reduceLT,Int.reduceNeg,reduceCtorEq,gos,Int.reduceAdd,Int.reduceSub,Int.reduceMul,Int.reduceEq,j4])
      refine X_dopn ((900,i)::base) rfl ?_
      repeat (first|refine ⟨(by show drawK _ _=true; kernel_rfl:drawX _ _ _),?_⟩|exact (by show drawK _ _=true; kernel_rfl:drawX _ _ _)|simp -dsimp (maxSteps:=20000000) (disch:=omega) only [simx,zzC,zzB,tys,ite_self,opnL,callB,callX,readsB,stepOp,nilCmp,ofVal,opBuiltin,opLen,PV.sk,scalBin,scalUn,intBin,opLoad,natOf,opConvert,opField,cellsP,oneP,Value.oneCell',opStore,toIV,scalT,scalA,scalC,boxesA,boxesC,zipB_none,zipB_mx,isZ,opZip,zeroP,opAppendZ,opMakeMap,opLookup,mboxB,opUpdate,↓reduceIte,Nat.reduceSub,Nat.reduceEqDiff,Nat.reduceAdd,Nat.reduceMul,Nat.reduceLT,Nat.reduceLeDiff,Int.reduceToNat,Int.reduceLE,Int.reduceLT,Int.reduceNeg,reduceCtorEq,gos,Int.reduceAdd,Int.reduceSub,Int.reduceMul,Int.reduceEq])
      refine X_dappend_one (s:=(900,i)::base) (n:=0) (z:=1) (cs:=[]) 22 [.int .u64 0] [iu 1] (by simp only [tys]) (by simp only [tys]) rfl (by decide) rfl (by simp [Heap.put_at]; exact hNi) (by simp [Heap.put_at]; rfl) rfl (by simp only [tys]; omega) (by rw [mx_len]; omega) ?_
      repeat (first|refine ⟨(by show drawK _ _=true; kernel_rfl:drawX _ _ _),?_⟩|exact (by show drawK _ _=true; kernel_rfl:drawX _ _ _)|simp -dsimp (maxSteps:=20000000) (disch:=omega) only [simx,zzC,zzB,tys,ite_self,opnL,callB,callX,readsB,stepOp,nilCmp,ofVal,opBuiltin,opLen,PV.sk,scalBin,scalUn,intBin,opLoad,natOf,opConvert,opField,cellsP,oneP,Value.oneCell',opStore,toIV,scalT,scalA,scalC,boxesA,boxesC,zipB_none,zipB_mx,isZ,opZip,zeroP,opAppendZ,opMakeMap,opLookup,mboxB,opUpdate,↓reduceIte,Nat.reduceSub,Nat.reduceEqDiff,Nat.reduceAdd,Nat.reduceMul,Nat.reduceLT,Nat.reduceLeDiff,Int.reduceToNat,Int.reduceLE,Int.reduceLT,Int.reduceNeg,reduceCtorEq,gos,Int.reduceAdd,Int.reduceSub,Int.reduceMul,Int.reduceEq,List.length_append,hL,lt,ld,rowP_succ,Nat.zero_add,ilt,ile])
      refine X_dopc rfl ?_
      repeat (first|refine ⟨(by show drawK _ _=true; kernel_rfl:drawX _ _ _),?_⟩|exact (by show drawK _ _=true; kernel_rfl:drawX _ _ _)|simp -dsimp (maxSteps:=20000000) (disch:=omega) only [simx,zzC,zzB,tys,ite_self,opnL,callB,callX,readsB,stepOp,nilCmp,ofVal,opBuiltin,opLen,PV.sk,scalBin,scalUn,intBin,opLoad,natOf,opConvert,opField,cellsP,oneP,Value.oneCell',opStore,toIV,scalT,scalA,scalC,boxesA,boxesC,zipB_none,zipB_mx,isZ,opZip,zeroP,opAppendZ,opMakeMap,opLookup,mboxB,opUpdate,↓reduceIte,Nat.reduceSub,Nat.reduceEqDiff,Nat.reduceAdd,Nat.reduceMul,Nat.reduceLT,Nat.reduceLeDiff,Int.reduceToNat,Int.reduceLE,Int.reduceLT,Int.reduceNeg,reduceCtorEq,gos,Int.reduceAdd,Int.reduceSub,Int.reduceMul,Int.reduceEq,j5,List.length_map,hl,nt])
      refine X_dopc rfl ?_
      repeat (first|refine ⟨(by show drawK _ _=true; kernel_rfl:drawX _ _ _),?_⟩|exact (by show drawK _ _=true; kernel_rfl:drawX _ _ _)|simp -dsimp (maxSteps:=20000000) (disch:=omega) only [simx,zzC,zzB,tys,ite_self,opnL,callB,callX,readsB,stepOp,nilCmp,ofVal,opBuiltin,opLen,PV.sk,scalBin,scalUn,intBin,opLoad,natOf,opConvert,opField,cellsP,oneP,Value.oneCell',opStore,toIV,scalT,scalA,scalC,boxesA,boxesC,zipB_none,zipB_mx,isZ,opZip,zeroP,opAppendZ,opMakeMap,opLookup,mboxB,opUpdate,↓reduceIte,Nat.reduceSub,Nat.reduceEqDiff,Nat.reduceAdd,Nat.reduceMul,Nat.reduceLT,Nat.reduceLeDiff,Int.reduceToNat,Int.reduceLE,Int.reduceLT,Int.reduceNeg,reduceCtorEq,gos,Int.reduceAdd,Int.reduceSub,Int.reduceMul,Int.reduceEq])
      refine X_dappend_one (s:=(16,11)::base) (n:=0) (z:=1) 3 [.int .i64 0] [ii i] (by simp only [tys]) (by simp only [tys]) rfl (by decide) (by rw [hrows]; rfl) (by simp [Heap.put_at]; exact hR) (by simp [Heap.put_at]; rfl) rfl (by simp only [tys]; omega) (by rw [mx_len]; omega) ?_
      rw [rowP_succ]
      repeat (first|refine ⟨(by show drawK _ _=true; kernel_rfl:drawX _ _ _),?_⟩|exact (by show drawK _ _=true; kernel_rfl:drawX _ _ _)|simp -dsimp (maxSteps:=20000000) (disch:=omega) only [simx,zzC,zzB,tys,ite_self,opnL,callB,callX,readsB,stepOp,nilCmp,ofVal,opBuiltin,opLen,PV.sk,scalBin,scalUn,intBin,opLoad,natOf,opConvert,opField,cellsP,oneP,Value.oneCell',opStore,toIV,scalT,scalA,scalC,boxesA,boxesC,zipB_none,zipB_mx,isZ,opZip,zeroP,opAppendZ,opMakeMap,opLookup,mboxB,opUpdate,↓reduceIte,Nat.reduceSub,Nat.reduceEqDiff,Nat.reduceAdd,Nat.reduceMul,Nat.reduceLT,Nat.reduceLeDiff,Int.reduceToNat,Int.reduceLE,Int.reduceLT,Int.reduceNeg,reduceCtorEq,gos,Int.reduceAdd,Int.reduceSub,Int.reduceMul,Int.reduceEq,hT])
      refine X_dopc rfl ?_
      repeat (first|refine ⟨(by show drawK _ _=true; kernel_rfl:drawX _ _ _),?_⟩|exact (by show drawK _ _=true; kernel_rfl:drawX _ _ _)|simp -dsimp (maxSteps:=20000000) (disch:=omega) only [simx,zzC,zzB,tys,ite_self,opnL,callB,callX,readsB,stepOp,nilCmp,ofVal,opBuiltin,opLen,PV.sk,scalBin,scalUn,intBin,opLoad,natOf,opConvert,opField,cellsP,oneP,Value.oneCell',opStore,toIV,scalT,scalA,scalC,boxesA,boxesC,zipB_none,zipB_mx,isZ,opZip,zeroP,opAppendZ,opMakeMap,opLookup,mboxB,opUpdate,↓reduceIte,Nat.reduceSub,Nat.reduceEqDiff,Nat.reduceAdd,Nat.reduceMul,Nat.reduceLT,Nat.reduceLeDiff,Int.reduceToNat,Int.reduceLE,Int.reduceLT,Int.reduceNeg,reduceCtorEq,gos,Int.reduceAdd,Int.reduceSub,Int.reduceMul,Int.reduceEq,j6,List.length_map,hl,nt])
      refine X_dopc rfl ?_
      repeat (first|refine ⟨(by show drawK _ _=true; kernel_rfl:drawX _ _ _),?_⟩|exact (by show drawK _ _=true; kernel_rfl:drawX _ _ _)|simp -dsimp (maxSteps:=20000000) (disch:=omega) only [simx,zzC,zzB,tys,ite_self,opnL,callB,callX,readsB,stepOp,nilCmp,ofVal,opBuiltin,opLen,PV.sk,scalBin,scalUn,intBin,opLoad,natOf,opConvert,opField,cellsP,oneP,Value.oneCell',opStore,toIV,scalT,scalA,scalC,boxesA,boxesC,zipB_none,zipB_mx,isZ,opZip,zeroP,opAppendZ,opMakeMap,opLookup,mboxB,opUpdate,↓reduceIte,Nat.reduceSub,Nat.reduceEqDiff,Nat.reduceAdd,Nat.reduceMul,Nat.reduceLT,Nat.reduceLeDiff,Int.reduceToNat,Int.reduceLE,Int.reduceLT,Int.reduceNeg,reduceCtorEq,gos,Int.reduceAdd,Int.reduceSub,Int.reduceMul,Int.reduceEq])
      refine X_dappend_one (s:=(16,19)::base) (n:=0) (z:=1) 3 [.int .i64 0] [ii n] (by simp only [tys]) (by simp only [tys]) rfl (by decide) (by rw [hcols]; rfl) (by simp [Heap.put_at]; exact hQ) (by simp [Heap.put_at]; rfl) rfl (by simp only [tys]; omega) (by rw [mx_len]; omega) ?_
      rw [rowP_succ]
      repeat (first|refine ⟨(by show drawK _ _=true; kernel_rfl:drawX _ _ _),?_⟩|exact (by show drawK _ _=true; kernel_rfl:drawX _ _ _)|simp -dsimp (maxSteps:=20000000) (disch:=omega) only [simx,zzC,zzB,tys,ite_self,opnL,callB,callX,readsB,stepOp,nilCmp,ofVal,opBuiltin,opLen,PV.sk,scalBin,scalUn,intBin,opLoad,natOf,opConvert,opField,cellsP,oneP,Value.oneCell',opStore,toIV,scalT,scalA,scalC,boxesA,boxesC,zipB_none,zipB_mx,isZ,opZip,zeroP,opAppendZ,opMakeMap,opLookup,mboxB,opUpdate,↓reduceIte,Nat.reduceSub,Nat.reduceEqDiff,Nat.reduceAdd,Nat.reduceMul,Nat.reduceLT,Nat.reduceLeDiff,Int.reduceToNat,Int.reduceLE,Int.reduceLT,Int.reduceNeg,reduceCtorEq,gos,Int.reduceAdd,Int.reduceSub,Int.reduceMul,Int.reduceEq,hT])
      refine X_dopc rfl ?_
      repeat (first|refine ⟨(by show drawK _ _=true; kernel_rfl:drawX _ _ _),?_⟩|exact (by show drawK _ _=true; kernel_rfl:drawX _ _ _)|simp -dsimp (maxSteps:=20000000) (disch:=omega) only [simx,zzC,zzB,tys,ite_self,opnL,callB,callX,readsB,stepOp,nilCmp,ofVal,opBuiltin,opLen,PV.sk,scalBin,scalUn,intBin,opLoad,natOf,opConvert,opField,cellsP,oneP,Value.oneCell',opStore,toIV,scalT,scalA,scalC,boxesA,boxesC,zipB_none,zipB_mx,isZ,opZip,zeroP,opAppendZ,opMakeMap,opLookup,mboxB,opUpdate,↓reduceIte,Nat.reduceSub,Nat.reduceEqDiff,Nat.reduceAdd,Nat.reduceMul,Nat.reduceLT,Nat.reduceLeDiff,Int.reduceToNat,Int.reduceLE,Int.reduceLT,Int.reduceNeg,reduceCtorEq,gos,Int.reduceAdd,Int.reduceSub,Int.reduceMul,Int.reduceEq,j7,List.length_map,hl,nt])
      refine X_dopc rfl ?_
      repeat (first|refine ⟨(by show drawK _ _=true; kernel_rfl:drawX _ _ _),?_⟩|exact (by show drawK _ _=true; kernel_rfl:drawX _ _ _)|simp -dsimp (maxSteps:=20000000) (disch:=omega) only [simx,zzC,zzB,tys,ite_self,opnL,callB,callX,readsB,stepOp,nilCmp,ofVal,opBuiltin,opLen,PV.sk,scalBin,scalUn,intBin,opLoad,natOf,opConvert,opField,cellsP,oneP,Value.oneCell',opStore,toIV,scalT,scalA,scalC,boxesA,boxesC,zipB_none,zipB_mx,isZ,opZip,zeroP,opAppendZ,opMakeMap,opLookup,mboxB,opUpdate,↓reduceIte,Nat.reduceSub,Nat.reduceEqDiff,Nat.reduceAdd,Nat.reduceMul,Nat.reduceLT,Nat.reduceLeDiff,Int.reduceToNat,Int.reduceLE,Int.reduceLT,Int.reduceNeg,reduceCtorEq,gos,Int.reduceAdd,Int.reduceSub,Int.reduceMul,Int.reduceEq])
      refine X_dappend_one (s:=(16,27)::base) (n:=0) (z:=1) 23 [.slice none 0 0] [lv C row] (by simp only [tys]) (by simp only [tys]) rfl (by decide) (by rw [hus]; rfl) (by simp [Heap.put_at]; exact hU) (by simp [Heap.put_at]; rfl) rfl (by simp only [tys]; omega) (by rw [mx_len]; omega) ?_
      rw [rowP_succ]
      repeat (first|refine ⟨(by show drawK _ _=true; kernel_rfl:drawX _ _ _),?_⟩|exact (by show drawK _ _=true; kernel_rfl:drawX _ _ _)|simp -dsimp (maxSteps:=20000000) (disch:=omega) only [simx,zzC,zzB,tys,ite_self,opnL,callB,callX,readsB,stepOp,nilCmp,ofVal,opBuiltin,opLen,PV.sk,scalBin,scalUn,intBin,opLoad,natOf,opConvert,opField,cellsP,oneP,Value.oneCell',opStore,toIV,scalT,scalA,scalC,boxesA,boxesC,zipB_none,zipB_mx,isZ,opZip,zeroP,opAppendZ,opMakeMap,opLookup,mboxB,opUpdate,↓reduceIte,Nat.reduceSub,Nat.reduceEqDiff,Nat.reduceAdd,Nat.reduceMul,Nat.reduceLT,Nat.reduceLeDiff,Int.reduceToNat,Int.reduceLE,Int.reduceLT,Int.reduceNeg,reduceCtorEq,gos,Int.reduceAdd,Int.reduceSub,Int.reduceMul,Int.reduceEq,hT])
      refine X_dopc rfl ?_
      repeat (first|refine ⟨(by show drawK _ _=true; kernel_rfl:drawX _ _ _),?_⟩|exact (by show drawK _ _=true; kernel_rfl:drawX _ _ _)|simp -dsimp (maxSteps:=20000000) (disch:=omega) only [simx,zzC,zzB,tys,ite_self,opnL,callB,callX,readsB,stepOp,nilCmp,ofVal,opBuiltin,opLen,PV.sk,scalBin,scalUn,intBin,opLoad,natOf,opConvert,opField,cellsP,oneP,Value.oneCell',opStore,toIV,scalT,scalA,scalC,boxesA,boxesC,zipB_none,zipB_mx,isZ,opZip,zeroP,opAppendZ,opMakeMap,opLookup,mboxB,opUpdate,↓reduceIte,Nat.reduceSub,Nat.reduceEqDiff,Nat.reduceAdd,Nat.reduceMul,Nat.reduceLT,Nat.reduceLeDiff,Int.reduceToNat,Int.reduceLE,Int.reduceLT,Int.reduceNeg,reduceCtorEq,gos,Int.reduceAdd,Int.reduceSub,Int.reduceMul,Int.reduceEq,j8,List.length_map,hl,nt])
      refine X_dopc rfl ?_
      repeat (first|refine ⟨(by show drawK _ _=true; kernel_rfl:drawX _ _ _),?_⟩|exact (by show drawK _ _=true; kernel_rfl:drawX _ _ _)|simp -dsimp (maxSteps:=20000000) (disch:=omega) only [simx,zzC,zzB,tys,ite_self,opnL,callB,callX,readsB,stepOp,nilCmp,ofVal,opBuiltin,opLen,PV.sk,scalBin,scalUn,intBin,opLoad,natOf,opConvert,opField,cellsP,oneP,Value.oneCell',opStore,toIV,scalT,scalA,scalC,boxesA,boxesC,zipB_none,zipB_mx,isZ,opZip,zeroP,opAppendZ,opMakeMap,opLookup,mboxB,opUpdate,↓reduceIte,Nat.reduceSub,Nat.reduceEqDiff,Nat.reduceAdd,Nat.reduceMul,Nat.reduceLT,Nat.reduceLeDiff,Int.reduceToNat,Int.reduceLE,Int.reduceLT,Int.reduceNeg,reduceCtorEq,gos,Int.reduceAdd,Int.reduceSub,Int.reduceMul,Int.reduceEq])
      refine X_dappend_one (s:=(16,34)::base) (n:=0) (z:=1) 22 [.int .u64 0] [iu (finvC P a)] (by simp only [tys]) (by simp only [tys]) rfl (by decide) (by rw [hvs]; rfl) (by simp [Heap.put_at]; exact hV) (by simp [Heap.put_at]; rfl) rfl (by simp only [tys]; omega) (by rw [mx_len]; omega) ?_
      rw [rowP_succ]
      repeat (first|refine ⟨(by show drawK _ _=true; kernel_rfl:drawX _ _ _),?_⟩|exact (by show drawK _ _=true; kernel_rfl:drawX _ _ _)|simp -dsimp (maxSteps:=20000000) (disch:=omega) only [simx,zzC,zzB,tys,ite_self,opnL,callB,callX,readsB,stepOp,nilCmp,ofVal,opBuiltin,opLen,PV.sk,scalBin,scalUn,intBin,opLoad,natOf,opConvert,opField,cellsP,oneP,Value.oneCell',opStore,toIV,scalT,scalA,scalC,boxesA,boxesC,zipB_none,zipB_mx,isZ,opZip,zeroP,opAppendZ,opMakeMap,opLookup,mboxB,opUpdate,↓reduceIte,Nat.reduceSub,Nat.reduceEqDiff,Nat.reduceAdd,Nat.reduceMul,Nat.reduceLT,Nat.reduceLeDiff,Int.reduceToNat,Int.reduceLE,Int.reduceLT,Int.reduceNeg,reduceCtorEq,gos,Int.reduceAdd,Int.reduceSub,Int.reduceMul,Int.reduceEq,hT])
      repeat (first|refine X_opc rfl ?_|refine X_dopc rfl ?_|refine ⟨(by show drawK _ _=true; kernel_rfl:drawX _ _ _),?_⟩|exact (by show drawK _ _=true; kernel_rfl:drawX _ _ _)|simp -dsimp (maxSteps:=20000000) (disch:=omega) only [simx,zzC,zzB,tys,ite_self,opnL,callB,callX,readsB,stepOp,nilCmp,ofVal,opBuiltin,opLen,PV.sk,scalBin,scalUn,intBin,opLoad,natOf,opConvert,opField,cellsP,oneP,Value.oneCell',opStore,toIV,scalT,scalA,scalC,boxesA,boxesC,zipB_none,zipB_mx,isZ,opZip,zeroP,opAppendZ,opMakeMap,opLookup,mboxB,opUpdate,↓reduceIte,Nat.reduceSub,Nat.reduceEqDiff,Nat.reduceAdd,Nat.reduceMul,Nat.reduceLT,Nat.reduceLeDiff,Int.reduceToNat,Int.reduceLE,Int.reduceLT,Int.reduceNeg,reduceCtorEq,zzR,gos,Int.reduceAdd,Int.reduceSub,Int.reduceMul,Int.reduceEq])
      rw [← hHH]
      refine ⟨?_,fun b hb => ?_⟩
      · funext c
        simp (maxSteps:=20000000) only [Heap.drop_at,rowH_app,Heap.put_at,Heap.none_at,List.mem_cons,List.not_mem_nil,or_false]
        by_cases e0:c=(3,2)::bT
        · subst e0; simp [j1,j2,j3,j4,j5,j6,j7,j8,rowP_zero,rowP_succ,hR,hQ,hU,hV,hNi,clmP_succ]
        by_cases e1:c=(10,8)::base
        · subst e1; simp [j1,j2,j3,j4,j5,j6,j7,j8,rowP_zero,rowP_succ,hR,hQ,hU,hV,hNi,clmP_succ]
        by_cases e2:c=(1,1)::base
        · subst e2; simp [j1,j2,j3,j4,j5,j6,j7,j8,rowP_zero,rowP_succ,hR,hQ,hU,hV,hNi,clmP_succ]
        by_cases e3:c=(8,2)::base
        · subst e3; simp [j1,j2,j3,j4,j5,j6,j7,j8,rowP_zero,rowP_succ,hR,hQ,hU,hV,hNi,clmP_succ]
        by_cases e4:c=(10,7)::base
        · subst e4; simp [j1,j2,j3,j4,j5,j6,j7,j8,rowP_zero,rowP_succ,hR,hQ,hU,hV,hNi,clmP_succ]
        by_cases e5:c=(15,7)::base
        · subst e5; simp [j1,j2,j3,j4,j5,j6,j7,j8,rowP_zero,rowP_succ,hR,hQ,hU,hV,hNi,clmP_succ]
        by_cases e6:c=(16,10)::base
        · subst e6; simp [j1,j2,j3,j4,j5,j6,j7,j8,rowP_zero,rowP_succ,hR,hQ,hU,hV,hNi,clmP_succ]
        by_cases e7:c=(16,18)::base
        · subst e7; simp [j1,j2,j3,j4,j5,j6,j7,j8,rowP_zero,rowP_succ,hR,hQ,hU,hV,hNi,clmP_succ]
        by_cases e8:c=(16,26)::base
        · subst e8; simp [j1,j2,j3,j4,j5,j6,j7,j8,rowP_zero,rowP_succ,hR,hQ,hU,hV,hNi,clmP_succ]
        by_cases e9:c=(16,33)::base
        · subst e9; simp [j1,j2,j3,j4,j5,j6,j7,j8,rowP_zero,rowP_succ,hR,hQ,hU,hV,hNi,clmP_succ]
        by_cases e10:c=(16,11)::base
        · subst e10; simp [j1,j2,j3,j4,j5,j6,j7,j8,rowP_zero,rowP_succ,hR,hQ,hU,hV,hNi,clmP_succ]
        by_cases e11:c=(16,19)::base
        · subst e11; simp [j1,j2,j3,j4,j5,j6,j7,j8,rowP_zero,rowP_succ,hR,hQ,hU,hV,hNi,clmP_succ]
        by_cases e12:c=(16,27)::base
        · subst e12; simp [j1,j2,j3,j4,j5,j6,j7,j8,rowP_zero,rowP_succ,hR,hQ,hU,hV,hNi,clmP_succ]
        by_cases e13:c=(16,34)::base
        · subst e13; simp [j1,j2,j3,j4,j5,j6,j7,j8,rowP_zero,rowP_succ,hR,hQ,hU,hV,hNi,clmP_succ]
        by_cases e14:c=(900,i)::base
        · subst e14; simp [j1,j2,j3,j4,j5,j6,j7,j8,rowP_zero,rowP_succ,hR,hQ,hU,hV,hNi,clmP_succ]
        simp [e0,e1,e2,e3,e4,e5,e6,e7,e8,e9,e10,e11,e12,e13,e14,j1,j2,j3,j4,j5,j6,j7,j8,rowP_zero,rowP_succ,hR,hQ,hU,hV,hNi,clmP_succ]
      · have n0:=nv b hb
        have n1:=nvL b hb
        clear nv nvL
        simp only [List.mem_cons,List.not_mem_nil,or_false] at hb
        rcases hb with rfl|rfl|rfl|rfl|rfl|rfl|rfl|rfl
        all_goals (repeat (first|exact n0|refine noVar_row ?_|refine noVar_var ?_ (by simp [refsL,refsP,refsL_append,mem_refs_rowP,mem_refs_clmP,n1])))
end Go.Proofs.Ytmalpmnmknpphaa.TM
namespace Go.Proofs.Ytmalpmnmknpphaa.TM
open Go Go.RowKit
attribute [local irreducible] K W WOps Effs Xg Xo Xr Xdg Xdo Xdr Xif CallsP CallR
set_option maxHeartbeats 4000000 in
theorem rowA1_walk {h : Heap} {base bT : Name} {P C i r : Nat} {T : Tk} {row : List Int} {L : List PV} (hP : Prm P) (hp : Md P) (I : TkI P C i T) (hrow : ∀ a ∈ row, In P a) (hl : row.length = C) (h0 : 0 < C) (hC : C ≤ 64) (hi : i < 64) (hL : L.length = i) (hr : T.us.length = r + 1)
    (hT:h ((3,2)::bT)=some (.var [rowP ((16,11)::base) 1 (r + 1) (T.rows.map ii),rowP ((16,19)::base) 1 (r + 1) (T.cols.map ii),clmP ((10,8)::base) i,rowP ((16,27)::base) 1 (r + 1) (T.us.map (lv C)),u64 P,rowP ((16,34)::base) 1 (r + 1) (T.vs.map iu)]))
    (hR:h ((16,11)::base)=if r + 1=0 then none else some (.row false (T.rows.map ii))) (hQ:h ((16,19)::base)=if r + 1=0 then none else some (.row false (T.cols.map ii))) (hU:h ((16,27)::base)=if r + 1=0 then none else some (.row false (T.us.map (lv C)))) (hV:h ((16,34)::base)=if r + 1=0 then none else some (.row false (T.vs.map iu)))
    (hCol:h ((10,8)::base)=clmB i L) (hNi:h ((900,i)::base)=none)
    (j1:h ((1,1)::base)=none) (j2:h ((8,2)::base)=none) (j3:h ((10,7)::base)=none) (j4:h ((15,7)::base)=none) (j5:h ((16,10)::base)=none) (j6:h ((16,18)::base)=none) (j7:h ((16,26)::base)=none) (j8:h ((16,33)::base)=none)
    (nv:∀ b ∈ [(1,1)::base,(8,2)::base,(10,7)::base,(15,7)::base,(16,10)::base,(16,18)::base,(16,26)::base,(16,33)::base],noVar b h) :
    ∃ h',CallR Try.prog base 98 [.ref ((3,2)::bT) 0 6,i64 i,.i (.l C (row.map iu))] h (bl true) h' ∧ (h'.drop [(1,1)::base,(8,2)::base,(10,7)::base,(15,7)::base,(16,10)::base,(16,18)::base,(16,26)::base,(16,33)::base]=cupH h base bT P C i L T (tkRow P T i row) (tkRow P T i row).us.length ∧ ∀ b ∈ [(1,1)::base,(8,2)::base,(10,7)::base,(15,7)::base,(16,10)::base,(16,18)::base,(16,26)::base,(16,33)::base],noVar b h'):=by
  have nvL:=nv_col hCol hL nv
  have rb:r + 1 ≤ i:=by have:=I.ri; omega
  have dc:=(cloneU_own hl h0 (by omega)).toA
  have rl:(rstT P T row)=elR P T row (r + 1):=by unfold rstT; rw [hr]
  have x0:xsT P T row=tbl (r + 1) (elX P T row):=by unfold xsT; rw [hr]
  have rn:((elR P T row (r + 1))).length=C:=by rw [elR_len,hl]
  have hix:=indexA_walk (l:=elR P T row (r + 1)) (by rw [mx_len]; omega)
  rw [lu,rn] at hix
  obtain ⟨te1,te2⟩:=tk_end I row (i:Int) rfl
  rw [rl,x0] at te1 te2
  rw [if_neg (by omega)] at hR hQ hU hV
  generalize hHH:cupH h base bT P C i L T (tkRow P T i row) (tkRow P T i row).us.length=HH
  refine X_startE (n:=151) (m:=3) (rs:=[.tmp 6]) Try.func98 rfl rfl rfl rfl (by decide) ?_
  repeat (first|refine X_opc rfl ?_|refine X_dopc rfl ?_|refine ⟨(by show drawK _ _=true; kernel_rfl:drawX _ _ _),?_⟩|exact (by show drawK _ _=true; kernel_rfl:drawX _ _ _)|simp -dsimp (maxSteps:=20000000) (disch:=omega) only [simx,zzC,zzB,tys,ite_self,opnL,callB,callX,readsB,stepOp,nilCmp,ofVal,opBuiltin,opLen,PV.sk,scalBin,scalUn,intBin,opLoad,natOf,opConvert,opField,cellsP,oneP,Value.oneCell',opStore,toIV,scalT,scalA,scalC,boxesA,boxesC,zipB_none,zipB_mx,isZ,opZip,zeroP,opAppendZ,opMakeMap,opLookup,mboxB,opUpdate,↓reduceIte,Nat.reduceSub,Nat.reduceEqDiff,Nat.reduceAdd,Nat.reduceMul,Nat.reduceLT,Nat.reduceLeDiff,Int.reduceToNat,Int.reduceLE,Int.reduceLT,Int.reduceNeg,reduceCtorEq,gos,Int.reduceAdd,Int.reduceSub,Int.reduceMul,Int.reduceEq])
  ((first|refine X_call_ad (dc) rfl (by simp only [tys]) (by (simp -dsimp only [simx,zzC,zzB,tys,ite_self,opnL,callB,callX,readsB,stepOp,nilCmp,ofVal,opBuiltin,opLen,PV.sk,scalBin,scalUn,intBin,opLoad,natOf,opConvert,opField,cellsP,oneP,Value.oneCell',opStore,toIV,scalT,scalA,scalC,boxesA,boxesC,zipB_none,zipB_mx,isZ,opZip,zeroP,opAppendZ,opMakeMap,opLookup,mboxB,opUpdate,↓reduceIte,Nat.reduceSub,Nat.reduceEqDiff,Nat.reduceAdd,Nat.reduceMul,Nat.reduceLT,Nat.reduceLeDiff,Int.reduceToNat,Int.reduceLE,Int.reduceLT,Int.reduceNeg,reduceCtorEq,zzL,if_true,if_false] <;> rfl)) (by simp [Heap.put_at,Heap.none_at,rowH_app,j1]) ?_|refine X_dcall_ad (dc) rfl (by simp only [tys]) (by (simp -dsimp only [simx,zzC,zzB,tys,ite_self,opnL,callB,callX,readsB,stepOp,nilCmp,ofVal,opBuiltin,opLen,PV.sk,scalBin,scalUn,intBin,opLoad,natOf,opConvert,opField,cellsP,oneP,Value.oneCell',opStore,toIV,scalT,scalA,scalC,boxesA,boxesC,zipB_none,zipB_mx,isZ,opZip,zeroP,opAppendZ,opMakeMap,opLookup,mboxB,opUpdate,↓reduceIte,Nat.reduceSub,Nat.reduceEqDiff,Nat.reduceAdd,Nat.reduceMul,Nat.reduceLT,Nat.reduceLeDiff,Int.reduceToNat,Int.reduceLE,Int.reduceLT,Int.reduceNeg,reduceCtorEq,zzL,if_true,if_false] <;> rfl)) (by simp [Heap.put_at,Heap.none_at,rowH_app,j1]) ?_))
  repeat (first|refine X_opc rfl ?_|refine X_dopc rfl ?_|refine ⟨(by show drawK _ _=true; kernel_rfl:drawX _ _ _),?_⟩|exact (by show drawK _ _=true; kernel_rfl:drawX _ _ _)|simp -dsimp (maxSteps:=20000000) (disch:=omega) only [simx,zzC,zzB,tys,ite_self,opnL,callB,callX,readsB,stepOp,nilCmp,ofVal,opBuiltin,opLen,PV.sk,scalBin,scalUn,intBin,opLoad,natOf,opConvert,opField,cellsP,oneP,Value.oneCell',opStore,toIV,scalT,scalA,scalC,boxesA,boxesC,zipB_none,zipB_mx,isZ,opZip,zeroP,opAppendZ,opMakeMap,opLookup,mboxB,opUpdate,↓reduceIte,Nat.reduceSub,Nat.reduceEqDiff,Nat.reduceAdd,Nat.reduceMul,Nat.reduceLT,Nat.reduceLeDiff,Int.reduceToNat,Int.reduceLE,Int.reduceLT,Int.reduceNeg,reduceCtorEq,gos,Int.reduceAdd,Int.reduceSub,Int.reduceMul,Int.reduceEq,hT,rowP_succ,List.length_map,hr])
  refine X_loopH [0,1,7,8,22,23,24] [(8,2)::base] (0) (r + 1) (fun j => True) (fun j => [(8,rowP ((900,i)::base) 1 j ((tbl j (elX P T row)).map iu)),(23,i64 ((r + 1:Nat):Int)),(24,i64 j)]) (fun j => rowH (h.put ((1,1)::base) (.row false ((elR P T row j).map iu))) ((900,i)::base) j ((tbl j (elX P T row)).map iu)) ?_ ?_ ?_ ?_ ?_ (by decide) ?_
  · exact fgt_cons j2 (by simp -dsimp only [simx,zzC,zzB,tys,ite_self,opnL,notIn_cons,notIn_nil] <;> simp [refsP]) (noVar_row (nv _ (by simp))) fgt_nil
  · repeat (first|refine X_opc rfl ?_|refine X_dopc rfl ?_|refine ⟨(by show drawK _ _=true; kernel_rfl:drawX _ _ _),?_⟩|exact (by show drawK _ _=true; kernel_rfl:drawX _ _ _)|simp -dsimp (maxSteps:=20000000) (disch:=omega) only [simx,zzC,zzB,tys,ite_self,opnL,callB,callX,readsB,stepOp,nilCmp,ofVal,opBuiltin,opLen,PV.sk,scalBin,scalUn,intBin,opLoad,natOf,opConvert,opField,cellsP,oneP,Value.oneCell',opStore,toIV,scalT,scalA,scalC,boxesA,boxesC,zipB_none,zipB_mx,isZ,opZip,zeroP,opAppendZ,opMakeMap,opLookup,mboxB,opUpdate,↓reduceIte,Nat.reduceSub,Nat.reduceEqDiff,Nat.reduceAdd,Nat.reduceMul,Nat.reduceLT,Nat.reduceLeDiff,Int.reduceToNat,Int.reduceLE,Int.reduceLT,Int.reduceNeg,reduceCtorEq,gos,Int.reduceAdd,Int.reduceSub,Int.reduceMul,Int.reduceEq,rowP_zero])
    exact ⟨rfl,rfl⟩
  · funext c
    rw [Heap.drop_at,rowH_zero]
    split
    · rename_i e
      rw [List.mem_singleton.1 e]
      simp [Heap.put_at,j2]
    · rfl
  · omega
  · trivial
  · intro j hj _
    by_cases cj:j < r + 1
    · have g1:(T.us.map (lv C))[j]?=some (lv C (T.us.getD j [])):=by rw [List.getElem?_map,List.getD_eq_getElem?_getD,List.getElem?_eq_getElem (by omega)]; rfl
      have g2:(T.cols.map ii)[j]?=some (ii (T.cols.getD j 0)):=by rw [List.getElem?_map,getD_some I.ql (by omega)]; rfl
      have g3:(T.vs.map iu)[j]?=some (iu (T.vs.getD j 0)):=by rw [List.getElem?_map,getD_some I.vl (by omega)]; rfl
      obtain ⟨q0,q1⟩:=I.qb (T.cols.getD j 0) (by rw [List.getD_eq_getElem?_getD,List.getElem?_eq_getElem (by have:=I.ql; omega)]; exact List.getElem_mem _)
      obtain ⟨q,hq⟩:∃ q:Nat,T.cols.getD j 0=q:=⟨(T.cols.getD j 0).toNat,by omega⟩
      have qC:q < C:=by omega
      have el:=elR_len P T row j
      rw [hl] at el
      have ei:=elR_in hp T hrow j
      have g4:((elR P T row j).map iu)[q]?=some (iu ((elR P T row j).getD q 0)):=by rw [List.getElem?_map,getD_some el qC]; rfl
      have m1:=Mul_in hp (getD_of ei (i:=q) (by omega)) (getD_of I.vb (i:=j) (by have:=I.vl; omega))
      have ex:(elR P T row j).getD q 0 * T.vs.getD j 0 % P=elX P T row j:=by unfold elX; rw [hq,Int.toNat_natCast]
      rw [ex] at m1
      rw [hq] at g2
      obtain ⟨u1,u2⟩:=I.ul (T.us.getD j []) (by rw [List.getD_eq_getElem?_getD,List.getElem?_eq_getElem (by omega)]; exact List.getElem_mem _)
      have hT':(rowH (h.put ((1,1)::base) (.row false ((elR P T row j).map iu))) ((900,i)::base) j ((tbl j (elX P T row)).map iu)) ((3,2)::bT)=some (.var [rowP ((16,11)::base) 1 (r + 1) (T.rows.map ii),rowP ((16,19)::base) 1 (r + 1) (T.cols.map ii),clmP ((10,8)::base) i,rowP ((16,27)::base) 1 (r + 1) (T.us.map (lv C)),u64 P,rowP ((16,34)::base) 1 (r + 1) (T.vs.map iu)]):=by simp [rowH_app,Heap.put_at]; exact hT
      have hX':(rowH (h.put ((1,1)::base) (.row false ((elR P T row j).map iu))) ((900,i)::base) j ((tbl j (elX P T row)).map iu)) ((1,1)::base)=some (.row false ((elR P T row j).map iu)):=by simp [rowH_app,Heap.put_at]
      have hN':(rowH (h.put ((1,1)::base) (.row false ((elR P T row j).map iu))) ((900,i)::base) j ((tbl j (elX P T row)).map iu)) ((900,i)::base)=if j=0 then none else some (.row false ((tbl j (elX P T row)).map iu)):=by simp [rowH_app,Heap.put_at,hNi]
      have hw:=fun (b0:Name) => cless_walk (base:=b0) hp (elX_in hp T row j) ei u2 el u1 hC hT' hX'
      have nx:=elR_succ P T row j
      have tx:=tbl_succ j (elX P T row)
      have tl:=tbl_len j (elX P T row)
      rw [← nx] at hw
      generalize T.us.getD j []=U at g1 hw u1
      generalize T.vs.getD j 0=V at g3 m1 ex
      generalize elX P T row j=x at m1 hw tx
      generalize (elR P T row j).getD q 0=y at g4 m1
      generalize hR1:elR P T row (j + 1)=R1 at hw ⊢
      have hne1:¬ j=0 → (0 < j):=by omega
      repeat (first|((first|refine X_call_fn2 rfl (by simp only [tys]) ?_|refine X_dcall_fn2 rfl (by simp only [tys]) ?_); apply Exists.intro; apply And.intro; (focus (simp -dsimp only [simx,zzC,zzB,tys,ite_self,opnL,callB,callX,readsB,stepOp,nilCmp,ofVal,opBuiltin,opLen,PV.sk,scalBin,scalUn,intBin,opLoad,natOf,opConvert,opField,cellsP,oneP,Value.oneCell',opStore,toIV,scalT,scalA,scalC,boxesA,boxesC,zipB_none,zipB_mx,isZ,opZip,zeroP,opAppendZ,opMakeMap,opLookup,mboxB,opUpdate,↓reduceIte,Nat.reduceSub,Nat.reduceEqDiff,Nat.reduceAdd,Nat.reduceMul,Nat.reduceLT,Nat.reduceLeDiff,Int.reduceToNat,Int.reduceLE,Int.reduceLT,Int.reduceNeg,reduceCtorEq,zzL,if_true,if_false] <;> rfl)); apply Exists.intro; apply And.intro; (focus (first|exact m1)))|refine ⟨(by show drawK _ _=true; kernel_rfl:drawX _ _ _),?_⟩|exact (by show drawK _ _=true; kernel_rfl:drawX _ _ _)|simp -dsimp (maxSteps:=20000000) (disch:=omega) only [simx,zzC,zzB,tys,ite_self,opnL,callB,callX,readsB,stepOp,nilCmp,ofVal,opBuiltin,opLen,PV.sk,scalBin,scalUn,intBin,opLoad,natOf,opConvert,opField,cellsP,oneP,Value.oneCell',opStore,toIV,scalT,scalA,scalC,boxesA,boxesC,zipB_none,zipB_mx,isZ,opZip,zeroP,opAppendZ,opMakeMap,opLookup,mboxB,opUpdate,↓reduceIte,Nat.reduceSub,Nat.reduceEqDiff,Nat.reduceAdd,Nat.reduceMul,Nat.reduceLT,Nat.reduceLeDiff,Int.reduceToNat,Int.reduceLE,Int.reduceLT,Int.reduceNeg,reduceCtorEq,gos,Int.reduceAdd,Int.reduceSub,Int.reduceMul,Int.reduceEq,hT,hR,hQ,hU,hV,rowP_succ,cj,g1,g2,g3,g4,qC,List.length_map,hr,I.ql,I.vl,I.rl,el])
      refine X_call_sh rfl (by simp only [tys]) rfl (hw _) ?_
      repeat (first|refine ⟨(by show drawK _ _=true; kernel_rfl:drawX _ _ _),?_⟩|exact (by show drawK _ _=true; kernel_rfl:drawX _ _ _)|simp -dsimp (maxSteps:=20000000) (disch:=omega) only [simx,zzC,zzB,tys,ite_self,opnL,callB,callX,readsB,stepOp,nilCmp,ofVal,opBuiltin,opLen,PV.sk,scalBin,scalUn,intBin,opLoad,natOf,opConvert,opField,cellsP,oneP,Value.oneCell',opStore,toIV,scalT,scalA,scalC,boxesA,boxesC,zipB_none,zipB_mx,isZ,opZip,zeroP,opAppendZ,opMakeMap,opLookup,mboxB,opUpdate,↓reduceIte,Nat.reduceSub,Nat.reduceEqDiff,Nat.reduceAdd,Nat.reduceMul,Nat.reduceLT,Nat.reduceLeDiff,Int.reduceToNat,Int.reduceLE,Int.reduceLT,Int.reduceNeg,reduceCtorEq,gos,Int.reduceAdd,Int.reduceSub,Int.reduceMul,Int.reduceEq])
      refine X_opc rfl ?_
      repeat (first|refine ⟨(by show drawK _ _=true; kernel_rfl:drawX _ _ _),?_⟩|exact (by show drawK _ _=true; kernel_rfl:drawX _ _ _)|simp -dsimp (maxSteps:=20000000) (disch:=omega) only [simx,zzC,zzB,tys,ite_self,opnL,callB,callX,readsB,stepOp,nilCmp,ofVal,opBuiltin,opLen,PV.sk,scalBin,scalUn,intBin,opLoad,natOf,opConvert,opField,cellsP,oneP,Value.oneCell',opStore,toIV,scalT,scalA,scalC,boxesA,boxesC,zipB_none,zipB_mx,isZ,opZip,zeroP,opAppendZ,opMakeMap,opLookup,mboxB,opUpdate,↓reduceIte,Nat.reduceSub,Nat.reduceEqDiff,Nat.reduceAdd,Nat.reduceMul,Nat.reduceLT,Nat.reduceLeDiff,Int.reduceToNat,Int.reduceLE,Int.reduceLT,Int.reduceNeg,reduceCtorEq,gos,Int.reduceAdd,Int.reduceSub,Int.reduceMul,Int.reduceEq,j2])
      refine X_opn ((900,i)::base) rfl ?_
      repeat (first|refine ⟨(by show drawK _ _=true; kernel_rfl:drawX _ _ _),?_⟩|exact (by show drawK _ _=true; kernel_rfl:drawX _ _ _)|simp -dsimp (maxSteps:=20000000) (disch:=omega) only [simx,zzC,zzB,tys,ite_self,opnL,callB,callX,readsB,stepOp,nilCmp,ofVal,opBuiltin,opLen,PV.sk,scalBin,scalUn,intBin,opLoad,natOf,opConvert,opField,cellsP,oneP,Value.oneCell',opStore,toIV,scalT,scalA,scalC,boxesA,boxesC,zipB_none,zipB_mx,isZ,opZip,zeroP,opAppendZ,opMakeMap,opLookup,mboxB,opUpdate,↓reduceIte,Nat.reduceSub,Nat.reduceEqDiff,Nat.reduceAdd,Nat.reduceMul,Nat.reduceLT,Nat.reduceLeDiff,Int.reduceToNat,Int.reduceLE,Int.reduceLT,Int.reduceNeg,reduceCtorEq,gos,Int.reduceAdd,Int.reduceSub,Int.reduceMul,Int.reduceEq])
      refine X_append_one (s:=(900,i)::base) (n:=j) (z:=1) (cs:=(tbl j (elX P T row)).map iu) 22 [.int .u64 0] [iu x] (by simp only [tys]) (by simp only [tys]) rfl (by decide) (by simp [tl]) (by simp [rowH_app,Heap.put_at,hNi]) (by simp [Heap.put_at]; rfl) rfl (by simp only [tys]; omega) (by rw [mx_len]; omega) ?_
      repeat (first|refine ⟨(by show drawK _ _=true; kernel_rfl:drawX _ _ _),?_⟩|exact (by show drawK _ _=true; kernel_rfl:drawX _ _ _)|simp -dsimp (maxSteps:=20000000) (disch:=omega) only [simx,zzC,zzB,tys,ite_self,opnL,callB,callX,readsB,stepOp,nilCmp,ofVal,opBuiltin,opLen,PV.sk,scalBin,scalUn,intBin,opLoad,natOf,opConvert,opField,cellsP,oneP,Value.oneCell',opStore,toIV,scalT,scalA,scalC,boxesA,boxesC,zipB_none,zipB_mx,isZ,opZip,zeroP,opAppendZ,opMakeMap,opLookup,mboxB,opUpdate,↓reduceIte,Nat.reduceSub,Nat.reduceEqDiff,Nat.reduceAdd,Nat.reduceMul,Nat.reduceLT,Nat.reduceLeDiff,Int.reduceToNat,Int.reduceLE,Int.reduceLT,Int.reduceNeg,reduceCtorEq,gos,Int.reduceAdd,Int.reduceSub,Int.reduceMul,Int.reduceEq])
      refine ⟨cj,fgt_cons j2 (by simp -dsimp only [simx,zzC,zzB,tys,ite_self,opnL,notIn_cons,notIn_nil] <;> simp [refsP,mem_refs_rowP]) (noVar_row (noVar_row (noVar_row (noVar_rowH (noVar_row (nv _ (by simp))))))) fgt_nil,?_,?_⟩
      · rw [tx,List.map_append]; exact ⟨rfl,rfl⟩
      · rw [tx,List.map_append,rowH_succ]
        funext c
        simp (maxSteps:=20000000) only [Heap.drop_at,rowH_app,Heap.put_at,Heap.none_at,List.mem_cons,List.not_mem_nil,or_false]
        by_cases e0:c=(3,2)::bT
        · subst e0; simp [j2,hR1]
        by_cases e1:c=(1,1)::base
        · subst e1; simp [j2,hR1]
        by_cases e2:c=(8,2)::base
        · subst e2; simp [j2,hR1]
        by_cases e3:c=(900,i)::base
        · subst e3; simp [j2,hR1]
        simp [e0,e1,e2,e3,j2,hR1]
    · have ej:j=r + 1:=by omega
      subst ej
      have tl:=tbl_len (r + 1) (elX P T row)
      have ri:=elR_in hp T hrow (r + 1)
      generalize elR P T row (r + 1)=RR at *
      generalize tbl (r + 1) (elX P T row)=XX at *
      rw [rowP_succ,rowH_succ,List.length_map,tl]
      repeat (first|refine ⟨(by show drawK _ _=true; kernel_rfl:drawX _ _ _),?_⟩|exact (by show drawK _ _=true; kernel_rfl:drawX _ _ _)|simp -dsimp (maxSteps:=20000000) (disch:=omega) only [simx,zzC,zzB,tys,ite_self,opnL,callB,callX,readsB,stepOp,nilCmp,ofVal,opBuiltin,opLen,PV.sk,scalBin,scalUn,intBin,opLoad,natOf,opConvert,opField,cellsP,oneP,Value.oneCell',opStore,toIV,scalT,scalA,scalC,boxesA,boxesC,zipB_none,zipB_mx,isZ,opZip,zeroP,opAppendZ,opMakeMap,opLookup,mboxB,opUpdate,↓reduceIte,Nat.reduceSub,Nat.reduceEqDiff,Nat.reduceAdd,Nat.reduceMul,Nat.reduceLT,Nat.reduceLeDiff,Int.reduceToNat,Int.reduceLE,Int.reduceLT,Int.reduceNeg,reduceCtorEq,gos,Int.reduceAdd,Int.reduceSub,Int.reduceMul,Int.reduceEq,hT])
      refine X_opa ((10,7)::base) rfl ?_
      repeat (first|refine ⟨(by show drawK _ _=true; kernel_rfl:drawX _ _ _),?_⟩|exact (by show drawK _ _=true; kernel_rfl:drawX _ _ _)|simp -dsimp (maxSteps:=20000000) (disch:=omega) only [simx,zzC,zzB,tys,ite_self,opnL,callB,callX,readsB,stepOp,nilCmp,ofVal,opBuiltin,opLen,PV.sk,scalBin,scalUn,intBin,opLoad,natOf,opConvert,opField,cellsP,oneP,Value.oneCell',opStore,toIV,scalT,scalA,scalC,boxesA,boxesC,zipB_none,zipB_mx,isZ,opZip,zeroP,opAppendZ,opMakeMap,opLookup,mboxB,opUpdate,↓reduceIte,Nat.reduceSub,Nat.reduceEqDiff,Nat.reduceAdd,Nat.reduceMul,Nat.reduceLT,Nat.reduceLeDiff,Int.reduceToNat,Int.reduceLE,Int.reduceLT,Int.reduceNeg,reduceCtorEq,gos,Int.reduceAdd,Int.reduceSub,Int.reduceMul,Int.reduceEq,stepAlt,opBuildSliceV,j3])
      refine X_opa ((10,8)::base) rfl ?_
      repeat (first|refine ⟨(by show drawK _ _=true; kernel_rfl:drawX _ _ _),?_⟩|exact (by show drawK _ _=true; kernel_rfl:drawX _ _ _)|simp -dsimp (maxSteps:=20000000) (disch:=omega) only [simx,zzC,zzB,tys,ite_self,opnL,callB,callX,readsB,stepOp,nilCmp,ofVal,opBuiltin,opLen,PV.sk,scalBin,scalUn,intBin,opLoad,natOf,opConvert,opField,cellsP,oneP,Value.oneCell',opStore,toIV,scalT,scalA,scalC,boxesA,boxesC,zipB_none,zipB_mx,isZ,opZip,zeroP,opAppendZ,opMakeMap,opLookup,mboxB,opUpdate,↓reduceIte,Nat.reduceSub,Nat.reduceEqDiff,Nat.reduceAdd,Nat.reduceMul,Nat.reduceLT,Nat.reduceLeDiff,Int.reduceToNat,Int.reduceLE,Int.reduceLT,Int.reduceNeg,reduceCtorEq,gos,Int.reduceAdd,Int.reduceSub,Int.reduceMul,Int.reduceEq,stepAlt])
      refine X_appendV 23 [.slice none 0 0] (by simp only [tys]) (by simp only [tys]) rfl hL (by simp [Heap.put_at]; exact hCol) (by simp [Heap.put_at]; rfl) (by simp only [tys]; omega) (by rw [mx_len]; omega) (fun _ => rfl) ?_
      have hp1:=clmP_succ ((10,8)::base) i
      have nt:(RR.map iu).take C=RR.map iu:=List.take_of_length_le (by simp [rn])
      rcases nzA_spec RR 0 with ⟨z1,z2⟩|⟨n,z1,z2,z3,z4⟩
      · rw [z1] at hix
        have te:=te1 (by rw [z1]; decide)
        obtain ⟨t1,t2,t3,t4⟩:=tk_no (p:=P) (T:=T) (row:=row) (x:=i) (by rw [rl,z1]; decide)
        unfold cupH at hHH
        rw [te,t1,t2,t3,t4,hr,tl] at hHH
        have z0:(-1:Int) < 0:=by decide
        repeat (first|((first|refine X_call_fn2 rfl (by simp only [tys]) ?_|refine X_dcall_fn2 rfl (by simp only [tys]) ?_); apply Exists.intro; apply And.intro; (focus (simp -dsimp only [simx,zzC,zzB,tys,ite_self,opnL,callB,callX,readsB,stepOp,nilCmp,ofVal,opBuiltin,opLen,PV.sk,scalBin,scalUn,intBin,opLoad,natOf,opConvert,opField,cellsP,oneP,Value.oneCell',opStore,toIV,scalT,scalA,scalC,boxesA,boxesC,zipB_none,zipB_mx,isZ,opZip,zeroP,opAppendZ,opMakeMap,opLookup,mboxB,opUpdate,↓reduceIte,Nat.reduceSub,Nat.reduceEqDiff,Nat.reduceAdd,Nat.reduceMul,Nat.reduceLT,Nat.reduceLeDiff,Int.reduceToNat,Int.reduceLE,Int.reduceLT,Int.reduceNeg,reduceCtorEq,zzL,if_true,if_false,List.length_map,rn,nt] <;> rfl)); apply Exists.intro; apply And.intro; (focus (first|exact hix)))|refine X_opc rfl ?_|refine X_dopc rfl ?_|refine ⟨(by show drawK _ _=true; kernel_rfl:drawX _ _ _),?_⟩|exact (by show drawK _ _=true; kernel_rfl:drawX _ _ _)|simp -dsimp (maxSteps:=20000000) (disch:=omega) only [simx,zzC,zzB,tys,ite_self,opnL,callB,callX,readsB,stepOp,nilCmp,ofVal,opBuiltin,opLen,PV.sk,scalBin,scalUn,intBin,opLoad,natOf,opConvert,opField,cellsP,oneP,Value.oneCell',opStore,toIV,scalT,scalA,scalC,boxesA,boxesC,zipB_none,zipB_mx,isZ,opZip,zeroP,opAppendZ,opMakeMap,opLookup,mboxB,opUpdate,↓reduceIte,Nat.reduceSub,Nat.reduceEqDiff,Nat.reduceAdd,Nat.reduceMul,Nat.reduceLT,Nat.reduceLeDiff,Int.reduceToNat,Int.reduceLE,Int.reduceLT,Int.reduceNeg,reduceCtorEq,zzR,gos,Int.reduceAdd,Int.reduceSub,Int.reduceMul,Int.reduceEq,hT,hp1,z0,List.length_map,rn,nt])
        rw [← hHH]
        refine ⟨?_,fun b hb => ?_⟩
        · funext c
          simp (maxSteps:=20000000) only [Heap.drop_at,rowH_app,Heap.put_at,Heap.none_at,List.mem_cons,List.not_mem_nil,or_false]
          by_cases e0:c=(3,2)::bT
          · subst e0; simp [j1,j2,j3,j4,j5,j6,j7,j8,rowP_zero,rowP_succ,hR,hQ,hU,hV,hNi,clmP_succ,tl]
          by_cases e1:c=(10,8)::base
          · subst e1; simp [j1,j2,j3,j4,j5,j6,j7,j8,rowP_zero,rowP_succ,hR,hQ,hU,hV,hNi,clmP_succ,tl]
          by_cases e2:c=(1,1)::base
          · subst e2; simp [j1,j2,j3,j4,j5,j6,j7,j8,rowP_zero,rowP_succ,hR,hQ,hU,hV,hNi,clmP_succ,tl]
          by_cases e3:c=(8,2)::base
          · subst e3; simp [j1,j2,j3,j4,j5,j6,j7,j8,rowP_zero,rowP_succ,hR,hQ,hU,hV,hNi,clmP_succ,tl]
          by_cases e4:c=(10,7)::base
          · subst e4; simp [j1,j2,j3,j4,j5,j6,j7,j8,rowP_zero,rowP_succ,hR,hQ,hU,hV,hNi,clmP_succ,tl]
          by_cases e5:c=(15,7)::base
          · subst e5; simp [j1,j2,j3,j4,j5,j6,j7,j8,rowP_zero,rowP_succ,hR,hQ,hU,hV,hNi,clmP_succ,tl]
          by_cases e6:c=(16,10)::base
          · subst e6; simp [j1,j2,j3,j4,j5,j6,j7,j8,rowP_zero,rowP_succ,hR,hQ,hU,hV,hNi,clmP_succ,tl]
          by_cases e7:c=(16,18)::base
          · subst e7; simp [j1,j2,j3,j4,j5,j6,j7,j8,rowP_zero,rowP_succ,hR,hQ,hU,hV,hNi,clmP_succ,tl]
          by_cases e8:c=(16,26)::base
          · subst e8; simp [j1,j2,j3,j4,j5,j6,j7,j8,rowP_zero,rowP_succ,hR,hQ,hU,hV,hNi,clmP_succ,tl]
          by_cases e9:c=(16,33)::base
          · subst e9; simp [j1,j2,j3,j4,j5,j6,j7,j8,rowP_zero,rowP_succ,hR,hQ,hU,hV,hNi,clmP_succ,tl]
          by_cases e10:c=(16,11)::base
          · subst e10; simp [j1,j2,j3,j4,j5,j6,j7,j8,rowP_zero,rowP_succ,hR,hQ,hU,hV,hNi,clmP_succ,tl]
          by_cases e11:c=(16,19)::base
          · subst e11; simp [j1,j2,j3,j4,j5,j6,j7,j8,rowP_zero,rowP_succ,hR,hQ,hU,hV,hNi,clmP_succ,tl]
          by_cases e12:c=(16,27)::base
          · subst e12; simp [j1,j2,j3,j4,j5,j6,j7,j8,rowP_zero,rowP_succ,hR,hQ,hU,hV,hNi,clmP_succ,tl]
          by_cases e13:c=(16,34)::base
          · subst e13; simp [j1,j2,j3,j4,j5,j6,j7,j8,rowP_zero,rowP_succ,hR,hQ,hU,hV,hNi,clmP_succ,tl]
          by_cases e14:c=(900,i)::base
          · subst e14; simp [j1,j2,j3,j4,j5,j6,j7,j8,rowP_zero,rowP_succ,hR,hQ,hU,hV,hNi,clmP_succ,tl]
          simp [e0,e1,e2,e3,e4,e5,e6,e7,e8,e9,e10,e11,e12,e13,e14,j1,j2,j3,j4,j5,j6,j7,j8,rowP_zero,rowP_succ,hR,hQ,hU,hV,hNi,clmP_succ,tl]
        · have n0:=nv b hb
          have n1:=nvL b hb
          clear nv nvL
          simp only [List.mem_cons,List.not_mem_nil,or_false] at hb
          rcases hb with rfl|rfl|rfl|rfl|rfl|rfl|rfl|rfl
          all_goals (repeat (first|exact n0|refine noVar_row ?_|refine noVar_var ?_ (by simp [refsL,refsP,refsL_append,mem_refs_rowP,mem_refs_clmP,n1])))
      · have zn:(0 + n:Nat)=n:=by omega
        rw [z1,zn] at hix
        have te:=te2 (by rw [z1]; omega)
        obtain ⟨t1,t2,t3,t4⟩:=tk_yes (p:=P) (T:=T) (row:=row) (x:=i) (by rw [rl,z1]; omega)
        unfold cupH at hHH
        rw [te,t1,t2,t3,t4,rl,z1,zn,show (T.us ++ [RR]).length=r + 1 + 1 by simp [hr],show (XX ++ [(1:Int)]).length=r + 1 + 1 by simp [tl],Int.toNat_natCast] at hHH
        have ln:(RR.map iu)[n]?=some (iu (RR.getD n 0)):=by rw [List.getElem?_map,getD_some rn (by omega)]; rfl
        have ii1:=Inv_in hP hp (getD_of ri (i:=n) z2) z3
        generalize RR.getD n 0=a at ln ii1 hHH
        have z0:¬ (n:Int) < 0:=by omega
        have nC:n < C:=by omega
        have ilt:i < i + 1:=Nat.lt_succ_self i
        have ile:i + 1 ≤ i + 1:=Nat.le_refl _
        have lt:∀ x:PV,(L ++ [x]).take i=L:=fun x => List.take_left' hL
        have ld:∀ x:PV,(L ++ [x]).drop (i + 1)=[]:=fun x => List.drop_eq_nil_of_le (by simp [hL])
        repeat (first|((first|refine X_call_fn2 rfl (by simp only [tys]) ?_|refine X_dcall_fn2 rfl (by simp only [tys]) ?_); apply Exists.intro; apply And.intro; (focus (simp -dsimp only [simx,zzC,zzB,tys,ite_self,opnL,callB,callX,readsB,stepOp,nilCmp,ofVal,opBuiltin,opLen,PV.sk,scalBin,scalUn,intBin,opLoad,natOf,opConvert,opField,cellsP,oneP,Value.oneCell',opStore,toIV,scalT,scalA,scalC,boxesA,boxesC,zipB_none,zipB_mx,isZ,opZip,zeroP,opAppendZ,opMakeMap,opLookup,mboxB,opUpdate,↓reduceIte,Nat.reduceSub,Nat.reduceEqDiff,Nat.reduceAdd,Nat.reduceMul,Nat.reduceLT,Nat.reduceLeDiff,Int.reduceToNat,Int.reduceLE,Int.reduceLT,Int.reduceNeg,reduceCtorEq,zzL,if_true,if_false,List.length_map,rn,nt] <;> rfl)); apply Exists.intro; apply And.intro; (focus (first|exact hix|exact ii1)))|refine ⟨(by show drawK _ _=true; kernel_rfl:drawX _ _ _),?_⟩|exact (by show drawK _ _=true; kernel_rfl:drawX _ _ _)|simp -dsimp (maxSteps:=20000000) (disch:=omega) only [simx,zzC,zzB,tys,ite_self,opnL,callB,callX,readsB,stepOp,nilCmp,ofVal,opBuiltin,opLen,PV.sk,scalBin,scalUn,intBin,opLoad,natOf,opConvert,opField,cellsP,oneP,Value.oneCell',opStore,toIV,scalT,scalA,scalC,boxesA,boxesC,zipB_none,zipB_mx,isZ,opZip,zeroP,opAppendZ,opMakeMap,opLookup,mboxB,opUpdate,↓reduceIte,Nat.reduceSub,Nat.reduceEqDiff,Nat.reduceAdd,Nat.reduceMul,Nat.reduceLT,Nat.reduceLeDiff,Int.reduceToNat,Int.reduceLE,Int.reduceLT,Int.reduceNeg,reduceCtorEq,gos,Int.reduceAdd,Int.reduceSub,Int.reduceMul,Int.reduceEq,hT,hp1,z0,List.length_map,rn,nt,ln,nC])
        refine X_dopc rfl ?_
        repeat (first|refine ⟨(by show drawK _ _=true; kernel_rfl:drawX _ _ _),?_⟩|exact (by show drawK _ _=true; kernel_rfl:drawX _ _ _)|simp -dsimp (maxSteps:=20000000) (disch:=omega) only [simx,zzC,zzB,tys,ite_self,opnL,callB,callX,readsB,stepOp,nilCmp,ofVal,opBuiltin,opLen,PV.sk,scalBin,scalUn,intBin,opLoad,natOf,opConvert,opField,cellsP,oneP,Value.oneCell',opStore,toIV,scalT,scalA,scalC,boxesA,boxesC,zipB_none,zipB_mx,isZ,opZip,zeroP,opAppendZ,opMakeMap,opLookup,mboxB,opUpdate,↓reduceIte,Nat.reduceSub,Nat.reduceEqDiff,Nat.reduceAdd,Nat.reduceMul,Nat.reduceLT,Nat.reduceLeDiff,Int.reduceToNat,Int.reduceLE,Int.reduceLT,Int.reduceNeg,reduceCtorEq,gos,Int.reduceAdd,Int.reduceSub,Int.reduceMul,Int.reduceEq,j4])
        refine X_dopn ((900,i)::base) rfl ?_
        repeat (first|refine ⟨(by show drawK _ _=true; kernel_rfl:drawX _ _ _),?_⟩|exact (by show drawK _ _=true; kernel_rfl:drawX _ _ _)|simp -dsimp (maxSteps:=20000000) (disch:=omega) only [simx,zzC,zzB,tys,ite_self,opnL,callB,callX,readsB,stepOp,nilCmp,ofVal,opBuiltin,opLen,PV.sk,scalBin,scalUn,intBin,opLoad,natOf,opConvert,opField,cellsP,oneP,Value.oneCell',opStore,toIV,scalT,scalA,scalC,boxesA,boxesC,zipB_none,zipB_mx,isZ,opZip,zeroP,opAppendZ,opMakeMap,opLookup,mboxB,opUpdate,↓reduceIte,Nat.reduceSub,Nat.reduceEqDiff,Nat.reduceAdd,Nat.reduceMul,Nat.reduceLT,Nat.reduceLeDiff,Int.reduceToNat,Int.reduceLE,Int.reduceLT,Int.reduceNeg,reduceCtorEq,gos,Int.reduceAdd,Int.reduceSub,Int.reduceMul,Int.reduceEq])
        refine X_dappend_own (z:=1) (cs:=XX.map iu) 22 [.int .u64 0] [iu 1] (by simp only [tys]) (by simp only [tys]) rfl (by decide) (by simp [Heap.put_at]) (by simp [tl]) (by simp [tl]) (by simp [Heap.put_at]; rfl) rfl (by simp only [tys]; omega) (by rw [mx_len]; omega) ?_
        repeat (first|refine ⟨(by show drawK _ _=true; kernel_rfl:drawX _ _ _),?_⟩|exact (by show drawK _ _=true; kernel_rfl:drawX _ _ _)|simp -dsimp (maxSteps:=20000000) (disch:=omega) only [simx,zzC,zzB,tys,ite_self,opnL,callB,callX,readsB,stepOp,nilCmp,ofVal,opBuiltin,opLen,PV.sk,scalBin,scalUn,intBin,opLoad,natOf,opConvert,opField,cellsP,oneP,Value.oneCell',opStore,toIV,scalT,scalA,scalC,boxesA,boxesC,zipB_none,zipB_mx,isZ,opZip,zeroP,opAppendZ,opMakeMap,opLookup,mboxB,opUpdate,↓reduceIte,Nat.reduceSub,Nat.reduceEqDiff,Nat.reduceAdd,Nat.reduceMul,Nat.reduceLT,Nat.reduceLeDiff,Int.reduceToNat,Int.reduceLE,Int.reduceLT,Int.reduceNeg,reduceCtorEq,gos,Int.reduceAdd,Int.reduceSub,Int.reduceMul,Int.reduceEq,List.length_append,hL,lt,ld,ilt,ile,rowP_succ,List.length_map,hr,I.ql,I.vl,I.rl])
        refine X_dopc rfl ?_
        repeat (first|refine ⟨(by show drawK _ _=true; kernel_rfl:drawX _ _ _),?_⟩|exact (by show drawK _ _=true; kernel_rfl:drawX _ _ _)|simp -dsimp (maxSteps:=20000000) (disch:=omega) only [simx,zzC,zzB,tys,ite_self,opnL,callB,callX,readsB,stepOp,nilCmp,ofVal,opBuiltin,opLen,PV.sk,scalBin,scalUn,intBin,opLoad,natOf,opConvert,opField,cellsP,oneP,Value.oneCell',opStore,toIV,scalT,scalA,scalC,boxesA,boxesC,zipB_none,zipB_mx,isZ,opZip,zeroP,opAppendZ,opMakeMap,opLookup,mboxB,opUpdate,↓reduceIte,Nat.reduceSub,Nat.reduceEqDiff,Nat.reduceAdd,Nat.reduceMul,Nat.reduceLT,Nat.reduceLeDiff,Int.reduceToNat,Int.reduceLE,Int.reduceLT,Int.reduceNeg,reduceCtorEq,gos,Int.reduceAdd,Int.reduceSub,Int.reduceMul,Int.reduceEq,j5,List.length_map,rn,nt])
        refine X_dopc rfl ?_
        repeat (first|refine ⟨(by show drawK _ _=true; kernel_rfl:drawX _ _ _),?_⟩|exact (by show drawK _ _=true; kernel_rfl:drawX _ _ _)|simp -dsimp (maxSteps:=20000000) (disch:=omega) only [simx,zzC,zzB,tys,ite_self,opnL,callB,callX,readsB,stepOp,nilCmp,ofVal,opBuiltin,opLen,PV.sk,scalBin,scalUn,intBin,opLoad,natOf,opConvert,opField,cellsP,oneP,Value.oneCell',opStore,toIV,scalT,scalA,scalC,boxesA,boxesC,zipB_none,zipB_mx,isZ,opZip,zeroP,opAppendZ,opMakeMap,opLookup,mboxB,opUpdate,↓reduceIte,Nat.reduceSub,Nat.reduceEqDiff,Nat.reduceAdd,Nat.reduceMul,Nat.reduceLT,Nat.reduceLeDiff,Int.reduceToNat,Int.reduceLE,Int.reduceLT,Int.reduceNeg,reduceCtorEq,gos,Int.reduceAdd,Int.reduceSub,Int.reduceMul,Int.reduceEq])
        refine X_dappend_own (z:=1) (cs:=T.rows.map ii) 3 [.int .i64 0] [ii i] (by simp only [tys]) (by simp only [tys]) rfl (by decide) (by simp [Heap.put_at]; exact hR) (by simp [hr,I.ql,I.vl,I.rl]) (by simp [hr,I.ql,I.vl,I.rl]) (by simp [Heap.put_at]; rfl) rfl (by simp only [tys]; omega) (by rw [mx_len]; omega) ?_
        repeat (first|refine ⟨(by show drawK _ _=true; kernel_rfl:drawX _ _ _),?_⟩|exact (by show drawK _ _=true; kernel_rfl:drawX _ _ _)|simp -dsimp (maxSteps:=20000000) (disch:=omega) only [simx,zzC,zzB,tys,ite_self,opnL,callB,callX,readsB,stepOp,nilCmp,ofVal,opBuiltin,opLen,PV.sk,scalBin,scalUn,intBin,opLoad,natOf,opConvert,opField,cellsP,oneP,Value.oneCell',opStore,toIV,scalT,scalA,scalC,boxesA,boxesC,zipB_none,zipB_mx,isZ,opZip,zeroP,opAppendZ,opMakeMap,opLookup,mboxB,opUpdate,↓reduceIte,Nat.reduceSub,Nat.reduceEqDiff,Nat.reduceAdd,Nat.reduceMul,Nat.reduceLT,Nat.reduceLeDiff,Int.reduceToNat,Int.reduceLE,Int.reduceLT,Int.reduceNeg,reduceCtorEq,gos,Int.reduceAdd,Int.reduceSub,Int.reduceMul,Int.reduceEq,hT,rowP_succ,List.length_map,hr,I.ql,I.vl,I.rl])
        refine X_dopc rfl ?_
        repeat (first|refine ⟨(by show drawK _ _=true; kernel_rfl:drawX _ _ _),?_⟩|exact (by show drawK _ _=true; kernel_rfl:drawX _ _ _)|simp -dsimp (maxSteps:=20000000) (disch:=omega) only [simx,zzC,zzB,tys,ite_self,opnL,callB,callX,readsB,stepOp,nilCmp,ofVal,opBuiltin,opLen,PV.sk,scalBin,scalUn,intBin,opLoad,natOf,opConvert,opField,cellsP,oneP,Value.oneCell',opStore,toIV,scalT,scalA,scalC,boxesA,boxesC,zipB_none,zipB_mx,isZ,opZip,zeroP,opAppendZ,opMakeMap,opLookup,mboxB,opUpdate,↓reduceIte,Nat.reduceSub,Nat.reduceEqDiff,Nat.reduceAdd,Nat.reduceMul,Nat.reduceLT,Nat.reduceLeDiff,Int.reduceToNat,Int.reduceLE,Int.reduceLT,Int.reduceNeg,reduceCtorEq,gos,Int.reduceAdd,Int.reduceSub,Int.reduceMul,Int.reduceEq,j6,List.length_map,rn,nt])
        refine X_dopc rfl ?_
        repeat (first|refine ⟨(by show drawK _ _=true; kernel_rfl:drawX _ _ _),?_⟩|exact (by show drawK _ _=true; kernel_rfl:drawX _ _ _)|simp -dsimp (maxSteps:=20000000) (disch:=omega) only [simx,zzC,zzB,tys,ite_self,opnL,callB,callX,readsB,stepOp,nilCmp,ofVal,opBuiltin,opLen,PV.sk,scalBin,scalUn,intBin,opLoad,natOf,opConvert,opField,cellsP,oneP,Value.oneCell',opStore,toIV,scalT,scalA,scalC,boxesA,boxesC,zipB_none,zipB_mx,isZ,opZip,zeroP,opAppendZ,opMakeMap,opLookup,mboxB,opUpdate,↓reduceIte,Nat.reduceSub,Nat.reduceEqDiff,Nat.reduceAdd,Nat.reduceMul,Nat.reduceLT,Nat.reduceLeDiff,Int.reduceToNat,Int.reduceLE,Int.reduceLT,Int.reduceNeg,reduceCtorEq,gos,Int.reduceAdd,Int.reduceSub,Int.reduceMul,Int.reduceEq])
        refine X_dappend_own (z:=1) (cs:=T.cols.map ii) 3 [.int .i64 0] [ii n] (by simp only [tys]) (by simp only [tys]) rfl (by decide) (by simp [Heap.put_at]; exact hQ) (by simp [hr,I.ql,I.vl,I.rl]) (by simp [hr,I.ql,I.vl,I.rl]) (by simp [Heap.put_at]; rfl) rfl (by simp only [tys]; omega) (by rw [mx_len]; omega) ?_
        repeat (first|refine ⟨(by show drawK _ _=true; kernel_rfl:drawX _ _ _),?_⟩|exact (by show drawK _ _=true; kernel_rfl:drawX _ _ _)|simp -dsimp (maxSteps:=20000000) (disch:=omega) only [simx,zzC,zzB,tys,ite_self,opnL,callB,callX,readsB,stepOp,nilCmp,ofVal,opBuiltin,opLen,PV.sk,scalBin,scalUn,intBin,opLoad,natOf,opConvert,opField,cellsP,oneP,Value.oneCell',opStore,toIV,scalT,scalA,scalC,boxesA,boxesC,zipB_none,zipB_mx,isZ,opZip,zeroP,opAppendZ,opMakeMap,opLookup,mboxB,opUpdate,↓reduceIte,Nat.reduceSub,Nat.reduceEqDiff,Nat.reduceAdd,Nat.reduceMul,Nat.reduceLT,Nat.reduceLeDiff,Int.reduceToNat,Int.reduceLE,Int.reduceLT,Int.reduceNeg,reduceCtorEq,gos,Int.reduceAdd,Int.reduceSub,Int.reduceMul,Int.reduceEq,hT,rowP_succ,List.length_map,hr,I.ql,I.vl,I.rl])
        refine X_dopc rfl ?_
        repeat (first|refine ⟨(by show drawK _ _=true; kernel_rfl:drawX _ _ _),?_⟩|exact (by show drawK _ _=true; kernel_rfl:drawX _ _ _)|simp -dsimp (maxSteps:=20000000) (disch:=omega) only [simx,zzC,zzB,tys,ite_self,opnL,callB,callX,readsB,stepOp,nilCmp,ofVal,opBuiltin,opLen,PV.sk,scalBin,scalUn,intBin,opLoad,natOf,opConvert,opField,cellsP,oneP,Value.oneCell',opStore,toIV,scalT,scalA,scalC,boxesA,boxesC,zipB_none,zipB_mx,isZ,opZip,zeroP,opAppendZ,opMakeMap,opLookup,mboxB,opUpdate,↓reduceIte,Nat.reduceSub,Nat.reduceEqDiff,Nat.reduceAdd,Nat.reduceMul,Nat.reduceLT,Nat.reduceLeDiff,Int.reduceToNat,Int.reduceLE,Int.reduceLT,Int.reduceNeg,reduceCtorEq,gos,Int.reduceAdd,Int.reduceSub,Int.reduceMul,Int.reduceEq,j7,List.length_map,rn,nt])
        refine X_dopc rfl ?_
        repeat (first|refine ⟨(by show drawK _ _=true; kernel_rfl:drawX _ _ _),?_⟩|exact (by show drawK _ _=true; kernel_rfl:drawX _ _ _)|simp -dsimp (maxSteps:=20000000) (disch:=omega) only [simx,zzC,zzB,tys,ite_self,opnL,callB,callX,readsB,stepOp,nilCmp,ofVal,opBuiltin,opLen,PV.sk,scalBin,scalUn,intBin,opLoad,natOf,opConvert,opField,cellsP,oneP,Value.oneCell',opStore,toIV,scalT,scalA,scalC,boxesA,boxesC,zipB_none,zipB_mx,isZ,opZip,zeroP,opAppendZ,opMakeMap,opLookup,mboxB,opUpdate,↓reduceIte,Nat.reduceSub,Nat.reduceEqDiff,Nat.reduceAdd,Nat.reduceMul,Nat.reduceLT,Nat.reduceLeDiff,Int.reduceToNat,Int.reduceLE,Int.reduceLT,Int.reduceNeg,reduceCtorEq,gos,Int.reduceAdd,Int.reduceSub,Int.reduceMul,Int.reduceEq])
        refine X_dappend_own (z:=1) (cs:=T.us.map (lv C)) 23 [.slice none 0 0] [lv C RR] (by simp only [tys]) (by simp only [tys]) rfl (by decide) (by simp [Heap.put_at]; exact hU) (by simp [hr,I.ql,I.vl,I.rl]) (by simp [hr,I.ql,I.vl,I.rl]) (by simp [Heap.put_at]; rfl) rfl (by simp only [tys]; omega) (by rw [mx_len]; omega) ?_
        repeat (first|refine ⟨(by show drawK _ _=true; kernel_rfl:drawX _ _ _),?_⟩|exact (by show drawK _ _=true; kernel_rfl:drawX _ _ _)|simp -dsimp (maxSteps:=20000000) (disch:=omega) only [simx,zzC,zzB,tys,ite_self,opnL,callB,callX,readsB,stepOp,nilCmp,ofVal,opBuiltin,opLen,PV.sk,scalBin,scalUn,intBin,opLoad,natOf,opConvert,opField,cellsP,oneP,Value.oneCell',opStore,toIV,scalT,scalA,scalC,boxesA,boxesC,zipB_none,zipB_mx,isZ,opZip,zeroP,opAppendZ,opMakeMap,opLookup,mboxB,opUpdate,↓reduceIte,Nat.reduceSub,Nat.reduceEqDiff,Nat.reduceAdd,Nat.reduceMul,Nat.reduceLT,Nat.reduceLeDiff,Int.reduceToNat,Int.reduceLE,Int.reduceLT,Int.reduceNeg,reduceCtorEq,gos,Int.reduceAdd,Int.reduceSub,Int.reduceMul,Int.reduceEq,hT,rowP_succ,List.length_map,hr,I.ql,I.vl,I.rl])
        refine X_dopc rfl ?_
        repeat (first|refine ⟨(by show drawK _ _=true; kernel_rfl:drawX _ _ _),?_⟩|exact (by show drawK _ _=true; kernel_rfl:drawX _ _ _)|simp -dsimp (maxSteps:=20000000) (disch:=omega) only [simx,zzC,zzB,tys,ite_self,opnL,callB,callX,readsB,stepOp,nilCmp,ofVal,opBuiltin,opLen,PV.sk,scalBin,scalUn,intBin,opLoad,natOf,opConvert,opField,cellsP,oneP,Value.oneCell',opStore,toIV,scalT,scalA,scalC,boxesA,boxesC,zipB_none,zipB_mx,isZ,opZip,zeroP,opAppendZ,opMakeMap,opLookup,mboxB,opUpdate,↓reduceIte,Nat.reduceSub,Nat.reduceEqDiff,Nat.reduceAdd,Nat.reduceMul,Nat.reduceLT,Nat.reduceLeDiff,Int.reduceToNat,Int.reduceLE,Int.reduceLT,Int.reduceNeg,reduceCtorEq,gos,Int.reduceAdd,Int.reduceSub,Int.reduceMul,Int.reduceEq,j8,List.length_map,rn,nt])
        refine X_dopc rfl ?_
        repeat (first|refine ⟨(by show drawK _ _=true; kernel_rfl:drawX _ _ _),?_⟩|exact (by show drawK _ _=true; kernel_rfl:drawX _ _ _)|simp -dsimp (maxSteps:=20000000) (disch:=omega) only [simx,zzC,zzB,tys,ite_self,opnL,callB,callX,readsB,stepOp,nilCmp,ofVal,opBuiltin,opLen,PV.sk,scalBin,scalUn,intBin,opLoad,natOf,opConvert,opField,cellsP,oneP,Value.oneCell',opStore,toIV,scalT,scalA,scalC,boxesA,boxesC,zipB_none,zipB_mx,isZ,opZip,zeroP,opAppendZ,opMakeMap,opLookup,mboxB,opUpdate,↓reduceIte,Nat.reduceSub,Nat.reduceEqDiff,Nat.reduceAdd,Nat.reduceMul,Nat.reduceLT,Nat.reduceLeDiff,Int.reduceToNat,Int.reduceLE,Int.reduceLT,Int.reduceNeg,reduceCtorEq,gos,Int.reduceAdd,Int.reduceSub,Int.reduceMul,Int.reduceEq])
        refine X_dappend_own (z:=1) (cs:=T.vs.map iu) 22 [.int .u64 0] [iu (finvC P a)] (by simp only [tys]) (by simp only [tys]) rfl (by decide) (by simp [Heap.put_at]; exact hV) (by simp [hr,I.ql,I.vl,I.rl]) (by simp [hr,I.ql,I.vl,I.rl]) (by simp [Heap.put_at]; rfl) rfl (by simp only [tys]; omega) (by rw [mx_len]; omega) ?_
        repeat (first|refine ⟨(by show drawK _ _=true; kernel_rfl:drawX _ _ _),?_⟩|exact (by show drawK _ _=true; kernel_rfl:drawX _ _ _)|simp -dsimp (maxSteps:=20000000) (disch:=omega) only [simx,zzC,zzB,tys,ite_self,opnL,callB,callX,readsB,stepOp,nilCmp,ofVal,opBuiltin,opLen,PV.sk,scalBin,scalUn,intBin,opLoad,natOf,opConvert,opField,cellsP,oneP,Value.oneCell',opStore,toIV,scalT,scalA,scalC,boxesA,boxesC,zipB_none,zipB_mx,isZ,opZip,zeroP,opAppendZ,opMakeMap,opLookup,mboxB,opUpdate,↓reduceIte,Nat.reduceSub,Nat.reduceEqDiff,Nat.reduceAdd,Nat.reduceMul,Nat.reduceLT,Nat.reduceLeDiff,Int.reduceToNat,Int.reduceLE,Int.reduceLT,Int.reduceNeg,reduceCtorEq,gos,Int.reduceAdd,Int.reduceSub,Int.reduceMul,Int.reduceEq,hT,rowP_succ,List.length_map,hr,I.ql,I.vl,I.rl])
        repeat (first|refine X_opc rfl ?_|refine X_dopc rfl ?_|refine ⟨(by show drawK _ _=true; kernel_rfl:drawX _ _ _),?_⟩|exact (by show drawK _ _=true; kernel_rfl:drawX _ _ _)|simp -dsimp (maxSteps:=20000000) (disch:=omega) only [simx,zzC,zzB,tys,ite_self,opnL,callB,callX,readsB,stepOp,nilCmp,ofVal,opBuiltin,opLen,PV.sk,scalBin,scalUn,intBin,opLoad,natOf,opConvert,opField,cellsP,oneP,Value.oneCell',opStore,toIV,scalT,scalA,scalC,boxesA,boxesC,zipB_none,zipB_mx,isZ,opZip,zeroP,opAppendZ,opMakeMap,opLookup,mboxB,opUpdate,↓reduceIte,Nat.reduceSub,Nat.reduceEqDiff,Nat.reduceAdd,Nat.reduceMul,Nat.reduceLT,Nat.reduceLeDiff,Int.reduceToNat,Int.reduceLE,Int.reduceLT,Int.reduceNeg,reduceCtorEq,zzR,gos,Int.reduceAdd,Int.reduceSub,Int.reduceMul,Int.reduceEq])
        rw [← hHH]
        refine ⟨?_,fun b hb => ?_⟩
        · funext c
          simp (maxSteps:=20000000) only [Heap.drop_at,rowH_app,Heap.put_at,Heap.none_at,List.mem_cons,List.not_mem_nil,or_false]
          by_cases e0:c=(3,2)::bT
          · subst e0; simp [j1,j2,j3,j4,j5,j6,j7,j8,rowP_zero,rowP_succ,hR,hQ,hU,hV,hNi,clmP_succ,tl,hr,I.ql,I.vl,I.rl]
          by_cases e1:c=(10,8)::base
          · subst e1; simp [j1,j2,j3,j4,j5,j6,j7,j8,rowP_zero,rowP_succ,hR,hQ,hU,hV,hNi,clmP_succ,tl,hr,I.ql,I.vl,I.rl]
          by_cases e2:c=(1,1)::base
          · subst e2; simp [j1,j2,j3,j4,j5,j6,j7,j8,rowP_zero,rowP_succ,hR,hQ,hU,hV,hNi,clmP_succ,tl,hr,I.ql,I.vl,I.rl]
          by_cases e3:c=(8,2)::base
          · subst e3; simp [j1,j2,j3,j4,j5,j6,j7,j8,rowP_zero,rowP_succ,hR,hQ,hU,hV,hNi,clmP_succ,tl,hr,I.ql,I.vl,I.rl]
          by_cases e4:c=(10,7)::base
          · subst e4; simp [j1,j2,j3,j4,j5,j6,j7,j8,rowP_zero,rowP_succ,hR,hQ,hU,hV,hNi,clmP_succ,tl,hr,I.ql,I.vl,I.rl]
          by_cases e5:c=(15,7)::base
          · subst e5; simp [j1,j2,j3,j4,j5,j6,j7,j8,rowP_zero,rowP_succ,hR,hQ,hU,hV,hNi,clmP_succ,tl,hr,I.ql,I.vl,I.rl]
          by_cases e6:c=(16,10)::base
          · subst e6; simp [j1,j2,j3,j4,j5,j6,j7,j8,rowP_zero,rowP_succ,hR,hQ,hU,hV,hNi,clmP_succ,tl,hr,I.ql,I.vl,I.rl]
          by_cases e7:c=(16,18)::base
          · subst e7; simp [j1,j2,j3,j4,j5,j6,j7,j8,rowP_zero,rowP_succ,hR,hQ,hU,hV,hNi,clmP_succ,tl,hr,I.ql,I.vl,I.rl]
          by_cases e8:c=(16,26)::base
          · subst e8; simp [j1,j2,j3,j4,j5,j6,j7,j8,rowP_zero,rowP_succ,hR,hQ,hU,hV,hNi,clmP_succ,tl,hr,I.ql,I.vl,I.rl]
          by_cases e9:c=(16,33)::base
          · subst e9; simp [j1,j2,j3,j4,j5,j6,j7,j8,rowP_zero,rowP_succ,hR,hQ,hU,hV,hNi,clmP_succ,tl,hr,I.ql,I.vl,I.rl]
          by_cases e10:c=(16,11)::base
          · subst e10; simp [j1,j2,j3,j4,j5,j6,j7,j8,rowP_zero,rowP_succ,hR,hQ,hU,hV,hNi,clmP_succ,tl,hr,I.ql,I.vl,I.rl]
          by_cases e11:c=(16,19)::base
          · subst e11; simp [j1,j2,j3,j4,j5,j6,j7,j8,rowP_zero,rowP_succ,hR,hQ,hU,hV,hNi,clmP_succ,tl,hr,I.ql,I.vl,I.rl]
          by_cases e12:c=(16,27)::base
          · subst e12; simp [j1,j2,j3,j4,j5,j6,j7,j8,rowP_zero,rowP_succ,hR,hQ,hU,hV,hNi,clmP_succ,tl,hr,I.ql,I.vl,I.rl]
          by_cases e13:c=(16,34)::base
          · subst e13; simp [j1,j2,j3,j4,j5,j6,j7,j8,rowP_zero,rowP_succ,hR,hQ,hU,hV,hNi,clmP_succ,tl,hr,I.ql,I.vl,I.rl]
          by_cases e14:c=(900,i)::base
          · subst e14; simp [j1,j2,j3,j4,j5,j6,j7,j8,rowP_zero,rowP_succ,hR,hQ,hU,hV,hNi,clmP_succ,tl,hr,I.ql,I.vl,I.rl]
          simp [e0,e1,e2,e3,e4,e5,e6,e7,e8,e9,e10,e11,e12,e13,e14,j1,j2,j3,j4,j5,j6,j7,j8,rowP_zero,rowP_succ,hR,hQ,hU,hV,hNi,clmP_succ,tl,hr,I.ql,I.vl,I.rl]
        · have n0:=nv b hb
          have n1:=nvL b hb
          clear nv nvL
          simp only [List.mem_cons,List.not_mem_nil,or_false] at hb
          rcases hb with rfl|rfl|rfl|rfl|rfl|rfl|rfl|rfl
          all_goals (repeat (first|exact n0|refine noVar_row ?_|refine noVar_var ?_ (by simp [refsL,refsP,refsL_append,mem_refs_rowP,mem_refs_clmP,n1])))
end Go.Proofs.Ytmalpmnmknpphaa.TM
namespace Go.Proofs.Ytmalpmnmknpphaa.TM
open Go
def lowerJ (h:Heap) (p:PV):Option IV:=match lowerC h p with
  | some (.i x) => some x
  | _ => none
def lowerCN (h:Heap):PV → Option PV
  | .view b off z n top => match h b with
    | some (.var cs) => if cs.length=top ∧ off + n * z ≤ cs.length then (mapO (lowerJ h) ((cs.drop off).take (n * z))).map fun xs => .i (.l n xs) else none
    | _ => lowerC h (.view b off z n top)
  | p => lowerC h p
def lowerAN (h:Heap):PV → Option PV
  | .agg cs => (mapO (lowerCN h) cs).map .agg
  | p => lowerCN h p
def lowerTN (h:Heap):PV → Option PV
  | .tup cs => (mapO (lowerAN h) cs).map .tup
  | p => lowerAN h p
section
variable {P:Program} {β:Pl} {h1:Heap} {w:World}
theorem lowerC_rep1 (H1 : HInv β h1 w) {R : Addr → Value → Prop} {β0 : Pl} {h0 : Heap} {S0 : Nat → Nat} {p q : PV} {v : Value} (hp : Rep β h1 w p v) (hl : lowerC h1 p = some q)
    (hR1:∀ a v,Rd β h1 w a v → R a v) (hR2:∀ b x,h1 b=some x → ∀ j v,w.cell? ⟨β b,j,none⟩=some v → R ⟨β b,j,none⟩ v):RepP β0 h0 R S0 q v :=
  lowerC_rep H1 hp hl (fun b _ fz cs hb => ⟨fz,hb⟩) hR1 fun b _ => hR2 b
theorem lowerCN_rep (H1 : HInv β h1 w) {R : Addr → Value → Prop} {β0 : Pl} {h0 : Heap} {S0 : Nat → Nat} {p q : PV} {v : Value} (hp : Rep β h1 w p v) (hl : lowerCN h1 p = some q)
    (hR1:∀ a v,Rd β h1 w a v → R a v) (hR2:∀ b x,h1 b=some x → ∀ j v,w.cell? ⟨β b,j,none⟩=some v → R ⟨β b,j,none⟩ v):RepP β0 h0 R S0 q v:=by
  unfold lowerCN at hl
  split at hl
  · rename_i b off z n top
    split at hl
    · rename_i cs hb
      split at hl
      case isFalse => cases hl
      rename_i hc
      cases hm:mapO (lowerJ h1) ((cs.drop off).take (n * z)) with
      | none => simp [hm] at hl
      | some xs =>
        simp [hm] at hl
        subst hl
        obtain ⟨hlen,hg⟩:=mapO_get hm
        cases hp with
        | view _ _ _ _ _ x a cap hbx hrow ht hn ha hva =>
          rw [hb] at hbx; cases hbx
          rcases hva hc.1 with ⟨h0,hc0,_⟩|⟨h0,hs0,_⟩
          · subst h0
            have:xs=[]:=List.eq_nil_of_length_eq_zero (by rw [hlen]; simp)
            subst this
            cases a with
            | none => rw [hc0]; exact .i _ _ .nil
            | some a => exact .i _ _ (.l _ _ a cap (fun _ => undef) hn (fun j hj => by simp at hj) (fun j hj => by simp at hj) (fun j y hj => by simp at hj))
          · subst h0
            obtain ⟨c,e,hcc,hr,hcell⟩:=box_cell H1 hb
            have hlen2:((cs.drop off).take (n * z)).length=n * z:=by simp; omega
            refine .i _ _ (.l _ _ _ cap (fun j => c.getD (off + j) undef) hn (fun j hj => ?_) (fun j hj => ?_) (fun j y hj => ?_))
            · rw [add_lit]
              exact hR2 b _ hb _ _ (hcell _ (by have:=hr.1; omega))
            · have hlt:off + j < cs.length:=by omega
              exact (hr.2 (off + j) cs[off + j] (List.getElem?_eq_getElem hlt)).1
            · have hjl:j < xs.length:=(List.getElem?_eq_some_iff.1 hj).1
              have hj2:j < ((cs.drop off).take (n * z)).length:=by omega
              obtain ⟨x,hx,hxy⟩:=hg j _ (List.getElem?_eq_getElem hj2)
              rw [hxy] at hj; cases hj
              unfold lowerJ at hx
              split at hx
              · rename_i x' hlc
                cases hx
                have h7:=(hr.2 _ _ (take_drop_get (List.getElem?_eq_getElem hj2)).2).2
                have h8:RepP β h1 R (szW w) (.i _) (c.getD (off + j) undef):=lowerC_rep1 H1 h7 hlc hR1 hR2
                generalize c.getD (off + j) undef=u at h8
                cases h8 with|i _ _ h9 => exact h9
              · cases hx
    · exact lowerC_rep1 H1 hp hl hR1 hR2
  · exact lowerC_rep1 H1 hp hl hR1 hR2
theorem lowerAN_rep (H1 : HInv β h1 w) {R : Addr → Value → Prop} {β0 : Pl} {h0 : Heap} {S0 : Nat → Nat} {p q : PV} {v : Value} (hp : Rep β h1 w p v) (hl : lowerAN h1 p = some q)
    (hR1:∀ a v,Rd β h1 w a v → R a v) (hR2:∀ b x,h1 b=some x → ∀ j v,w.cell? ⟨β b,j,none⟩=some v → R ⟨β b,j,none⟩ v):RepP β0 h0 R S0 q v:=by
  unfold lowerAN at hl
  split at hl
  · rename_i cs
    cases hm:mapO (lowerCN h1) cs with
    | none => simp [hm] at hl
    | some qs =>
      simp [hm] at hl
      subst hl
      obtain ⟨hlen,hg⟩:=mapO_get hm
      cases hp with
      | agg cs arr hla hs =>
        refine .agg _ _ (by omega) fun j x hj => ?_
        have hlt:j < cs.length:=by rw [← hlen]; exact (List.getElem?_eq_some_iff.1 hj).1
        obtain ⟨y,hy,hqy⟩:=hg j _ (List.getElem?_eq_getElem hlt)
        rw [hqy] at hj; cases hj
        exact lowerCN_rep H1 (hs j _ (List.getElem?_eq_getElem hlt)) hy hR1 hR2
  · exact lowerCN_rep H1 hp hl hR1 hR2
theorem lowerTN_rep (H1 : HInv β h1 w) {R : Addr → Value → Prop} {β0 : Pl} {h0 : Heap} {S0 : Nat → Nat} {p q : PV} {v : Value} (hp : Rep β h1 w p v) (hl : lowerTN h1 p = some q)
    (hR1:∀ a v,Rd β h1 w a v → R a v) (hR2:∀ b x,h1 b=some x → ∀ j v,w.cell? ⟨β b,j,none⟩=some v → R ⟨β b,j,none⟩ v):RepP β0 h0 R S0 q v:=by
  unfold lowerTN at hl
  split at hl
  · rename_i cs
    cases hm:mapO (lowerAN h1) cs with
    | none => simp [hm] at hl
    | some qs =>
      simp [hm] at hl
      subst hl
      obtain ⟨hlen,hg⟩:=mapO_get hm
      cases hp with
      | tup cs arr hla hs =>
        refine .tup _ _ (by omega) fun j x hj => ?_
        have hlt:j < cs.length:=by rw [← hlen]; exact (List.getElem?_eq_some_iff.1 hj).1
        obtain ⟨y,hy,hqy⟩:=hg j _ (List.getElem?_eq_getElem hlt)
        rw [hqy] at hj; cases hj
        exact lowerAN_rep H1 (hs j _ (List.getElem?_eq_getElem hlt)) hy hR1 hR2
  · exact lowerAN_rep H1 hp hl hR1 hR2
end
theorem CallsP.of_low {P:Program} (hm:P.follows .mixedOrders=true) {g:FuncId} {args:List PV} {v:PV} (hv:lowerT Heap.none v=some v) (h:∀ base,∃ u hu,CallR P base g args Heap.none u hu ∧ lowerTN hu u=some v):CallsP P g args v:=by
  intro base
  obtain ⟨u,hu,h1,h2⟩:=h base
  refine ⟨v,Heap.none,CallR.of_sound ?_,hv⟩
  intro β w rargs H Hr
  refine (CallR_sound hm _ _ _ _ _ _ h1 β w rargs H Hr).mono ?_
  rintro e w' ⟨rv,β1,rfl,H1,hrep,E1⟩
  refine ⟨rv,β,rfl,HInv.none fun blk hb => Nat.lt_of_lt_of_le (H.flt blk hb) E1.size,?_,⟨E1.os,E1.tape,E1.output,E1.size,rfl,fun blk hl hs => ⟨shut_none _ _,(E1.stab blk hl (shut_none _ _)).2⟩,fun b x hb => (by cases hb),E1.sz⟩⟩
  refine lowerTN_rep H1 hrep h2 (fun a v hrd => ⟨⟨by have:=hrd.1.1; rw [E1.F] at this; exact this,shut_none _ _⟩,hrd.2⟩) fun b x hb j v hcell => ⟨⟨by have:=H1.nf b x hb; rw [E1.F] at this; exact this,shut_none _ _⟩,hcell⟩
end Go.Proofs.Ytmalpmnmknpphaa.TM
namespace Go.Proofs.Ytmalpmnmknpphaa.TM
open Go Go.RowKit
def rowsX (b:Name) (f:Nat → List Int) (n:Nat):Name → Option Box
  | (900,k)::c => if c=b ∧ k < n ∧ (f k).length ≠ 0 then some (.row false ((f k).map iu)) else none
  | _ => none
def rowsH (b:Name) (f:Nat → List Int) (n:Nat) (h:Heap):Heap:=fun c => match rowsX b f n c with
  | some x => some x
  | none => h c
def rowN (b:Name) (f:Nat → List Int) (k:Nat):PV:=rowP ((900,k)::b) 1 (f k).length ((f k).map iu)
def crowsL (b:Name) (f:Nat → List Int) (n:Nat):List PV:=(List.range n).map (rowN b f)
theorem crowsL_len (b:Name) (f:Nat → List Int) (n:Nat):(crowsL b f n).length=n:=by simp [crowsL]
theorem rowsL_succ (b:Name) (f:Nat → List Int) (n:Nat):crowsL b f (n + 1)=crowsL b f n ++ [rowN b f n]:=by simp [crowsL,List.range_succ]
theorem rowsL_congr {b:Name} {f g:Nat → List Int} {n:Nat} (h:∀ k,k < n → f k=g k):crowsL b f n=crowsL b g n:=List.map_congr_left fun k hk => by unfold rowN; rw [h k (List.mem_range.1 hk)]
theorem rowsL_get {b:Name} {f:Nat → List Int} {n k:Nat} (h:k < n):(crowsL b f n)[k]?=some (rowN b f k):=by
  unfold crowsL; rw [List.getElem?_map,List.getElem?_range h]; rfl
theorem rowsL_put {b:Name} {f g:Nat → List Int} {n k:Nat} (h:k < n) (hg:∀ m,m ≠ k → g m=f m):(crowsL b f n).take k ++ [rowN b g k] ++ (crowsL b f n).drop (k + 1)=crowsL b g n:=by
  apply List.ext_getElem?
  intro m
  have tl:((crowsL b f n).take k).length=k:=by rw [List.length_take,crowsL_len]; omega
  by_cases h1:m < k
  · rw [List.append_assoc,List.getElem?_append_left (by omega),List.getElem?_take,if_pos h1,rowsL_get (by omega),rowsL_get (by omega)]
    unfold rowN; rw [hg m (by omega)]
  · rw [List.append_assoc,List.getElem?_append_right (by omega),tl]
    by_cases h2:m=k
    · subst h2; rw [Nat.sub_self,rowsL_get h]; rfl
    · rw [List.getElem?_append_right (by simp; omega),List.getElem?_drop,List.length_singleton,show k + 1 + (m - k - 1)=m by omega]
      by_cases h3:m < n
      · rw [rowsL_get h3,rowsL_get h3]; unfold rowN; rw [hg m h2]
      · rw [List.getElem?_eq_none (by rw [crowsL_len]; omega),List.getElem?_eq_none (by rw [crowsL_len]; omega)]
theorem mem_rowsL {b c:Name} {f:Nat → List Int} {n:Nat} (h:c ∈ refsL (crowsL b f n)):∃ k,c=(900,k)::b:=by
  obtain ⟨p,hp,hc⟩:=of_refsL h
  obtain ⟨k,_,rfl⟩:=List.mem_map.1 hp
  unfold rowN at hc
  exact ⟨k,(mem_refs_rowP.1 hc).2⟩
theorem rowsX_var {b c:Name} {f:Nat → List Int} {n:Nat} {cs:List PV}:rowsX b f n c ≠ some (.var cs):=by
  unfold rowsX
  split
  · split <;> simp
  · simp
theorem noVar_rowsH {b c:Name} {f:Nat → List Int} {n:Nat} {h:Heap} (h1:noVar c h):noVar c (rowsH b f n h):=fun d ds hd => by
  unfold rowsH at hd
  split at hd
  · rename_i x hx; cases hd; exact absurd hx rowsX_var
  · exact h1 d ds hd
theorem rowsX_at {b:Name} {f:Nat → List Int} {n k:Nat} (hk:k < n) (hl:(f k).length ≠ 0):rowsX b f n ((900,k)::b)=some (.row false ((f k).map iu)):=if_pos ⟨rfl,hk,hl⟩
theorem rowsX_out {b:Name} {f:Nat → List Int} {n k:Nat} (hk:n ≤ k):rowsX b f n ((900,k)::b)=none:=if_neg (by omega)
theorem rowsX_nil {b:Name} {f:Nat → List Int} {n k:Nat} (hl:(f k).length=0):rowsX b f n ((900,k)::b)=none:=if_neg (by omega)
theorem rowsX_ne {b c:Name} {f g:Nat → List Int} {n m i:Nat} (hc:c ≠ (900,i)::b) (h:∀ k,k ≠ i → f k=g k) (hn:∀ k,k ≠ i → (k < n ↔ k < m)):rowsX b f n c=rowsX b g m c:=by
  unfold rowsX
  split
  · rename_i k d
    by_cases e:d=b
    · subst e
      have hk:k ≠ i:=fun e => hc (by rw [e])
      rw [h k hk]
      simp only [hn k hk]
    · rw [if_neg (by simp [e]),if_neg (by simp [e])]
  · rfl
theorem rowsX_congr {b c:Name} {f g:Nat → List Int} {n:Nat} (h:∀ k,k < n → f k=g k):rowsX b f n c=rowsX b g n c:=by
  unfold rowsX
  split
  · rename_i k d
    by_cases e:k < n
    · rw [h k e]
    · rw [if_neg (by simp [e]),if_neg (by simp [e])]
  · rfl
def csF (T:Tk) (k:Nat):List Int:=T.cs.getD k []
def mtB (R C:Nat) (l:List Int):Box:=.var [i64 R,i64 C,lu l]
def tkH (base:Name) (P R C i:Nat) (l:List Int) (T:Tk) (f:Nat → List Int):Heap :=
  rowH (rowH (rowH (rowH (rowsH ((7,14)::base) f i (fun c => if c=(3,2)::base then some (.var [rowP ((16,11)::(7,14)::base) 1 T.us.length (T.rows.map ii),rowP ((16,19)::(7,14)::base) 1 T.us.length (T.cols.map ii),clmP ((10,8)::(7,14)::base) i,rowP ((16,27)::(7,14)::base) 1 T.us.length (T.us.map (lv C)),u64 P,rowP ((16,34)::(7,14)::base) 1 T.us.length (T.vs.map iu)])
    else if c=(0,0)::base then some (mtB R C l) else if c=(0,1)::base then some (.var [nilP,nilP,nilP,nilP]) else if c=(10,8)::(7,14)::base then clmB i (crowsL ((7,14)::base) f i) else none))
    ((16,11)::(7,14)::base) T.us.length (T.rows.map ii)) ((16,19)::(7,14)::base) T.us.length (T.cols.map ii)) ((16,27)::(7,14)::base) T.us.length (T.us.map (lv C))) ((16,34)::(7,14)::base) T.us.length (T.vs.map iu)
abbrev junkR (base:Name):List Name:=[(1,1)::base,(8,2)::base,(10,7)::base,(15,7)::base,(16,10)::base,(16,18)::base,(16,26)::base,(16,33)::base]
theorem base_ne:∀ (base:Name) (x:Nat × Nat),base ≠ x::base
  | [],x,h => by cases h
  | y::b,x,h => by injection h with h1 h2; exact base_ne b y h2
theorem cup_next {base:Name} {P R C i:Nat} {l:List Int} {T T':Tk} (hcl:T'.cs.length=i + 1) (hc:∀ k,k < i → csF T' k=csF T k) (hu:T'.us.length=T.us.length ∨ T'.us.length=T.us.length + 1) :
    cupH (tkH base P R C i l T (csF T)) ((7,14)::base) base P C i (crowsL ((7,14)::base) (csF T) i) T T' T'.us.length=tkH base P R C (i + 1) l T' (csF T'):=by
  have hL:crowsL ((7,14)::base) (csF T') (i + 1)=crowsL ((7,14)::base) (csF T) i ++ [rowP ((900,i)::(7,14)::base) 1 (T'.cs.getD i []).length ((T'.cs.getD i []).map iu)]:=by
    rw [rowsL_succ,rowsL_congr hc]; rfl
  have ne1:∀ x:Nat × Nat,base ≠ x::base:=base_ne base
  have ne2:∀ x:Nat × Nat,x::base ≠ base:=fun x h => base_ne base x h.symm
  obtain ⟨x,hx⟩:∃ x,T'.cs.getD i []=x:=⟨_,rfl⟩
  have hx':csF T' i=x:=hx
  unfold cupH tkH
  rw [hL,hx]
  funext c
  simp (maxSteps:=20000000) only [rowH_app,Heap.put_at,rowsH]
  by_cases e1:c=(3,2)::base
  · subst e1
    simp [rowsX]
  by_cases e2:c=(10,8)::(7,14)::base
  · subst e2
    simp [rowsX,clmB]
  by_cases e3:c=(16,11)::(7,14)::base
  · subst e3
    rcases hu with hu|hu <;> by_cases z:T.us=[] <;> simp [rowsX,hu,z]
  by_cases e4:c=(16,19)::(7,14)::base
  · subst e4
    rcases hu with hu|hu <;> by_cases z:T.us=[] <;> simp [rowsX,hu,z]
  by_cases e5:c=(16,27)::(7,14)::base
  · subst e5
    rcases hu with hu|hu <;> by_cases z:T.us=[] <;> simp [rowsX,hu,z]
  by_cases e6:c=(16,34)::(7,14)::base
  · subst e6
    rcases hu with hu|hu <;> by_cases z:T.us=[] <;> simp [rowsX,hu,z]
  by_cases e7:c=(900,i)::(7,14)::base
  · subst e7
    by_cases h0:x.length=0
    · rw [rowsX_out (Nat.le_refl _),rowsX_nil (by rw [hx']; exact h0)]
      have h0':x=[]:=List.eq_nil_of_length_eq_zero h0
      simp [h0']
    · rw [rowsX_out (Nat.le_refl _),rowsX_at (by omega) (by rw [hx']; exact h0),hx']
      have h0':x ≠ []:=fun e => h0 (by rw [e]; rfl)
      simp [h0']
  simp [e1,e2,e3,e4,e5,e6,e7]
  have hX:rowsX ((7,14)::base) (csF T) i c=rowsX ((7,14)::base) (csF T') (i + 1) c:=by
    rw [rowsX_congr (g:=csF T') (fun k hk => (hc k hk).symm)]
    exact rowsX_ne e7 (fun _ _ => rfl) (by omega)
  rw [hX]
end Go.Proofs.Ytmalpmnmknpphaa.TM
namespace Go.Proofs.Ytmalpmnmknpphaa.TM
open Go Go.RowKit
theorem TkI.next {P C i:Nat} {T:Tk} {row:List Int} (hP:Prm P) (hp:Md P) (I:TkI P C i T) (hrow:∀ a ∈ row,In P a) (hl:row.length=C):TkI P C (i + 1) (tkRow P T i row):=by
  have r1:(rstT P T row).length=C:=by unfold rstT; rw [elR_len,hl]
  have r2:∀ a ∈ rstT P T row,In P a:=elR_in hp T hrow _
  have x1:(xsT P T row).length=T.us.length:=tbl_len ..
  have x2:∀ a ∈ xsT P T row,In P a:=fun a ha => by obtain ⟨k,_,rfl⟩:=tbl_mem ha; exact elX_in hp T row k
  have o1:In P 1:=⟨by decide,by have:=hp.1; omega⟩
  unfold tkRow
  split
  · refine ⟨I.rl,I.ql,I.vl,by simp [I.cl],by have:=I.ri; simp only; omega,fun a ha => by have:=I.rb a ha; omega,I.qb,I.ul,I.vb,fun c hc => ?_⟩
    rcases List.mem_append.1 hc with hc|hc
    · exact I.cb c hc
    · rw [List.mem_singleton.1 hc]; exact ⟨by rw [x1]; exact Nat.le_refl _,x2⟩
  · rename_i hn
    rcases nzA_spec (rstT P T row) 0 with ⟨z1,_⟩|⟨n,z1,z2,z3,_⟩
    · rw [z1] at hn; exact absurd (by decide) hn
    · rw [z1]
      refine ⟨by simp [I.rl],by simp [I.ql],by simp [I.vl],by simp [I.cl],by have:=I.ri; simp only [List.length_append,List.length_singleton]; omega,fun a ha => ?_,fun a ha => ?_,fun u hu => ?_,fun a ha => ?_,fun c hc => ?_⟩
      · rcases List.mem_append.1 ha with ha|ha
        · have:=I.rb a ha; omega
        · rw [List.mem_singleton.1 ha]; omega
      · rcases List.mem_append.1 ha with ha|ha
        · exact I.qb a ha
        · rw [List.mem_singleton.1 ha]; omega
      · rcases List.mem_append.1 hu with hu|hu
        · exact I.ul u hu
        · rw [List.mem_singleton.1 hu]; exact ⟨r1,r2⟩
      · rcases List.mem_append.1 ha with ha|ha
        · exact I.vb a ha
        · rw [List.mem_singleton.1 ha,show (((0 + n:Nat):Int)).toNat=n by omega]
          exact (finvC_in (by exact hp.1) hp.2 (getD_of r2 z2) (prm_gcd hP (getD_of r2 z2) z3)).1
      · rcases List.mem_append.1 hc with hc|hc
        · have:=I.cb c hc
          exact ⟨by simp only [List.length_append,List.length_singleton]; omega,this.2⟩
        · rw [List.mem_singleton.1 hc]
          refine ⟨by simp [x1],fun a ha => ?_⟩
          rcases List.mem_append.1 ha with ha|ha
          · exact x2 a ha
          · rw [List.mem_singleton.1 ha]; exact o1
theorem tkN_I {P R C:Nat} {l:List Int} (hP:Prm P) (M:Mt P R C l) (hin:∀ a ∈ l,In P a):∀ i,i ≤ R → TkI P C i (tkN P C l i)
  | 0,_ => TkI.zero _ _
  | i + 1,h => (tkN_I hP M hin i (by omega)).next hP M.hp (fun a ha => hin a (rowM_mem ha)) (rowM_len M.len (by omega))
theorem tkRow_cs {P:Int} {C i:Nat} {T:Tk} {row:List Int} (I:TkI P C i T):(∀ k,k < i → csF (tkRow P T i row) k=csF T k) ∧ ((tkRow P T i row).us.length=T.us.length ∨ (tkRow P T i row).us.length=T.us.length + 1):=by
  have h:∀ (x:List Int) (k:Nat),k < i → (T.cs ++ [x]).getD k []=T.cs.getD k []:=fun x k hk => by
    rw [List.getD_eq_getElem?_getD,List.getElem?_append_left (by rw [I.cl]; exact hk),List.getD_eq_getElem?_getD]
  unfold tkRow csF
  split
  · exact ⟨fun k hk => h _ k hk,.inl rfl⟩
  · exact ⟨fun k hk => h _ k hk,.inr (by simp)⟩
theorem nv_tk {base : Name} {P R C i : Nat} {l : List Int} {T : Tk} {f : Nat → List Int} {b : Name} (hb9 : ∀ k, b ≠ (900, k) :: (7, 14) :: base)
    (n1:b ≠ (16,11)::(7,14)::base) (n2:b ≠ (16,19)::(7,14)::base) (n3:b ≠ (16,27)::(7,14)::base) (n4:b ≠ (16,34)::(7,14)::base) (n5:b ≠ (10,8)::(7,14)::base):noVar b (tkH base P R C i l T f):=by
  unfold tkH
  refine noVar_rowH (noVar_rowH (noVar_rowH (noVar_rowH (noVar_rowsH ?_))))
  intro c cs hc
  simp only [mtB] at hc
  split at hc
  · cases hc
    simp only [refsL,refsP,List.mem_append,mem_refs_rowP,mem_refs_clmP,List.not_mem_nil,or_false,not_or]
    simp [n1,n2,n3,n4,n5]
  · split at hc
    · cases hc
      simp [refsL,refsP]
    · split at hc
      · cases hc; simp [refsL,refsP,nilP]
      · split at hc
        · unfold clmB at hc
          split at hc
          · cases hc
          · cases hc
            intro h
            obtain ⟨k,hk⟩:=mem_rowsL h
            exact hb9 k hk
        · cases hc
theorem nv_junk (base:Name) (P R C i:Nat) (l:List Int) (T:Tk) (f:Nat → List Int) (b:Name) (hb:b ∈ junkR ((7,14)::base)):noVar b (tkH base P R C i l T f):=by
  refine nv_tk (fun k e => ?_) ?_ ?_ ?_ ?_ ?_
  · subst e; simp at hb
  all_goals (intro e; subst e; simp at hb)
theorem row_call {base:Name} {P R C i:Nat} {l:List Int} {T:Tk} {row:List Int} (hP:Prm P) (hp:Md P) (I:TkI P C i T) (hrow:∀ a ∈ row,In P a) (hl:row.length=C) (h0:0 < C) (hC:C ≤ 64) (hi:i < 64) :
    ∃ h',CallR Try.prog ((7,14)::base) 98 [.ref ((3,2)::base) 0 6,i64 i,.i (.l C (row.map iu))] (tkH base P R C i l T (csF T)) (bl true) h' ∧ (h'.drop (junkR ((7,14)::base))=tkH base P R C (i + 1) l (tkRow P T i row) (csF (tkRow P T i row)) ∧ ∀ b ∈ junkR ((7,14)::base),noVar b h'):=by
  obtain ⟨c1,c2⟩:=tkRow_cs (row:=row) I
  rw [← cup_next (by rw [(I.next hP hp hrow hl).cl]) c1 c2]
  have ne1:∀ x:Nat × Nat,base ≠ x::base:=base_ne base
  have ne2:∀ x:Nat × Nat,x::base ≠ base:=fun x h => base_ne base x h.symm
  have x9:rowsX ((7,14)::base) (csF T) i ((900,i)::(7,14)::base)=none:=rowsX_out (Nat.le_refl _)
  have nv:=nv_junk base P R C i l T (csF T)
  rcases hr:T.us.length with _|r
  · refine rowA0_walk hP hp I hrow hl h0 hC hi (crowsL_len ..) hr ?_ ?_ ?_ ?_ ?_ ?_ ?_ ?_ ?_ ?_ ?_ ?_ ?_ ?_ ?_ nv
    all_goals (unfold tkH; rw [hr]; simp [rowH_app,rowsH,x9,rowsX,ne1,ne2])
  · refine rowA1_walk hP hp I hrow hl h0 hC hi (crowsL_len ..) hr ?_ ?_ ?_ ?_ ?_ ?_ ?_ ?_ ?_ ?_ ?_ ?_ ?_ ?_ ?_ nv
    all_goals (unfold tkH; rw [hr]; simp [rowH_app,rowsH,x9,rowsX,ne1,ne2])
end Go.Proofs.Ytmalpmnmknpphaa.TM
