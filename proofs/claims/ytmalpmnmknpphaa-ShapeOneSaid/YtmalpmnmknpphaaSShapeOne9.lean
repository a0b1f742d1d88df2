/- What is proved of functions, and plain facts, part 9. Conditions: none. -/
import Derived.Test.YtmalpmnmknpphaaSShapeOne8
set_option linter.defProp false
set_option linter.unusedSectionVars false
set_option linter.unusedSimpArgs false
set_option linter.unusedVariables false
namespace Go.Proofs.Ytmalpmnmknpphaa.TM
open Go Go.RowKit
attribute [local irreducible] K W WOps Effs Xg Xo Xr Xdg Xdo Xdr Xif CallsP CallR
theorem prime13_walk (p:Nat) (hp:p < 18446744073709551616):∃ b,CallsP Try.prog 46 [u64 p] (bl b) ∧ (b=true → Prm p):=by
  by_cases c1:(p:Int)=2147483647
  · refine ⟨true, ?_, fun _ => by obtain rfl : p = 2147483647 := by omega
                                  exact prm31⟩
    refine X_startP (n:=17) (m:=1) (rs:=[.tmp 2]) Try.func46 rfl rfl rfl rfl (by decide) fun base => ?_
    repeat (first|refine X_opc rfl ?_|refine X_dopc rfl ?_|refine ⟨(by show drawK _ _=true; kernel_rfl:drawX _ _ _),?_⟩|exact (by show drawK _ _=true; kernel_rfl:drawX _ _ _)|simp -dsimp (maxSteps:=20000000) (disch:=omega) only [simx,zzC,zzB,tys,ite_self,opnL,callB,callX,readsB,stepOp,nilCmp,ofVal,opBuiltin,opLen,PV.sk,scalBin,scalUn,intBin,opLoad,natOf,opConvert,opField,cellsP,oneP,Value.oneCell',opStore,toIV,scalT,scalA,scalC,boxesA,boxesC,zipB_none,zipB_mx,isZ,opZip,zeroP,opAppendZ,opMakeMap,opLookup,mboxB,opUpdate,↓reduceIte,Nat.reduceSub,Nat.reduceEqDiff,Nat.reduceAdd,Nat.reduceMul,Nat.reduceLT,Nat.reduceLeDiff,Int.reduceToNat,Int.reduceLE,Int.reduceLT,Int.reduceNeg,reduceCtorEq,zzR,gos,Int.reduceAdd,Int.reduceSub,Int.reduceMul,Int.reduceEq])
  by_cases c2:(p:Int)=2305843009213693951
  · refine ⟨true, ?_, fun _ => by obtain rfl : p = 2305843009213693951 := by omega
                                  exact prm61⟩
    refine X_startP (n:=17) (m:=1) (rs:=[.tmp 2]) Try.func46 rfl rfl rfl rfl (by decide) fun base => ?_
    repeat (first|refine X_opc rfl ?_|refine X_dopc rfl ?_|refine ⟨(by show drawK _ _=true; kernel_rfl:drawX _ _ _),?_⟩|exact (by show drawK _ _=true; kernel_rfl:drawX _ _ _)|simp -dsimp (maxSteps:=20000000) (disch:=omega) only [simx,zzC,zzB,tys,ite_self,opnL,callB,callX,readsB,stepOp,nilCmp,ofVal,opBuiltin,opLen,PV.sk,scalBin,scalUn,intBin,opLoad,natOf,opConvert,opField,cellsP,oneP,Value.oneCell',opStore,toIV,scalT,scalA,scalC,boxesA,boxesC,zipB_none,zipB_mx,isZ,opZip,zeroP,opAppendZ,opMakeMap,opLookup,mboxB,opUpdate,↓reduceIte,Nat.reduceSub,Nat.reduceEqDiff,Nat.reduceAdd,Nat.reduceMul,Nat.reduceLT,Nat.reduceLeDiff,Int.reduceToNat,Int.reduceLE,Int.reduceLT,Int.reduceNeg,reduceCtorEq,zzR,gos,Int.reduceAdd,Int.reduceSub,Int.reduceMul,Int.reduceEq])
  by_cases c3:(p:Int) < 1048576
  · obtain ⟨b,d,h⟩:=is_walk p (by omega)
    refine ⟨b,?_,h⟩
    refine X_startP (n:=17) (m:=1) (rs:=[.tmp 2]) Try.func46 rfl rfl rfl rfl (by decide) fun base => ?_
    repeat (first|((first|refine X_call_fn2 rfl (by simp only [tys]) ?_|refine X_dcall_fn2 rfl (by simp only [tys]) ?_); apply Exists.intro; apply And.intro; (focus (simp -dsimp only [simx,zzC,zzB,tys,ite_self,opnL,callB,callX,readsB,stepOp,nilCmp,ofVal,opBuiltin,opLen,PV.sk,scalBin,scalUn,intBin,opLoad,natOf,opConvert,opField,cellsP,oneP,Value.oneCell',opStore,toIV,scalT,scalA,scalC,boxesA,boxesC,zipB_none,zipB_mx,isZ,opZip,zeroP,opAppendZ,opMakeMap,opLookup,mboxB,opUpdate,↓reduceIte,Nat.reduceSub,Nat.reduceEqDiff,Nat.reduceAdd,Nat.reduceMul,Nat.reduceLT,Nat.reduceLeDiff,Int.reduceToNat,Int.reduceLE,Int.reduceLT,Int.reduceNeg,reduceCtorEq,zzL,if_true,if_false] <;> rfl)); apply Exists.intro; apply And.intro; (focus (first|exact d)))|refine X_opc rfl ?_|refine X_dopc rfl ?_|refine ⟨(by show drawK _ _=true; kernel_rfl:drawX _ _ _),?_⟩|exact (by show drawK _ _=true; kernel_rfl:drawX _ _ _)|simp -dsimp (maxSteps:=20000000) (disch:=omega) only [simx,zzC,zzB,tys,ite_self,opnL,callB,callX,readsB,stepOp,nilCmp,ofVal,opBuiltin,opLen,PV.sk,scalBin,scalUn,intBin,opLoad,natOf,opConvert,opField,cellsP,oneP,Value.oneCell',opStore,toIV,scalT,scalA,scalC,boxesA,boxesC,zipB_none,zipB_mx,isZ,opZip,zeroP,opAppendZ,opMakeMap,opLookup,mboxB,opUpdate,↓reduceIte,Nat.reduceSub,Nat.reduceEqDiff,Nat.reduceAdd,Nat.reduceMul,Nat.reduceLT,Nat.reduceLeDiff,Int.reduceToNat,Int.reduceLE,Int.reduceLT,Int.reduceNeg,reduceCtorEq,zzR,gos,Int.reduceAdd,Int.reduceSub,Int.reduceMul,Int.reduceEq])
  · refine ⟨false,?_,fun h => by cases h⟩
    refine X_startP (n:=17) (m:=1) (rs:=[.tmp 2]) Try.func46 rfl rfl rfl rfl (by decide) fun base => ?_
    repeat (first|refine X_opc rfl ?_|refine X_dopc rfl ?_|refine ⟨(by show drawK _ _=true; kernel_rfl:drawX _ _ _),?_⟩|exact (by show drawK _ _=true; kernel_rfl:drawX _ _ _)|simp -dsimp (maxSteps:=20000000) (disch:=omega) only [simx,zzC,zzB,tys,ite_self,opnL,callB,callX,readsB,stepOp,nilCmp,ofVal,opBuiltin,opLen,PV.sk,scalBin,scalUn,intBin,opLoad,natOf,opConvert,opField,cellsP,oneP,Value.oneCell',opStore,toIV,scalT,scalA,scalC,boxesA,boxesC,zipB_none,zipB_mx,isZ,opZip,zeroP,opAppendZ,opMakeMap,opLookup,mboxB,opUpdate,↓reduceIte,Nat.reduceSub,Nat.reduceEqDiff,Nat.reduceAdd,Nat.reduceMul,Nat.reduceLT,Nat.reduceLeDiff,Int.reduceToNat,Int.reduceLE,Int.reduceLT,Int.reduceNeg,reduceCtorEq,zzR,gos,Int.reduceAdd,Int.reduceSub,Int.reduceMul,Int.reduceEq])
def hdN (c:CupT) (j:Nat):Int:=if j=0 then c.1.length else IntKind.u64.wrap ((c.1 ++ c.2.1).getD (j - 1) 0)
def numL (c:CupT):List Int:=tbl ((c.1 ++ c.2.1).length + 1) (hdN c) ++ c.2.2.1.flatten ++ c.2.2.2.flatten
theorem concatI13_walk {a b:List Int} (ha:a.length ≤ 4096) (hb:b.length ≤ 4096):CallsP Try.prog 97 [.i (.l 2 [.l a.length (a.map ii),.l b.length (b.map ii)])] (li (a ++ b)):=by
  have h:=concatI_walk [a.map ii,b.map ii] (by simp) (by simp; omega)
  simpa [llL,ivN,li,List.map_append] using h
set_option maxHeartbeats 4000000 in
theorem numbers_walk {c:CupT} (h1:c.1.length ≤ 100) (h2:c.2.1.length ≤ 100) (h3:c.2.2.1.length ≤ 100) (h4:c.2.2.2.length ≤ 100) (h5:c.2.2.1.flatten.length ≤ 100000) (h6:c.2.2.2.flatten.length ≤ 100000):CallsP Try.prog 44 [cupQ c] (lu (numL c)):=by
  have q1:=concatI13_walk (a:=c.1) (b:=c.2.1) (by omega) (by omega)
  have q2:=concat13_walk (L:=c.2.2.1) (by omega) (by omega)
  have q3:=concat13_walk (L:=c.2.2.2) (by omega) (by omega)
  have q4:=concat13_walk (L:=[tbl ((c.1 ++ c.2.1).length + 1) (hdN c),c.2.2.1.flatten,c.2.2.2.flatten]) (by simp) (by
    simp only [List.flatten_cons,List.flatten_nil,List.length_append,List.append_nil,tbl_len]
    omega)
  rw [show [tbl ((c.1 ++ c.2.1).length + 1) (hdN c),c.2.2.1.flatten,c.2.2.2.flatten].flatten=numL c by unfold numL; simp] at q4
  have w0:IntKind.u64.wrap (c.1.length:Int)=c.1.length:=uw_of (by omega) (by omega)
  have f0:hdN c 0=c.1.length:=rfl
  have fk:∀ k,hdN c (k + 1)=IntKind.u64.wrap ((c.1 ++ c.2.1).getD k 0):=fun k => rfl
  have nl:(c.1 ++ c.2.1).length ≤ 200:=by rw [List.length_append]; omega
  generalize numL c=Z at q4 ⊢
  obtain ⟨F,hF⟩:∃ F,F=hdN c:=⟨_,rfl⟩
  rw [← hF] at q4 f0 fk
  clear hF h5 h6
  obtain ⟨rws,cls,cc,uu⟩:=c
  simp only at q1 q2 q3 q4 w0 f0 fk nl h1 h2 h3 h4 ⊢
  generalize rws ++ cls=X at q1 q4 fk nl
  generalize cc.flatten=cf at q2 q4
  generalize uu.flatten=uf at q3 q4
  have xj:∀ j,j < X.length → (X.map ii)[j]?=some (ii (X.getD j 0)):=fun j hj => by rw [List.getElem?_map,getD_some rfl hj]; rfl
  have t0:tbl 1 F=[(rws.length:Int)]:=by rw [tbl_succ,f0]; rfl
  refine X_startP (n:=37) (m:=1) (rs:=[.tmp 2]) Try.func44 rfl rfl rfl rfl (by decide) fun base => ?_
  repeat (first|((first|refine X_call_fn2 rfl (by simp only [tys]) ?_|refine X_dcall_fn2 rfl (by simp only [tys]) ?_); apply Exists.intro; apply And.intro; (focus (simp -dsimp only [simx,zzC,zzB,tys,ite_self,opnL,callB,callX,readsB,stepOp,nilCmp,ofVal,opBuiltin,opLen,PV.sk,scalBin,scalUn,intBin,opLoad,natOf,opConvert,opField,cellsP,oneP,Value.oneCell',opStore,toIV,scalT,scalA,scalC,boxesA,boxesC,zipB_none,zipB_mx,isZ,opZip,zeroP,opAppendZ,opMakeMap,opLookup,mboxB,opUpdate,↓reduceIte,Nat.reduceSub,Nat.reduceEqDiff,Nat.reduceAdd,Nat.reduceMul,Nat.reduceLT,Nat.reduceLeDiff,Int.reduceToNat,Int.reduceLE,Int.reduceLT,Int.reduceNeg,reduceCtorEq,zzL,if_true,if_false] <;> rfl)); apply Exists.intro; apply And.intro; (focus (first|exact q1)))|refine X_opc rfl ?_|refine X_dopc rfl ?_|refine ⟨(by show drawK _ _=true; kernel_rfl:drawX _ _ _),?_⟩|exact (by show drawK _ _=true; kernel_rfl:drawX _ _ _)|simp -dsimp (maxSteps:=20000000) (disch:=omega) only [simx,zzC,zzB,tys,ite_self,opnL,callB,callX,readsB,stepOp,nilCmp,ofVal,opBuiltin,opLen,PV.sk,scalBin,scalUn,intBin,opLoad,natOf,opConvert,opField,cellsP,oneP,Value.oneCell',opStore,toIV,scalT,scalA,scalC,boxesA,boxesC,zipB_none,zipB_mx,isZ,opZip,zeroP,opAppendZ,opMakeMap,opLookup,mboxB,opUpdate,↓reduceIte,Nat.reduceSub,Nat.reduceEqDiff,Nat.reduceAdd,Nat.reduceMul,Nat.reduceLT,Nat.reduceLeDiff,Int.reduceToNat,Int.reduceLE,Int.reduceLT,Int.reduceNeg,reduceCtorEq,gos,Int.reduceAdd,Int.reduceSub,Int.reduceMul,Int.reduceEq,w0,SK.len])
  refine X_loopH [1,3,16,17,18] [(2,4)::base,(5,3)::base] (0) (X.length) (fun j => True) (fun j => [(3,.view ((1,4)::base) 0 1 (j + 1) (j + 1)),(18,i64 j)]) (fun j => (Heap.none.put ((0,0)::base) (.var [li rws,li cls,llP cc,llP uu])).put ((1,4)::base) (.row false ((tbl (j + 1) F).map iu))) ?_ ?_ ?_ ?_ ?_ (by decide) ?_
  · exact (fgt_cons (by simp only [Heap.none_at]) (by (simp -dsimp only [zzB,tys,ite_self,opnL,callB,callX,readsB,stepOp,nilCmp,ofVal,opBuiltin,opLen,PV.sk,scalBin,scalUn,intBin,opLoad,natOf,opConvert,opField,cellsP,oneP,Value.oneCell',opStore,toIV,scalT,scalA,scalC,boxesA,boxesC,zipB_none,zipB_mx,isZ,opZip,zeroP,opAppendZ,opMakeMap,opLookup,mboxB,opUpdate,↓reduceIte,Nat.reduceSub,Nat.reduceEqDiff,Nat.reduceAdd,Nat.reduceMul,Nat.reduceLT,Nat.reduceLeDiff,Int.reduceToNat,Int.reduceLE,Int.reduceLT,Int.reduceNeg,reduceCtorEq,notIn_cons,notIn_nil]) <;> simp [refsL,refsP,mem_refs_rowP]) (by repeat (first|exact noVar_none _|refine noVar_row ?_|refine noVar_map ?_|refine noVar_rowH ?_|refine noVar_var ?_ (by simp [refsL,refsP,mem_refs_rowP]))) (fgt_cons (by simp only [Heap.none_at]) (by (simp -dsimp only [zzB,tys,ite_self,opnL,callB,callX,readsB,stepOp,nilCmp,ofVal,opBuiltin,opLen,PV.sk,scalBin,scalUn,intBin,opLoad,natOf,opConvert,opField,cellsP,oneP,Value.oneCell',opStore,toIV,scalT,scalA,scalC,boxesA,boxesC,zipB_none,zipB_mx,isZ,opZip,zeroP,opAppendZ,opMakeMap,opLookup,mboxB,opUpdate,↓reduceIte,Nat.reduceSub,Nat.reduceEqDiff,Nat.reduceAdd,Nat.reduceMul,Nat.reduceLT,Nat.reduceLeDiff,Int.reduceToNat,Int.reduceLE,Int.reduceLT,Int.reduceNeg,reduceCtorEq,notIn_cons,notIn_nil]) <;> simp [refsL,refsP,mem_refs_rowP]) (by repeat (first|exact noVar_none _|refine noVar_row ?_|refine noVar_map ?_|refine noVar_rowH ?_|refine noVar_var ?_ (by simp [refsL,refsP,mem_refs_rowP]))) (fgt_nil)))
  · ((simp -dsimp (disch:=omega) only [simx,zzB,tys,ite_self,opnL,callB,callX,readsB,stepOp,nilCmp,ofVal,opBuiltin,opLen,PV.sk,scalBin,scalUn,intBin,opLoad,natOf,opConvert,opField,cellsP,oneP,Value.oneCell',opStore,toIV,scalT,scalA,scalC,boxesA,boxesC,zipB_none,zipB_mx,isZ,opZip,zeroP,opAppendZ,opMakeMap,opLookup,mboxB,opUpdate,↓reduceIte,Nat.reduceSub,Nat.reduceEqDiff,Nat.reduceAdd,Nat.reduceMul,Nat.reduceLT,Nat.reduceLeDiff,Int.reduceToNat,Int.reduceLE,Int.reduceLT,Int.reduceNeg,reduceCtorEq,gos,Int.reduceAdd,Int.reduceSub,Int.reduceMul,Int.reduceEq]) <;> first|rfl|simp)
  · rw [t0]
    funext c
    simp (maxSteps:=20000000) only [Heap.drop_at,rowH_app,Heap.put_at,Heap.none_at,List.mem_cons,List.not_mem_nil,or_false]
    by_cases e0:c=(0,0)::base
    · subst e0; simp []
    by_cases e1:c=(1,4)::base
    · subst e1; simp []
    by_cases e2:c=(2,4)::base
    · subst e2; simp []
    by_cases e3:c=(5,3)::base
    · subst e3; simp []
    simp [e0,e1,e2,e3]
  · omega
  · trivial
  · intro j hj _
    by_cases cj:j < X.length
    · have g1:=xj j cj
      have f1:=fk j
      have t1:=tbl_succ (j + 1) F
      have l1:=tbl_len (j + 1) F
      clear xj fk q4 t0
      generalize F (j + 1)=s at f1 t1
      generalize X.getD j 0=x at g1 f1
      repeat (first|refine X_opc rfl ?_|refine X_dopc rfl ?_|refine ⟨(by show drawK _ _=true; kernel_rfl:drawX _ _ _),?_⟩|exact (by show drawK _ _=true; kernel_rfl:drawX _ _ _)|simp -dsimp (maxSteps:=20000000) (disch:=omega) only [simx,zzC,zzB,tys,ite_self,opnL,callB,callX,readsB,stepOp,nilCmp,ofVal,opBuiltin,opLen,PV.sk,scalBin,scalUn,intBin,opLoad,natOf,opConvert,opField,cellsP,oneP,Value.oneCell',opStore,toIV,scalT,scalA,scalC,boxesA,boxesC,zipB_none,zipB_mx,isZ,opZip,zeroP,opAppendZ,opMakeMap,opLookup,mboxB,opUpdate,↓reduceIte,Nat.reduceSub,Nat.reduceEqDiff,Nat.reduceAdd,Nat.reduceMul,Nat.reduceLT,Nat.reduceLeDiff,Int.reduceToNat,Int.reduceLE,Int.reduceLT,Int.reduceNeg,reduceCtorEq,gos,Int.reduceAdd,Int.reduceSub,Int.reduceMul,Int.reduceEq,cj,g1,SK.len,List.length_map])
      rw [← f1]
      refine X_append_own (cs:=(tbl (j + 1) F).map iu) (b:=(1,4)::base) (bx:=(5,3)::base) 22 [.int .u64 0] [iu s] (by simp only [tys]) (by simp only [tys]) rfl (by decide) (by simp [Heap.put_at]) (by rw [List.length_map,l1]) (by rw [List.length_map,l1,Nat.mul_one]) (by simp [Heap.put_at]; rfl) rfl (by simp only [tys]; omega) (by rw [mx_len]; omega) ?_
      repeat (first|refine X_opc rfl ?_|refine X_dopc rfl ?_|refine ⟨(by show drawK _ _=true; kernel_rfl:drawX _ _ _),?_⟩|exact (by show drawK _ _=true; kernel_rfl:drawX _ _ _)|simp -dsimp (maxSteps:=20000000) (disch:=omega) only [simx,zzC,zzB,tys,ite_self,opnL,callB,callX,readsB,stepOp,nilCmp,ofVal,opBuiltin,opLen,PV.sk,scalBin,scalUn,intBin,opLoad,natOf,opConvert,opField,cellsP,oneP,Value.oneCell',opStore,toIV,scalT,scalA,scalC,boxesA,boxesC,zipB_none,zipB_mx,isZ,opZip,zeroP,opAppendZ,opMakeMap,opLookup,mboxB,opUpdate,↓reduceIte,Nat.reduceSub,Nat.reduceEqDiff,Nat.reduceAdd,Nat.reduceMul,Nat.reduceLT,Nat.reduceLeDiff,Int.reduceToNat,Int.reduceLE,Int.reduceLT,Int.reduceNeg,reduceCtorEq,gos,Int.reduceAdd,Int.reduceSub,Int.reduceMul,Int.reduceEq,cj])
      refine ⟨cj,(fgt_cons (by simp only [Heap.none_at]) (by (simp -dsimp only [zzB,tys,ite_self,opnL,callB,callX,readsB,stepOp,nilCmp,ofVal,opBuiltin,opLen,PV.sk,scalBin,scalUn,intBin,opLoad,natOf,opConvert,opField,cellsP,oneP,Value.oneCell',opStore,toIV,scalT,scalA,scalC,boxesA,boxesC,zipB_none,zipB_mx,isZ,opZip,zeroP,opAppendZ,opMakeMap,opLookup,mboxB,opUpdate,↓reduceIte,Nat.reduceSub,Nat.reduceEqDiff,Nat.reduceAdd,Nat.reduceMul,Nat.reduceLT,Nat.reduceLeDiff,Int.reduceToNat,Int.reduceLE,Int.reduceLT,Int.reduceNeg,reduceCtorEq,notIn_cons,notIn_nil]) <;> simp [refsL,refsP,mem_refs_rowP]) (by repeat (first|exact noVar_none _|refine noVar_row ?_|refine noVar_map ?_|refine noVar_rowH ?_|refine noVar_var ?_ (by simp [refsL,refsP,mem_refs_rowP]))) (fgt_cons (by simp only [Heap.none_at]) (by (simp -dsimp only [zzB,tys,ite_self,opnL,callB,callX,readsB,stepOp,nilCmp,ofVal,opBuiltin,opLen,PV.sk,scalBin,scalUn,intBin,opLoad,natOf,opConvert,opField,cellsP,oneP,Value.oneCell',opStore,toIV,scalT,scalA,scalC,boxesA,boxesC,zipB_none,zipB_mx,isZ,opZip,zeroP,opAppendZ,opMakeMap,opLookup,mboxB,opUpdate,↓reduceIte,Nat.reduceSub,Nat.reduceEqDiff,Nat.reduceAdd,Nat.reduceMul,Nat.reduceLT,Nat.reduceLeDiff,Int.reduceToNat,Int.reduceLE,Int.reduceLT,Int.reduceNeg,reduceCtorEq,notIn_cons,notIn_nil]) <;> simp [refsL,refsP,mem_refs_rowP]) (by repeat (first|exact noVar_none _|refine noVar_row ?_|refine noVar_map ?_|refine noVar_rowH ?_|refine noVar_var ?_ (by simp [refsL,refsP,mem_refs_rowP]))) (fgt_nil))),?_,?_⟩
      · simp [l1]
      · funext c
        simp (maxSteps:=20000000) only [Heap.drop_at,rowH_app,Heap.put_at,Heap.none_at,List.mem_cons,List.not_mem_nil,or_false]
        by_cases e0:c=(0,0)::base
        · subst e0; simp [t1,List.map_append]
        by_cases e1:c=(1,4)::base
        · subst e1; simp [t1,List.map_append]
        by_cases e2:c=(2,4)::base
        · subst e2; simp [t1,List.map_append]
        by_cases e3:c=(5,3)::base
        · subst e3; simp [t1,List.map_append]
        simp [e0,e1,e2,e3,t1,List.map_append]
    · obtain rfl:X.length=j:=by omega
      have l1:=tbl_len (X.length + 1) F
      generalize tbl (X.length + 1) F=Y at q4 l1 ⊢
      rw [← l1]
      have tk:(Y.map iu).take Y.length=Y.map iu:=List.take_of_length_le (by rw [List.length_map]; exact Nat.le_refl _)
      repeat (first|((first|refine X_call_fn2 rfl (by simp only [tys]) ?_|refine X_dcall_fn2 rfl (by simp only [tys]) ?_); apply Exists.intro; apply And.intro; (focus (simp -dsimp only [simx,zzC,zzB,tys,ite_self,opnL,callB,callX,readsB,stepOp,nilCmp,ofVal,opBuiltin,opLen,PV.sk,scalBin,scalUn,intBin,opLoad,natOf,opConvert,opField,cellsP,oneP,Value.oneCell',opStore,toIV,scalT,scalA,scalC,boxesA,boxesC,zipB_none,zipB_mx,isZ,opZip,zeroP,opAppendZ,opMakeMap,opLookup,mboxB,opUpdate,↓reduceIte,Nat.reduceSub,Nat.reduceEqDiff,Nat.reduceAdd,Nat.reduceMul,Nat.reduceLT,Nat.reduceLeDiff,Int.reduceToNat,Int.reduceLE,Int.reduceLT,Int.reduceNeg,reduceCtorEq,zzL,if_true,if_false,tk,List.length_map] <;> rfl)); apply Exists.intro; apply And.intro; (focus (first|exact q2|exact q3|exact q4)))|refine X_opc rfl ?_|refine X_dopc rfl ?_|refine ⟨(by show drawK _ _=true; kernel_rfl:drawX _ _ _),?_⟩|exact (by show drawK _ _=true; kernel_rfl:drawX _ _ _)|simp -dsimp (maxSteps:=20000000) (disch:=omega) only [simx,zzC,zzB,tys,ite_self,opnL,callB,callX,readsB,stepOp,nilCmp,ofVal,opBuiltin,opLen,PV.sk,scalBin,scalUn,intBin,opLoad,natOf,opConvert,opField,cellsP,oneP,Value.oneCell',opStore,toIV,scalT,scalA,scalC,boxesA,boxesC,zipB_none,zipB_mx,isZ,opZip,zeroP,opAppendZ,opMakeMap,opLookup,mboxB,opUpdate,↓reduceIte,Nat.reduceSub,Nat.reduceEqDiff,Nat.reduceAdd,Nat.reduceMul,Nat.reduceLT,Nat.reduceLeDiff,Int.reduceToNat,Int.reduceLE,Int.reduceLT,Int.reduceNeg,reduceCtorEq,zzR,gos,Int.reduceAdd,Int.reduceSub,Int.reduceMul,Int.reduceEq,tk,SK.len,List.length_map])
set_option maxHeartbeats 4000000 in
theorem of13_walk {l L:List Int} {r R C:Nat} (h1:1 ≤ r) (h2:r ≤ 64) (hR:1 ≤ R ∧ R ≤ 64) (hC:1 ≤ C ∧ C ≤ 64) (hl:l.length=2 * r + R * r + r * C) (hL:L=(r:Int)::l):CallsP Try.prog 43 [lu L,i64 R,i64 C] (.tup [cupQ (ofC l r R C),i64 0]):=by
  have d1:=side13_walk (R:Int)
  rw [show (decide ((1:Int) ≤ R) && decide ((R:Int) ≤ 64))=true by simp; omega] at d1
  have d2:=side13_walk (C:Int)
  rw [show (decide ((1:Int) ≤ C) && decide ((C:Int) ≤ 64))=true by simp; omega] at d2
  have b1:R * r ≤ 64 * 64:=Nat.mul_le_mul hR.2 h2
  have b2:r * C ≤ 64 * 64:=Nat.mul_le_mul h2 hC.2
  have lL:(L.length:Int)=1 + 2 * (r:Int) + ((R * r:Nat):Int) + ((r * C:Nat):Int):=by rw [hL,List.length_cons]; omega
  have lL2:L.length=l.length + 1:=by rw [hL,List.length_cons]
  have gL:(L.map iu)[0]?=some (iu (r:Int)):=by rw [hL]; rfl
  have dL:(L.map iu).drop 1=l.map iu:=by rw [hL]; rfl
  have f0:IntKind.i64.wrap (r:Int)=r:=iw_of (by omega) (by omega)
  have f1:IntKind.i64.wrap ((R:Int) * (r:Int))=((R * r:Nat):Int):=by rw [← Int.natCast_mul]; exact iw_of (by omega) (by omega)
  have f2:IntKind.i64.wrap ((r:Int) * (C:Int))=((r * C:Nat):Int):=by rw [← Int.natCast_mul]; exact iw_of (by omega) (by omega)
  have L1:¬ (L.length:Int) < 1:=by omega
  have L0:0 < L.length:=by omega
  have L3:1 ≤ L.length:=by omega
  have L2:¬ (1 + 2 * (r:Int) + ((R * r:Nat):Int) + ((r * C:Nat):Int)) < 1:=by omega
  have rl:¬ (64:Int) < r:=by omega
  have dd1:(l.drop r).length=l.length - r:=List.length_drop
  have dd2:(l.drop (2 * r)).length=l.length - 2 * r:=List.length_drop
  have dd3:(l.drop (2 * r + R * r)).length=l.length - 2 * r - R * r:=by rw [List.length_drop]; omega
  have dr1:(l.drop r).drop r=l.drop (2 * r):=by rw [List.drop_drop]; congr 1; omega
  have dr2:(l.drop (2 * r)).drop (R * r)=l.drop (2 * r + R * r):=by rw [List.drop_drop]
  obtain ⟨n,hn⟩:∃ n,n=l.length:=⟨_,rfl⟩
  have llen:L.length - 1=n:=by omega
  have tkl:(l.map iu).take n=l.map iu:=List.take_of_length_le (by rw [List.length_map]; omega)
  have p1:=fun base (h:Heap) (b:Name) (hb:h b=some (.var [.i (.l n (l.map iu))])) => places_walk (base:=base) (n:=r) hb hn.symm (by omega) (by omega)
  have p2:=fun base (h:Heap) (b:Name) (hb:h b=some (.var [.i (.l (n - r) ((l.drop r).map iu))])) => places_walk (base:=base) (n:=r) hb (by omega) (by omega) (by omega)
  rw [dr1,show n - r - r=n - 2 * r by omega] at p2
  have p3:=fun base (h:Heap) (b:Name) (hb:h b=some (.var [.i (.l (n - 2 * r) ((l.drop (2 * r)).map iu))])) => rows13_walk (base:=base) (many:=R) (each:=r) hb (by omega) (by omega) (by omega) hR.2
  rw [dr2] at p3
  have p4:=fun base (h:Heap) (b:Name) (hb:h b=some (.var [.i (.l (n - 2 * r - R * r) ((l.drop (2 * r + R * r)).map iu))])) => rows13_walk (base:=base) (many:=r) (each:=C) hb (by omega) (by omega) (by omega) h2
  unfold ofC
  have e1:(wrapL (l.take r)).length=r:=by unfold wrapL; rw [List.length_map,List.length_take]; omega
  have e2:(wrapL ((l.drop r).take r)).length=r:=by unfold wrapL; rw [List.length_map,List.length_take]; omega
  have e3:=cutR_len (l.drop (2 * r)) r R
  have e4:=cutR_len (l.drop (2 * r + R * r)) C r
  generalize wrapL (l.take r)=w1 at *
  generalize wrapL ((l.drop r).take r)=w2 at *
  generalize cutR (l.drop (2 * r)) r R=w3 at *
  generalize cutR (l.drop (2 * r + R * r)) C r=w4 at *
  have t1:(w1.map ii).take r=w1.map ii:=List.take_of_length_le (by rw [List.length_map]; omega)
  have t2:(w2.map ii).take r=w2.map ii:=List.take_of_length_le (by rw [List.length_map]; omega)
  have t3:(w3.map lrow).take R=w3.map lrow:=List.take_of_length_le (by rw [List.length_map]; omega)
  have t4:(w4.map lrow).take r=w4.map lrow:=List.take_of_length_le (by rw [List.length_map]; omega)
  have rp1:=fun s z cs => rowP_pos s z cs (show 0 < r by omega)
  have rh1:=fun h s cs => rowH_pos h s cs (show 0 < r by omega)
  have rp2:=fun s z cs => rowP_pos s z cs (show 0 < R by omega)
  have rh2:=fun h s cs => rowH_pos h s cs (show 0 < R by omega)
  simp only [rp1,rh1] at p1 p2 p4
  simp only [rp2,rh2] at p3
  clear rp1 rh1 rp2 rh2
  refine X_startP (n:=73) (m:=3) (rs:=[.cell 6 55,.tmp 7]) Try.func43 rfl rfl rfl rfl (by decide) fun base => ?_
  repeat (first|((first|refine X_call_fn2 rfl (by simp only [tys]) ?_|refine X_dcall_fn2 rfl (by simp only [tys]) ?_); apply Exists.intro; apply And.intro; (focus (simp -dsimp only [simx,zzC,zzB,tys,ite_self,opnL,callB,callX,readsB,stepOp,nilCmp,ofVal,opBuiltin,opLen,PV.sk,scalBin,scalUn,intBin,opLoad,natOf,opConvert,opField,cellsP,oneP,Value.oneCell',opStore,toIV,scalT,scalA,scalC,boxesA,boxesC,zipB_none,zipB_mx,isZ,opZip,zeroP,opAppendZ,opMakeMap,opLookup,mboxB,opUpdate,↓reduceIte,Nat.reduceSub,Nat.reduceEqDiff,Nat.reduceAdd,Nat.reduceMul,Nat.reduceLT,Nat.reduceLeDiff,Int.reduceToNat,Int.reduceLE,Int.reduceLT,Int.reduceNeg,reduceCtorEq,zzL,if_true,if_false] <;> rfl)); apply Exists.intro; apply And.intro; (focus (first|exact d1|exact d2)))|refine X_opc rfl ?_|refine X_dopc rfl ?_|refine ⟨(by show drawK _ _=true; kernel_rfl:drawX _ _ _),?_⟩|exact (by show drawK _ _=true; kernel_rfl:drawX _ _ _)|simp -dsimp (maxSteps:=20000000) (disch:=omega) only [simx,zzC,zzB,tys,ite_self,opnL,callB,callX,readsB,stepOp,nilCmp,ofVal,opBuiltin,opLen,PV.sk,scalBin,scalUn,intBin,opLoad,natOf,opConvert,opField,cellsP,oneP,Value.oneCell',opStore,toIV,scalT,scalA,scalC,boxesA,boxesC,zipB_none,zipB_mx,isZ,opZip,zeroP,opAppendZ,opMakeMap,opLookup,mboxB,opUpdate,↓reduceIte,Nat.reduceSub,Nat.reduceEqDiff,Nat.reduceAdd,Nat.reduceMul,Nat.reduceLT,Nat.reduceLeDiff,Int.reduceToNat,Int.reduceLE,Int.reduceLT,Int.reduceNeg,reduceCtorEq,gos,Int.reduceAdd,Int.reduceSub,Int.reduceMul,Int.reduceEq,gL,dL,L0,L1,L2,L3,rl,f0,f1,f2,lL,llen,tkl,SK.len,List.length_map])
  refine X_call_sh rfl (by simp only [tys]) rfl (p1 _ _ ((6,3)::base) (by simp [Heap.put_at]) (by simp [Heap.put_at,Heap.none_at]) (by simp [Heap.put_at,Heap.none_at]) (by repeat (first|exact noVar_none _|refine noVar_row ?_|refine noVar_var ?_ (by simp [refsL,refsP]))) (by simp) (by simp)) ?_
  repeat (first|refine X_opc rfl ?_|refine X_dopc rfl ?_|refine ⟨(by show drawK _ _=true; kernel_rfl:drawX _ _ _),?_⟩|exact (by show drawK _ _=true; kernel_rfl:drawX _ _ _)|simp -dsimp (maxSteps:=20000000) (disch:=omega) only [simx,zzC,zzB,tys,ite_self,opnL,callB,callX,readsB,stepOp,nilCmp,ofVal,opBuiltin,opLen,PV.sk,scalBin,scalUn,intBin,opLoad,natOf,opConvert,opField,cellsP,oneP,Value.oneCell',opStore,toIV,scalT,scalA,scalC,boxesA,boxesC,zipB_none,zipB_mx,isZ,opZip,zeroP,opAppendZ,opMakeMap,opLookup,mboxB,opUpdate,↓reduceIte,Nat.reduceSub,Nat.reduceEqDiff,Nat.reduceAdd,Nat.reduceMul,Nat.reduceLT,Nat.reduceLeDiff,Int.reduceToNat,Int.reduceLE,Int.reduceLT,Int.reduceNeg,reduceCtorEq,gos,Int.reduceAdd,Int.reduceSub,Int.reduceMul,Int.reduceEq])
  refine X_call_sh rfl (by simp only [tys]) rfl (p2 _ _ ((6,3)::base) (by simp [Heap.put_at]) (by simp [Heap.put_at,Heap.none_at]) (by simp [Heap.put_at,Heap.none_at]) (by repeat (first|exact noVar_none _|refine noVar_row ?_|refine noVar_var ?_ (by simp [refsL,refsP]))) (by simp) (by simp)) ?_
  repeat (first|refine X_opc rfl ?_|refine X_dopc rfl ?_|refine ⟨(by show drawK _ _=true; kernel_rfl:drawX _ _ _),?_⟩|exact (by show drawK _ _=true; kernel_rfl:drawX _ _ _)|simp -dsimp (maxSteps:=20000000) (disch:=omega) only [simx,zzC,zzB,tys,ite_self,opnL,callB,callX,readsB,stepOp,nilCmp,ofVal,opBuiltin,opLen,PV.sk,scalBin,scalUn,intBin,opLoad,natOf,opConvert,opField,cellsP,oneP,Value.oneCell',opStore,toIV,scalT,scalA,scalC,boxesA,boxesC,zipB_none,zipB_mx,isZ,opZip,zeroP,opAppendZ,opMakeMap,opLookup,mboxB,opUpdate,↓reduceIte,Nat.reduceSub,Nat.reduceEqDiff,Nat.reduceAdd,Nat.reduceMul,Nat.reduceLT,Nat.reduceLeDiff,Int.reduceToNat,Int.reduceLE,Int.reduceLT,Int.reduceNeg,reduceCtorEq,gos,Int.reduceAdd,Int.reduceSub,Int.reduceMul,Int.reduceEq])
  refine X_call_sh rfl (by simp only [tys]) rfl (p3 _ _ ((6,3)::base) (by simp [Heap.put_at]) (by simp [Heap.put_at,Heap.none_at]) (by simp [Heap.put_at,Heap.none_at]) (by repeat (first|exact noVar_none _|refine noVar_row ?_|refine noVar_var ?_ (by simp [refsL,refsP]))) (by simp) (by simp)) ?_
  repeat (first|refine X_opc rfl ?_|refine X_dopc rfl ?_|refine ⟨(by show drawK _ _=true; kernel_rfl:drawX _ _ _),?_⟩|exact (by show drawK _ _=true; kernel_rfl:drawX _ _ _)|simp -dsimp (maxSteps:=20000000) (disch:=omega) only [simx,zzC,zzB,tys,ite_self,opnL,callB,callX,readsB,stepOp,nilCmp,ofVal,opBuiltin,opLen,PV.sk,scalBin,scalUn,intBin,opLoad,natOf,opConvert,opField,cellsP,oneP,Value.oneCell',opStore,toIV,scalT,scalA,scalC,boxesA,boxesC,zipB_none,zipB_mx,isZ,opZip,zeroP,opAppendZ,opMakeMap,opLookup,mboxB,opUpdate,↓reduceIte,Nat.reduceSub,Nat.reduceEqDiff,Nat.reduceAdd,Nat.reduceMul,Nat.reduceLT,Nat.reduceLeDiff,Int.reduceToNat,Int.reduceLE,Int.reduceLT,Int.reduceNeg,reduceCtorEq,gos,Int.reduceAdd,Int.reduceSub,Int.reduceMul,Int.reduceEq])
  refine X_call_sh rfl (by simp only [tys]) rfl (p4 _ _ ((6,3)::base) (by simp [Heap.put_at]) (by simp [Heap.put_at,Heap.none_at]) (by simp [Heap.put_at,Heap.none_at]) (by repeat (first|exact noVar_none _|refine noVar_row ?_|refine noVar_var ?_ (by simp [refsL,refsP]))) (by simp) (by simp)) ?_
  repeat (first|refine X_opc rfl ?_|refine X_dopc rfl ?_|refine ⟨(by show drawK _ _=true; kernel_rfl:drawX _ _ _),?_⟩|exact (by show drawK _ _=true; kernel_rfl:drawX _ _ _)|simp -dsimp (maxSteps:=20000000) (disch:=omega) only [simx,zzC,zzB,tys,ite_self,opnL,callB,callX,readsB,stepOp,nilCmp,ofVal,opBuiltin,opLen,PV.sk,scalBin,scalUn,intBin,opLoad,natOf,opConvert,opField,cellsP,oneP,Value.oneCell',opStore,toIV,scalT,scalA,scalC,boxesA,boxesC,zipB_none,zipB_mx,isZ,opZip,zeroP,opAppendZ,opMakeMap,opLookup,mboxB,opUpdate,↓reduceIte,Nat.reduceSub,Nat.reduceEqDiff,Nat.reduceAdd,Nat.reduceMul,Nat.reduceLT,Nat.reduceLeDiff,Int.reduceToNat,Int.reduceLE,Int.reduceLT,Int.reduceNeg,reduceCtorEq,zzR,gos,Int.reduceAdd,Int.reduceSub,Int.reduceMul,Int.reduceEq,t1,t2,t3,t4,e1,e2,e3,e4,List.length_map])
  show _=some (PV.tup [.agg [li w1,li w2,llP w3,llP w4],i64 0])
  rw [li,li,llP,llP,e1,e2,e3,e4]
set_option maxHeartbeats 4000000 in
set_option maxRecDepth 100000 in
theorem awake13_walk:CallsP Try.prog 37 [] (bl true):=by
  have p7:Prm 7:=prm7
  have M:Mt ((7:Nat):Int) (1:Nat) (2:Nat) [0,2]:=⟨⟨by decide,by decide⟩,by decide,by decide,by decide,by decide,rfl,by decide⟩
  have hi:∀ a ∈ [0,2],In ((7:Nat):Int) a:=by show ∀ x ∈ ([0,2]:List Int),0 ≤ x ∧ x < ((7:Nat):Int); decide
  have M5:Mt ((7:Nat):Int) (1:Nat) (1:Nat) [5]:=⟨⟨by decide,by decide⟩,by decide,by decide,by decide,by decide,rfl,by decide⟩
  have hi5:∀ a ∈ [5],In ((7:Nat):Int) a:=by show ∀ x ∈ ([5]:List Int),0 ≤ x ∧ x < ((7:Nat):Int); decide
  have t:tkCup ((7:Nat):Int) 2 1 [0,2]=([0],[1],[[1]],[[0,2]]):=by decide +kernel
  have t5:tkCup ((7:Nat):Int) 1 1 [5]=([0],[0],[[1]],[[5]]):=by decide +kernel
  have W:=tkCup_W p7 M hi
  have H:=tkCup_Cp p7 M hi
  have W5:=tkCup_W p7 M5 hi5
  have H5:=tkCup_Cp p7 M5 hi5
  rw [t] at W H
  rw [t5] at W5 H5
  obtain ⟨b,d1,hb⟩:=has13_walk (p:=((7:Nat):Int)) (R:=(1:Nat)) (C:=(2:Nat)) (c:=([0],[1],[[1]],[[0,2]])) (by decide) (by decide) (by decide) (by decide)
  obtain rfl:b=true:=hb.2 (cup_has p7 M.hp (by decide) (by decide) W H)
  obtain ⟨b5,d2,hb5⟩:=has13_walk (p:=((7:Nat):Int)) (R:=(1:Nat)) (C:=(1:Nat)) (c:=([0],[0],[[1]],[[5]])) (by decide) (by decide) (by decide) (by decide)
  obtain rfl:b5=true:=hb5.2 (cup_has p7 M5.hp (by decide) (by decide) W5 H5)
  have d3:=looks13_of M hi W d1 (x:=[3,4]) (by show ∀ x ∈ ([3,4]:List Int),0 ≤ x ∧ x < ((7:Nat):Int); decide) rfl
  rw [show decide (timesM ((7:Nat):Int) 1 2 [0,2] [3,4]=ctM ((7:Nat):Int) ([0],[1],[[1]],[[0,2]]) [3,4])=true by decide +kernel] at d3
  have H52:CpC 7 1 1 (mkA ([0],[0],[[1]],[[5]])) ([0],[0],[[1]],[[5]]):=Cp.cong H5 fun i j hi hj => H5.made i hi j hj
  have d4:=det13_of p7 M5.hp (by decide) (by decide) W5 H52 d2
  rw [show Lp 1 (mkA ([0],[0],[[1]],[[5]])) % ((7:Nat):Int)=5 by decide +kernel] at d4
  have d5:=numbers_walk (c:=([0],[1],[[1]],[[0,2]])) (by decide) (by decide) (by decide) (by decide) (by decide) (by decide)
  rw [show numL ([0],[1],[[1]],[[0,2]])=[1,0,1,1,0,2] by decide +kernel] at d5
  have d6:=of13_walk (l:=[0,1,1,0,2]) (L:=[1,0,1,1,0,2]) (r:=1) (R:=1) (C:=2) (by decide) (by decide) (by decide) (by decide) (by decide) rfl
  rw [show ofC [0,1,1,0,2] 1 1 2=([0],[1],[[1]],[[0,2]]) by decide +kernel] at d6
  have d7:=same1_walk [1,0,1,1,0,2] [1,0,1,1,0,2] (by decide)
  rw [decide_eq_true rfl] at d7
  have d8:=same13_walk ([0],[1],[[1]],[[0,2]]) ([0],[1],[[1]],[[0,2]]) (by decide) (by decide) (by decide) (by decide) (by decide) (by decide)
  rw [decide_eq_true rfl] at d8
  have d9:CallsP Try.prog 81 [cupQ ([0],[1],[[1]],[[0,2]]),i64 1,i64 2] (i64 5):=by
    have s1:=side13_walk 1
    rw [show (decide ((1:Int) ≤ 1) && decide ((1:Int) ≤ 64))=true by decide] at s1
    have s2:=side13_walk 2
    rw [show (decide ((1:Int) ≤ 2) && decide ((2:Int) ≤ 64))=true by decide] at s2
    have s3:=sized_walk (l:=[[0,2]]) 1 2 (by decide)
    rw [(sizedB_iff _ _ _).2 ⟨by decide,by decide⟩] at s3
    have s4:=sized_walk (l:=[[1]]) 1 1 (by decide)
    rw [(sizedB_iff _ _ _).2 ⟨by decide,by decide⟩] at s4
    refine X_startP (n:=46) (m:=3) (rs:=[.tmp 6]) Try.func81 rfl rfl rfl rfl (by decide) fun base => ?_
    repeat (first|((first|refine X_call_fn2 rfl (by simp only [tys]) ?_|refine X_dcall_fn2 rfl (by simp only [tys]) ?_); apply Exists.intro; apply And.intro; (focus (simp -dsimp only [simx,zzC,zzB,tys,ite_self,opnL,callB,callX,readsB,stepOp,nilCmp,ofVal,opBuiltin,opLen,PV.sk,scalBin,scalUn,intBin,opLoad,natOf,opConvert,opField,cellsP,oneP,Value.oneCell',opStore,toIV,scalT,scalA,scalC,boxesA,boxesC,zipB_none,zipB_mx,isZ,opZip,zeroP,opAppendZ,opMakeMap,opLookup,mboxB,opUpdate,↓reduceIte,Nat.reduceSub,Nat.reduceEqDiff,Nat.reduceAdd,Nat.reduceMul,Nat.reduceLT,Nat.reduceLeDiff,Int.reduceToNat,Int.reduceLE,Int.reduceLT,Int.reduceNeg,reduceCtorEq,zzL,if_true,if_false] <;> rfl)); apply Exists.intro; apply And.intro; (focus (first|exact s1|exact s2|exact s3|exact s4)))|refine X_opc rfl ?_|refine X_dopc rfl ?_|refine ⟨(by show drawK _ _=true; kernel_rfl:drawX _ _ _),?_⟩|exact (by show drawK _ _=true; kernel_rfl:drawX _ _ _)|simp -dsimp (maxSteps:=20000000) (disch:=omega) only [simx,zzC,zzB,tys,ite_self,opnL,callB,callX,readsB,stepOp,nilCmp,ofVal,opBuiltin,opLen,PV.sk,scalBin,scalUn,intBin,opLoad,natOf,opConvert,opField,cellsP,oneP,Value.oneCell',opStore,toIV,scalT,scalA,scalC,boxesA,boxesC,zipB_none,zipB_mx,isZ,opZip,zeroP,opAppendZ,opMakeMap,opLookup,mboxB,opUpdate,↓reduceIte,Nat.reduceSub,Nat.reduceEqDiff,Nat.reduceAdd,Nat.reduceMul,Nat.reduceLT,Nat.reduceLeDiff,Int.reduceToNat,Int.reduceLE,Int.reduceLT,Int.reduceNeg,reduceCtorEq,zzR,gos,Int.reduceAdd,Int.reduceSub,Int.reduceMul,Int.reduceEq,SK.len])
    rfl
  clear W H W5 H5 H52 M hi M5 hi5 t t5 hb hb5 p7
  refine X_startP (n:=80) (m:=0) (rs:=[.tmp 0]) Try.func37 rfl rfl rfl rfl (by decide) fun base => ?_
  repeat (first|((first|refine X_call_fn2 rfl (by simp only [tys]) ?_|refine X_dcall_fn2 rfl (by simp only [tys]) ?_); apply Exists.intro; apply And.intro; (focus (simp -dsimp only [simx,zzC,zzB,tys,ite_self,opnL,callB,callX,readsB,stepOp,nilCmp,ofVal,opBuiltin,opLen,PV.sk,scalBin,scalUn,intBin,opLoad,natOf,opConvert,opField,cellsP,oneP,Value.oneCell',opStore,toIV,scalT,scalA,scalC,boxesA,boxesC,zipB_none,zipB_mx,isZ,opZip,zeroP,opAppendZ,opMakeMap,opLookup,mboxB,opUpdate,↓reduceIte,Nat.reduceSub,Nat.reduceEqDiff,Nat.reduceAdd,Nat.reduceMul,Nat.reduceLT,Nat.reduceLeDiff,Int.reduceToNat,Int.reduceLE,Int.reduceLT,Int.reduceNeg,reduceCtorEq,zzL,if_true,if_false] <;> rfl)); apply Exists.intro; apply And.intro; (focus (first|exact d1|exact d2|exact d3|exact d4|exact d5|exact d6|exact d7|exact d8|exact d9)))|refine X_opc rfl ?_|refine X_dopc rfl ?_|refine ⟨(by show drawK _ _=true; kernel_rfl:drawX _ _ _),?_⟩|exact (by show drawK _ _=true; kernel_rfl:drawX _ _ _)|simp -dsimp (maxSteps:=20000000) (disch:=omega) only [simx,zzC,zzB,tys,ite_self,opnL,callB,callX,readsB,stepOp,nilCmp,ofVal,opBuiltin,opLen,PV.sk,scalBin,scalUn,intBin,opLoad,natOf,opConvert,opField,cellsP,oneP,Value.oneCell',opStore,toIV,scalT,scalA,scalC,boxesA,boxesC,zipB_none,zipB_mx,isZ,opZip,zeroP,opAppendZ,opMakeMap,opLookup,mboxB,opUpdate,↓reduceIte,Nat.reduceSub,Nat.reduceEqDiff,Nat.reduceAdd,Nat.reduceMul,Nat.reduceLT,Nat.reduceLeDiff,Int.reduceToNat,Int.reduceLE,Int.reduceLT,Int.reduceNeg,reduceCtorEq,zzR,gos,Int.reduceAdd,Int.reduceSub,Int.reduceMul,Int.reduceEq,SK.len])
end Go.Proofs.Ytmalpmnmknpphaa.TM
namespace Go.Proofs.Ytmalpmnmknpphaa.TM
open Go Go.RowKit
attribute [local irreducible] K W WOps Effs Xg Xo Xr Xdg Xdo Xdr Xif CallsP CallR
theorem make_any {P R C:Nat} {c:CupT} (hp:Md P) (r1:1 ≤ R) (r2:R ≤ 64) (c1:1 ≤ C) (c2:C ≤ 64) (h1:c.2.2.1.length ≤ 4096) (h2:c.2.2.2.length ≤ 4096) (h3:∀ u ∈ c.2.2.1,u.length ≤ maxLen ∧ W64s u) (h4:∀ u ∈ c.2.2.2,u.length ≤ maxLen ∧ W64s u) :
    ∃ r' c' l' e,CallsP Try.prog 48 [u64 P,cupQ c,i64 R,i64 C] (.tup [matP r' c' l',i64 e]):=by
  obtain ⟨rw0,cw,cc,uu⟩:=c
  simp only at h1 h2 h3 h4
  have q1:=right_walk P
  rw [show RightB P=true by unfold RightB; simp; exact ⟨by have:=hp.1; omega,by have:=hp.2; omega⟩] at q1
  have q2:=side7_walk (R:Int)
  rw [(side_iff _).2 ⟨by omega,by omega⟩] at q2
  have q3:=side7_walk (C:Int)
  rw [(side_iff _).2 ⟨by omega,by omega⟩] at q3
  have q4:=rows7_walk (p:=P) (each:=(uu.length:Int)) (l:=cc) (by rw [mx_len]; omega) fun u h => (h3 u h).1
  have q5:=rows7_walk (p:=P) (each:=(C:Int)) (l:=uu) (by rw [mx_len]; omega) fun u h => (h4 u h).1
  by_cases e1:(cc.length:Int)=R
  case neg =>
    refine ⟨0,0,[],1,?_⟩
    refine X_startP (n:=126) (m:=4) (rs:=[.cell 8 25,.tmp 9]) Try.func48 rfl rfl rfl rfl (by decide) fun base => ?_
    repeat (first|((first|refine X_call_fn2 rfl (by simp only [tys]) ?_|refine X_dcall_fn2 rfl (by simp only [tys]) ?_); apply Exists.intro; apply And.intro; (focus (simp -dsimp only [simx,zzC,zzB,tys,ite_self,opnL,callB,callX,readsB,stepOp,nilCmp,ofVal,opBuiltin,opLen,PV.sk,scalBin,scalUn,intBin,opLoad,natOf,opConvert,opField,cellsP,oneP,Value.oneCell',opStore,toIV,scalT,scalA,scalC,boxesA,boxesC,zipB_none,zipB_mx,isZ,opZip,zeroP,opAppendZ,opMakeMap,opLookup,mboxB,opUpdate,↓reduceIte,Nat.reduceSub,Nat.reduceEqDiff,Nat.reduceAdd,Nat.reduceMul,Nat.reduceLT,Nat.reduceLeDiff,Int.reduceToNat,Int.reduceLE,Int.reduceLT,Int.reduceNeg,reduceCtorEq,zzL,if_true,if_false] <;> rfl)); apply Exists.intro; apply And.intro; (focus (first|exact q1|exact q2|exact q3)))|refine X_opc rfl ?_|refine X_dopc rfl ?_|refine ⟨(by show drawK _ _=true; kernel_rfl:drawX _ _ _),?_⟩|exact (by show drawK _ _=true; kernel_rfl:drawX _ _ _)|simp -dsimp (maxSteps:=20000000) (disch:=omega) only [simx,zzC,zzB,tys,ite_self,opnL,callB,callX,readsB,stepOp,nilCmp,ofVal,opBuiltin,opLen,PV.sk,scalBin,scalUn,intBin,opLoad,natOf,opConvert,opField,cellsP,oneP,Value.oneCell',opStore,toIV,scalT,scalA,scalC,boxesA,boxesC,zipB_none,zipB_mx,isZ,opZip,zeroP,opAppendZ,opMakeMap,opLookup,mboxB,opUpdate,↓reduceIte,Nat.reduceSub,Nat.reduceEqDiff,Nat.reduceAdd,Nat.reduceMul,Nat.reduceLT,Nat.reduceLeDiff,Int.reduceToNat,Int.reduceLE,Int.reduceLT,Int.reduceNeg,reduceCtorEq,zzR,gos,Int.reduceAdd,Int.reduceSub,Int.reduceMul,Int.reduceEq,SK.len,e1])
    try rfl
  cases b4:rowsB P cc uu.length with
  | false =>
    rw [b4] at q4
    refine ⟨0,0,[],1,?_⟩
    refine X_startP (n:=126) (m:=4) (rs:=[.cell 8 25,.tmp 9]) Try.func48 rfl rfl rfl rfl (by decide) fun base => ?_
    repeat (first|((first|refine X_call_fn2 rfl (by simp only [tys]) ?_|refine X_dcall_fn2 rfl (by simp only [tys]) ?_); apply Exists.intro; apply And.intro; (focus (simp -dsimp only [simx,zzC,zzB,tys,ite_self,opnL,callB,callX,readsB,stepOp,nilCmp,ofVal,opBuiltin,opLen,PV.sk,scalBin,scalUn,intBin,opLoad,natOf,opConvert,opField,cellsP,oneP,Value.oneCell',opStore,toIV,scalT,scalA,scalC,boxesA,boxesC,zipB_none,zipB_mx,isZ,opZip,zeroP,opAppendZ,opMakeMap,opLookup,mboxB,opUpdate,↓reduceIte,Nat.reduceSub,Nat.reduceEqDiff,Nat.reduceAdd,Nat.reduceMul,Nat.reduceLT,Nat.reduceLeDiff,Int.reduceToNat,Int.reduceLE,Int.reduceLT,Int.reduceNeg,reduceCtorEq,zzL,if_true,if_false] <;> rfl)); apply Exists.intro; apply And.intro; (focus (first|exact q1|exact q2|exact q3|exact q4)))|refine X_opc rfl ?_|refine X_dopc rfl ?_|refine ⟨(by show drawK _ _=true; kernel_rfl:drawX _ _ _),?_⟩|exact (by show drawK _ _=true; kernel_rfl:drawX _ _ _)|simp -dsimp (maxSteps:=20000000) (disch:=omega) only [simx,zzC,zzB,tys,ite_self,opnL,callB,callX,readsB,stepOp,nilCmp,ofVal,opBuiltin,opLen,PV.sk,scalBin,scalUn,intBin,opLoad,natOf,opConvert,opField,cellsP,oneP,Value.oneCell',opStore,toIV,scalT,scalA,scalC,boxesA,boxesC,zipB_none,zipB_mx,isZ,opZip,zeroP,opAppendZ,opMakeMap,opLookup,mboxB,opUpdate,↓reduceIte,Nat.reduceSub,Nat.reduceEqDiff,Nat.reduceAdd,Nat.reduceMul,Nat.reduceLT,Nat.reduceLeDiff,Int.reduceToNat,Int.reduceLE,Int.reduceLT,Int.reduceNeg,reduceCtorEq,zzR,gos,Int.reduceAdd,Int.reduceSub,Int.reduceMul,Int.reduceEq,SK.len,e1])
    try rfl
  | true =>
  cases b5:rowsB P uu C with
  | false =>
    rw [b4] at q4
    rw [b5] at q5
    refine ⟨0,0,[],1,?_⟩
    refine X_startP (n:=126) (m:=4) (rs:=[.cell 8 25,.tmp 9]) Try.func48 rfl rfl rfl rfl (by decide) fun base => ?_
    repeat (first|((first|refine X_call_fn2 rfl (by simp only [tys]) ?_|refine X_dcall_fn2 rfl (by simp only [tys]) ?_); apply Exists.intro; apply And.intro; (focus (simp -dsimp only [simx,zzC,zzB,tys,ite_self,opnL,callB,callX,readsB,stepOp,nilCmp,ofVal,opBuiltin,opLen,PV.sk,scalBin,scalUn,intBin,opLoad,natOf,opConvert,opField,cellsP,oneP,Value.oneCell',opStore,toIV,scalT,scalA,scalC,boxesA,boxesC,zipB_none,zipB_mx,isZ,opZip,zeroP,opAppendZ,opMakeMap,opLookup,mboxB,opUpdate,↓reduceIte,Nat.reduceSub,Nat.reduceEqDiff,Nat.reduceAdd,Nat.reduceMul,Nat.reduceLT,Nat.reduceLeDiff,Int.reduceToNat,Int.reduceLE,Int.reduceLT,Int.reduceNeg,reduceCtorEq,zzL,if_true,if_false] <;> rfl)); apply Exists.intro; apply And.intro; (focus (first|exact q1|exact q2|exact q3|exact q4|exact q5)))|refine X_opc rfl ?_|refine X_dopc rfl ?_|refine ⟨(by show drawK _ _=true; kernel_rfl:drawX _ _ _),?_⟩|exact (by show drawK _ _=true; kernel_rfl:drawX _ _ _)|simp -dsimp (maxSteps:=20000000) (disch:=omega) only [simx,zzC,zzB,tys,ite_self,opnL,callB,callX,readsB,stepOp,nilCmp,ofVal,opBuiltin,opLen,PV.sk,scalBin,scalUn,intBin,opLoad,natOf,opConvert,opField,cellsP,oneP,Value.oneCell',opStore,toIV,scalT,scalA,scalC,boxesA,boxesC,zipB_none,zipB_mx,isZ,opZip,zeroP,opAppendZ,opMakeMap,opLookup,mboxB,opUpdate,↓reduceIte,Nat.reduceSub,Nat.reduceEqDiff,Nat.reduceAdd,Nat.reduceMul,Nat.reduceLT,Nat.reduceLeDiff,Int.reduceToNat,Int.reduceLE,Int.reduceLT,Int.reduceNeg,reduceCtorEq,zzR,gos,Int.reduceAdd,Int.reduceSub,Int.reduceMul,Int.reduceEq,SK.len,e1])
    try rfl
  | true =>
  have x4:=(rowsB_iff _ _ _).1 b4
  have x5:=(rowsB_iff _ _ _).1 b5
  exact ⟨_,_,_,_,make_yes (K:=uu.length) hp r1 r2 c1 c2 (by omega) rfl (by rw [mx_len]; omega) (fun x hx => ⟨by have:=(x4 x hx).1; omega,fun a ha => ⟨((h3 x hx).2 a ha).1,((has_iff _ _).1 (x4 x hx).2).1 a ha⟩⟩) (fun x hx => ⟨by have:=(x5 x hx).1; omega,fun a ha => ⟨((h4 x hx).2 a ha).1,((has_iff _ _).1 (x5 x hx).2).1 a ha⟩⟩)⟩
theorem mkP_sum13 {p:Int} (X Y:Nat → Int):∀ k,mkP p X Y k % p=sumN k (fun m => X m * Y m) % p
  | 0 => rfl
  | k + 1 => by rw [mkP,em_refl,sumN]; exact em_add (mkP_sum13 X Y k) em_refl
theorem makeM_mt {P R C:Nat} {c:CupT} (hp:Md P) (r1:1 ≤ R) (r2:R ≤ 64) (c1:1 ≤ C) (c2:C ≤ 64):Mt P R C (makeM P c.2.2.1 c.2.2.2 R c.1.length C) ∧ (∀ a ∈ makeM P c.2.2.1 c.2.2.2 R c.1.length C,In P a) ∧ ∀ i,i < R → ∀ j,j < C → cl C (makeM P c.2.2.1 c.2.2.2 R c.1.length C) i j % P=mkA c i j % P:=by
  have ain:∀ a ∈ makeM P c.2.2.1 c.2.2.2 R c.1.length C,In P a:=fun a ha => by
    obtain ⟨q,_,rfl⟩:=tbl_mem ha
    exact mkP_in hp _ _ _
  refine ⟨⟨hp,r1,r2,c1,c2,tbl_len ..,fun a ha => (ain a ha).2⟩,ain,fun i hi j hj => ?_⟩
  unfold makeM
  rw [cl_tbl _ hi hj,dc_div hj,dc_mod hj]
  unfold mkG
  rw [mkP_sum13]; rfl
set_option maxHeartbeats 8000000 in
theorem shapeOne_true (a0:Int) (a1:Int × Int × List Int) (a2:List Int × List Int × List (List Int) × List (List Int)) (a3:List Int) (w0:(Lit.int .u64 a0).wf=true) (w1:((Lit.int .i64 a1.1).wf=true ∧ (Lit.int .i64 a1.2.1).wf=true ∧ (a1.2.2.length ≤ maxLen ∧ ∀ e23_ ∈ a1.2.2,(Lit.int .u64 e23_).wf=true))) (w2:((a2.1.length ≤ maxLen ∧ ∀ e52_ ∈ a2.1,(Lit.int .i64 e52_).wf=true) ∧ (a2.2.1.length ≤ maxLen ∧ ∀ e52_ ∈ a2.2.1,(Lit.int .i64 e52_).wf=true) ∧ (a2.2.2.1.length ≤ maxLen ∧ ∀ e53_ ∈ a2.2.2.1,(e53_.length ≤ maxLen ∧ ∀ e23_ ∈ e53_,(Lit.int .u64 e23_).wf=true)) ∧ (a2.2.2.2.length ≤ maxLen ∧ ∀ e53_ ∈ a2.2.2.2,(e53_.length ≤ maxLen ∧ ∀ e23_ ∈ e53_,(Lit.int .u64 e23_).wf=true)))) (w3:(a3.length ≤ maxLen ∧ ∀ e23_ ∈ a3,(Lit.int .u64 e23_).wf=true)) :
    CallsP Try.prog 10 [.i (IV.v (.int .u64 a0)),.agg [.i (IV.v (.int .i64 a1.1)),.i (IV.v (.int .i64 a1.2.1)),.i (IV.l a1.2.2.length (a1.2.2.map fun y => IV.v (.int .u64 y)))],.agg [.i (IV.l a2.1.length (a2.1.map fun y => IV.v (.int .i64 y))),.i (IV.l a2.2.1.length (a2.2.1.map fun y => IV.v (.int .i64 y))),.i (IV.l a2.2.2.1.length (a2.2.2.1.map fun y => IV.l y.length (y.map fun y => IV.v (.int .u64 y)))),.i (IV.l a2.2.2.2.length (a2.2.2.2.map fun y => IV.l y.length (y.map fun y => IV.v (.int .u64 y))))],.i (IV.l a3.length (a3.map fun y => IV.v (.int .u64 y)))] (bl true):=by
  obtain ⟨r,c,l⟩:=a1
  obtain ⟨v1,v2,v3,v4⟩:=w1
  obtain ⟨_,_,⟨_,u3⟩,_,u4⟩:=w2
  obtain ⟨z3,z4⟩:=w3
  simp only at v1 v2 v3 v4
  have wp:=w64_of w0
  obtain ⟨P,rfl⟩:∃ P:Nat,a0=P:=⟨a0.toNat,by have:=wp.1; omega⟩
  have wl:=w64_all v4
  have wx:=w64_all z4
  have d0:=awake13_walk
  obtain ⟨pb,d1,hpr⟩:=prime13_walk P (by have:=wp.2; omega)
  have d2:=mright_walk P r c l v3
  obtain ⟨sb,d3,hsb⟩:=short13_walk a2
  change CallsP Try.prog 10 [u64 P,matP r c l,cupQ a2,lu a3] (bl true)
  by_cases c0:(100:Int) < l.length
  · obtain ⟨b1,b2,b3,b4⟩:=a2
    refine X_startP (n:=141) (m:=4) (rs:=[.tmp 8]) Try.func10 rfl rfl rfl rfl (by decide) fun base => ?_
    repeat (first|((first|refine X_call_fn2 rfl (by simp only [tys]) ?_|refine X_dcall_fn2 rfl (by simp only [tys]) ?_); apply Exists.intro; apply And.intro; (focus (simp -dsimp only [simx,zzC,zzB,tys,ite_self,opnL,callB,callX,readsB,stepOp,nilCmp,ofVal,opBuiltin,opLen,PV.sk,scalBin,scalUn,intBin,opLoad,natOf,opConvert,opField,cellsP,oneP,Value.oneCell',opStore,toIV,scalT,scalA,scalC,boxesA,boxesC,zipB_none,zipB_mx,isZ,opZip,zeroP,opAppendZ,opMakeMap,opLookup,mboxB,opUpdate,↓reduceIte,Nat.reduceSub,Nat.reduceEqDiff,Nat.reduceAdd,Nat.reduceMul,Nat.reduceLT,Nat.reduceLeDiff,Int.reduceToNat,Int.reduceLE,Int.reduceLT,Int.reduceNeg,reduceCtorEq,zzL,if_true,if_false] <;> rfl)); apply Exists.intro; apply And.intro; (focus (first|exact d0)))|refine X_opc rfl ?_|refine X_dopc rfl ?_|refine ⟨(by show drawK _ _=true; kernel_rfl:drawX _ _ _),?_⟩|exact (by show drawK _ _=true; kernel_rfl:drawX _ _ _)|simp -dsimp (maxSteps:=20000000) (disch:=omega) only [simx,zzC,zzB,tys,ite_self,opnL,callB,callX,readsB,stepOp,nilCmp,ofVal,opBuiltin,opLen,PV.sk,scalBin,scalUn,intBin,opLoad,natOf,opConvert,opField,cellsP,oneP,Value.oneCell',opStore,toIV,scalT,scalA,scalC,boxesA,boxesC,zipB_none,zipB_mx,isZ,opZip,zeroP,opAppendZ,opMakeMap,opLookup,mboxB,opUpdate,↓reduceIte,Nat.reduceSub,Nat.reduceEqDiff,Nat.reduceAdd,Nat.reduceMul,Nat.reduceLT,Nat.reduceLeDiff,Int.reduceToNat,Int.reduceLE,Int.reduceLT,Int.reduceNeg,reduceCtorEq,zzR,gos,Int.reduceAdd,Int.reduceSub,Int.reduceMul,Int.reduceEq,c0])
  cases sb with
  | false =>
    obtain ⟨b1,b2,b3,b4⟩:=a2
    refine X_startP (n:=141) (m:=4) (rs:=[.tmp 8]) Try.func10 rfl rfl rfl rfl (by decide) fun base => ?_
    repeat (first|((first|refine X_call_fn2 rfl (by simp only [tys]) ?_|refine X_dcall_fn2 rfl (by simp only [tys]) ?_); apply Exists.intro; apply And.intro; (focus (simp -dsimp only [simx,zzC,zzB,tys,ite_self,opnL,callB,callX,readsB,stepOp,nilCmp,ofVal,opBuiltin,opLen,PV.sk,scalBin,scalUn,intBin,opLoad,natOf,opConvert,opField,cellsP,oneP,Value.oneCell',opStore,toIV,scalT,scalA,scalC,boxesA,boxesC,zipB_none,zipB_mx,isZ,opZip,zeroP,opAppendZ,opMakeMap,opLookup,mboxB,opUpdate,↓reduceIte,Nat.reduceSub,Nat.reduceEqDiff,Nat.reduceAdd,Nat.reduceMul,Nat.reduceLT,Nat.reduceLeDiff,Int.reduceToNat,Int.reduceLE,Int.reduceLT,Int.reduceNeg,reduceCtorEq,zzL,if_true,if_false] <;> rfl)); apply Exists.intro; apply And.intro; (focus (first|exact d0|exact d3)))|refine X_opc rfl ?_|refine X_dopc rfl ?_|refine ⟨(by show drawK _ _=true; kernel_rfl:drawX _ _ _),?_⟩|exact (by show drawK _ _=true; kernel_rfl:drawX _ _ _)|simp -dsimp (maxSteps:=20000000) (disch:=omega) only [simx,zzC,zzB,tys,ite_self,opnL,callB,callX,readsB,stepOp,nilCmp,ofVal,opBuiltin,opLen,PV.sk,scalBin,scalUn,intBin,opLoad,natOf,opConvert,opField,cellsP,oneP,Value.oneCell',opStore,toIV,scalT,scalA,scalC,boxesA,boxesC,zipB_none,zipB_mx,isZ,opZip,zeroP,opAppendZ,opMakeMap,opLookup,mboxB,opUpdate,↓reduceIte,Nat.reduceSub,Nat.reduceEqDiff,Nat.reduceAdd,Nat.reduceMul,Nat.reduceLT,Nat.reduceLeDiff,Int.reduceToNat,Int.reduceLE,Int.reduceLT,Int.reduceNeg,reduceCtorEq,zzR,gos,Int.reduceAdd,Int.reduceSub,Int.reduceMul,Int.reduceEq,c0])
  | true =>
  obtain ⟨sh,sr,sc⟩:=hsb.1 rfl
  cases pb with
  | false =>
    obtain ⟨b1,b2,b3,b4⟩:=a2
    refine X_startP (n:=141) (m:=4) (rs:=[.tmp 8]) Try.func10 rfl rfl rfl rfl (by decide) fun base => ?_
    repeat (first|((first|refine X_call_fn2 rfl (by simp only [tys]) ?_|refine X_dcall_fn2 rfl (by simp only [tys]) ?_); apply Exists.intro; apply And.intro; (focus (simp -dsimp only [simx,zzC,zzB,tys,ite_self,opnL,callB,callX,readsB,stepOp,nilCmp,ofVal,opBuiltin,opLen,PV.sk,scalBin,scalUn,intBin,opLoad,natOf,opConvert,opField,cellsP,oneP,Value.oneCell',opStore,toIV,scalT,scalA,scalC,boxesA,boxesC,zipB_none,zipB_mx,isZ,opZip,zeroP,opAppendZ,opMakeMap,opLookup,mboxB,opUpdate,↓reduceIte,Nat.reduceSub,Nat.reduceEqDiff,Nat.reduceAdd,Nat.reduceMul,Nat.reduceLT,Nat.reduceLeDiff,Int.reduceToNat,Int.reduceLE,Int.reduceLT,Int.reduceNeg,reduceCtorEq,zzL,if_true,if_false] <;> rfl)); apply Exists.intro; apply And.intro; (focus (first|exact d0|exact d3|exact d1)))|refine X_opc rfl ?_|refine X_dopc rfl ?_|refine ⟨(by show drawK _ _=true; kernel_rfl:drawX _ _ _),?_⟩|exact (by show drawK _ _=true; kernel_rfl:drawX _ _ _)|simp -dsimp (maxSteps:=20000000) (disch:=omega) only [simx,zzC,zzB,tys,ite_self,opnL,callB,callX,readsB,stepOp,nilCmp,ofVal,opBuiltin,opLen,PV.sk,scalBin,scalUn,intBin,opLoad,natOf,opConvert,opField,cellsP,oneP,Value.oneCell',opStore,toIV,scalT,scalA,scalC,boxesA,boxesC,zipB_none,zipB_mx,isZ,opZip,zeroP,opAppendZ,opMakeMap,opLookup,mboxB,opUpdate,↓reduceIte,Nat.reduceSub,Nat.reduceEqDiff,Nat.reduceAdd,Nat.reduceMul,Nat.reduceLT,Nat.reduceLeDiff,Int.reduceToNat,Int.reduceLE,Int.reduceLT,Int.reduceNeg,reduceCtorEq,zzR,gos,Int.reduceAdd,Int.reduceSub,Int.reduceMul,Int.reduceEq,c0])
  | true =>
  have hP:=hpr rfl
  cases hm:MatB P r c l with
  | false =>
    rw [hm] at d2
    obtain ⟨b1,b2,b3,b4⟩:=a2
    refine X_startP (n:=141) (m:=4) (rs:=[.tmp 8]) Try.func10 rfl rfl rfl rfl (by decide) fun base => ?_
    repeat (first|((first|refine X_call_fn2 rfl (by simp only [tys]) ?_|refine X_dcall_fn2 rfl (by simp only [tys]) ?_); apply Exists.intro; apply And.intro; (focus (simp -dsimp only [simx,zzC,zzB,tys,ite_self,opnL,callB,callX,readsB,stepOp,nilCmp,ofVal,opBuiltin,opLen,PV.sk,scalBin,scalUn,intBin,opLoad,natOf,opConvert,opField,cellsP,oneP,Value.oneCell',opStore,toIV,scalT,scalA,scalC,boxesA,boxesC,zipB_none,zipB_mx,isZ,opZip,zeroP,opAppendZ,opMakeMap,opLookup,mboxB,opUpdate,↓reduceIte,Nat.reduceSub,Nat.reduceEqDiff,Nat.reduceAdd,Nat.reduceMul,Nat.reduceLT,Nat.reduceLeDiff,Int.reduceToNat,Int.reduceLE,Int.reduceLT,Int.reduceNeg,reduceCtorEq,zzL,if_true,if_false] <;> rfl)); apply Exists.intro; apply And.intro; (focus (first|exact d0|exact d3|exact d1|exact d2)))|refine X_opc rfl ?_|refine X_dopc rfl ?_|refine ⟨(by show drawK _ _=true; kernel_rfl:drawX _ _ _),?_⟩|exact (by show drawK _ _=true; kernel_rfl:drawX _ _ _)|simp -dsimp (maxSteps:=20000000) (disch:=omega) only [simx,zzC,zzB,tys,ite_self,opnL,callB,callX,readsB,stepOp,nilCmp,ofVal,opBuiltin,opLen,PV.sk,scalBin,scalUn,intBin,opLoad,natOf,opConvert,opField,cellsP,oneP,Value.oneCell',opStore,toIV,scalT,scalA,scalC,boxesA,boxesC,zipB_none,zipB_mx,isZ,opZip,zeroP,opAppendZ,opMakeMap,opLookup,mboxB,opUpdate,↓reduceIte,Nat.reduceSub,Nat.reduceEqDiff,Nat.reduceAdd,Nat.reduceMul,Nat.reduceLT,Nat.reduceLeDiff,Int.reduceToNat,Int.reduceLE,Int.reduceLT,Int.reduceNeg,reduceCtorEq,zzR,gos,Int.reduceAdd,Int.reduceSub,Int.reduceMul,Int.reduceEq,c0])
  | true =>
  rw [hm] at d2
  obtain ⟨R,C,rfl,rfl,M⟩:=mat_of hm
  have hin:∀ a ∈ l,In P a:=fun a ha => in_of M.has wl ha
  have s1:=take_yes hP M hin
  have tw:=tkCup_W hP M hin
  have tH:=tkCup_Cp hP M hin
  have rk:=CpC.rle_c tH
  have rr:=tw.rle
  have r1:=M.r1
  have r2:=M.r2
  have c1:=M.c1
  have c2:=M.c2
  have hp:=M.hp
  obtain ⟨tb,s2,th⟩:=has13_walk (p:=P) (R:=R) (C:=C) (c:=tkCup P C R l) (by omega) (by have:=tw.ql; omega) (by have:=tw.cl; omega) (by have:=tw.ul; omega)
  have tt:tb=true:=th.2 (cup_has hP hp ⟨by omega,by omega⟩ ⟨by omega,by omega⟩ tw tH)
  subst tt
  have s3:∃ (o:Bool) (f:Int),CallsP Try.prog 40 [u64 P,matP R C l,cupQ (tkCup P C R l),lu a3] (.tup [bl o,i64 f]) ∧ ((f=0 ∧ o=true) ∨ (f=1 ∧ o=false)):=by
    by_cases hx:HasB P a3=true ∧ a3.length=C
    · have xin:∀ a ∈ a3,In P a:=fun a ha => in_of ((has_iff _ _).1 hx.1).1 wx ha
      refine ⟨_,_,looks13_of M hin tw s2 xin hx.2,.inl ⟨rfl,decide_eq_true ?_⟩⟩
      have H2:CpC P R C (mkA (tkCup P C R l)) (tkCup P C R l):=Cp.cong tH fun i j hi hj => tH.made i hi j hj
      exact made_look M.len tw ((take_is hP M hin tw H2).1 rfl) hx.2
    · exact ⟨_,_,looks13_bad M hin s2 z3 wx hx,.inr ⟨rfl,rfl⟩⟩
  obtain ⟨o,f,s3,ho⟩:=s3
  obtain ⟨r',c',l',e,s4⟩:=make_any (P:=P) (R:=R) (C:=C) (c:=a2) hp r1 r2 c1 c2 (by have:=sh.1; omega) (by have:=sh.2.1; omega) (fun u hu => ⟨(u3 u hu).1,w64_all (u3 u hu).2⟩) fun u hu => ⟨(u4 u hu).1,w64_all (u4 u hu).2⟩
  obtain ⟨hb,d4,hh⟩:=has13_walk (p:=P) (R:=R) (C:=C) (c:=a2) (by omega) (by omega) (by have:=sh.1; omega) (by have:=sh.2.1; omega)
  cases hb with
  | false =>
    generalize tkCup P C R l=t at *
    clear hh hsb sh th tw tH u3 u4
    obtain ⟨b1,b2,b3,b4⟩:=a2
    obtain ⟨t1,t2,t3,t4⟩:=t
    rcases ho with ⟨rfl,rfl⟩|⟨rfl,rfl⟩ <;> (
      refine X_startP (n:=141) (m:=4) (rs:=[.tmp 8]) Try.func10 rfl rfl rfl rfl (by decide) fun base => ?_
      repeat (first|((first|refine X_call_fn2 rfl (by simp only [tys]) ?_|refine X_dcall_fn2 rfl (by simp only [tys]) ?_); apply Exists.intro; apply And.intro; (focus (simp -dsimp only [simx,zzC,zzB,tys,ite_self,opnL,callB,callX,readsB,stepOp,nilCmp,ofVal,opBuiltin,opLen,PV.sk,scalBin,scalUn,intBin,opLoad,natOf,opConvert,opField,cellsP,oneP,Value.oneCell',opStore,toIV,scalT,scalA,scalC,boxesA,boxesC,zipB_none,zipB_mx,isZ,opZip,zeroP,opAppendZ,opMakeMap,opLookup,mboxB,opUpdate,↓reduceIte,Nat.reduceSub,Nat.reduceEqDiff,Nat.reduceAdd,Nat.reduceMul,Nat.reduceLT,Nat.reduceLeDiff,Int.reduceToNat,Int.reduceLE,Int.reduceLT,Int.reduceNeg,reduceCtorEq,zzL,if_true,if_false] <;> rfl)); apply Exists.intro; apply And.intro; (focus (first|exact d0|exact d3|exact d1|exact d2|exact s1|exact s2|exact s3|exact s4|exact d4)))|refine X_opc rfl ?_|refine X_dopc rfl ?_|refine ⟨(by show drawK _ _=true; kernel_rfl:drawX _ _ _),?_⟩|exact (by show drawK _ _=true; kernel_rfl:drawX _ _ _)|simp -dsimp (maxSteps:=20000000) (disch:=omega) only [simx,zzC,zzB,tys,ite_self,opnL,callB,callX,readsB,stepOp,nilCmp,ofVal,opBuiltin,opLen,PV.sk,scalBin,scalUn,intBin,opLoad,natOf,opConvert,opField,cellsP,oneP,Value.oneCell',opStore,toIV,scalT,scalA,scalC,boxesA,boxesC,zipB_none,zipB_mx,isZ,opZip,zeroP,opAppendZ,opMakeMap,opLookup,mboxB,opUpdate,↓reduceIte,Nat.reduceSub,Nat.reduceEqDiff,Nat.reduceAdd,Nat.reduceMul,Nat.reduceLT,Nat.reduceLeDiff,Int.reduceToNat,Int.reduceLE,Int.reduceLT,Int.reduceNeg,reduceCtorEq,zzR,gos,Int.reduceAdd,Int.reduceSub,Int.reduceMul,Int.reduceEq,c0]))
  | true =>
  obtain ⟨_,W,H⟩:=has_cup (hh.1 rfl) (fun u hu a ha => (w64_of ((u3 u hu).2 a ha)).1) (fun u hu a ha => (w64_of ((u4 u hu).2 a ha)).1)
  have s4:=make_yes (rw0:=a2.1) (cw:=a2.2.1) hp r1 r2 c1 c2 W.cl W.ul (by have:=W.rle; rw [mx_len]; omega) W.cr W.ur
  obtain ⟨N,nin,ncl⟩:=makeM_mt (c:=a2) hp r1 r2 c1 c2
  have s5:=take_yes hP N nin
  rw [(take_is hP N nin W H).2 ncl] at s5
  have wr:=W.rle
  have wk:=CpC.rle_c H
  have s6:=same13_walk a2 a2 (by omega) (by omega) (by have:=sh.1; omega) (by have:=sh.2.1; omega) (fun u hu => by have:=(W.cr u hu).1; omega) (fun u hu => by have:=(W.ur u hu).1; omega)
  rw [decide_eq_true rfl] at s6
  by_cases eRC:R=C
  case neg =>
    have e':¬ (R:Int)=C:=by omega
    generalize makeM P a2.2.2.1 a2.2.2.2 R a2.1.length C=n at *
    generalize tkCup P C R l=t at *
    clear hh hsb sh th tw tH u3 u4 W H
    obtain ⟨b1,b2,b3,b4⟩:=a2
    obtain ⟨t1,t2,t3,t4⟩:=t
    rcases ho with ⟨rfl,rfl⟩|⟨rfl,rfl⟩ <;> (
      refine X_startP (n:=141) (m:=4) (rs:=[.tmp 8]) Try.func10 rfl rfl rfl rfl (by decide) fun base => ?_
      repeat (first|((first|refine X_call_fn2 rfl (by simp only [tys]) ?_|refine X_dcall_fn2 rfl (by simp only [tys]) ?_); apply Exists.intro; apply And.intro; (focus (simp -dsimp only [simx,zzC,zzB,tys,ite_self,opnL,callB,callX,readsB,stepOp,nilCmp,ofVal,opBuiltin,opLen,PV.sk,scalBin,scalUn,intBin,opLoad,natOf,opConvert,opField,cellsP,oneP,Value.oneCell',opStore,toIV,scalT,scalA,scalC,boxesA,boxesC,zipB_none,zipB_mx,isZ,opZip,zeroP,opAppendZ,opMakeMap,opLookup,mboxB,opUpdate,↓reduceIte,Nat.reduceSub,Nat.reduceEqDiff,Nat.reduceAdd,Nat.reduceMul,Nat.reduceLT,Nat.reduceLeDiff,Int.reduceToNat,Int.reduceLE,Int.reduceLT,Int.reduceNeg,reduceCtorEq,zzL,if_true,if_false] <;> rfl)); apply Exists.intro; apply And.intro; (focus (first|exact d0|exact d3|exact d1|exact d2|exact s1|exact s2|exact s3|exact s4|exact d4|exact s5|exact s6)))|refine X_opc rfl ?_|refine X_dopc rfl ?_|refine ⟨(by show drawK _ _=true; kernel_rfl:drawX _ _ _),?_⟩|exact (by show drawK _ _=true; kernel_rfl:drawX _ _ _)|simp -dsimp (maxSteps:=20000000) (disch:=omega) only [simx,zzC,zzB,tys,ite_self,opnL,callB,callX,readsB,stepOp,nilCmp,ofVal,opBuiltin,opLen,PV.sk,scalBin,scalUn,intBin,opLoad,natOf,opConvert,opField,cellsP,oneP,Value.oneCell',opStore,toIV,scalT,scalA,scalC,boxesA,boxesC,zipB_none,zipB_mx,isZ,opZip,zeroP,opAppendZ,opMakeMap,opLookup,mboxB,opUpdate,↓reduceIte,Nat.reduceSub,Nat.reduceEqDiff,Nat.reduceAdd,Nat.reduceMul,Nat.reduceLT,Nat.reduceLeDiff,Int.reduceToNat,Int.reduceLE,Int.reduceLT,Int.reduceNeg,reduceCtorEq,zzR,gos,Int.reduceAdd,Int.reduceSub,Int.reduceMul,Int.reduceEq,c0,e']))
  subst eRC
  have s7:=det13_of hP hp r1 r2 W H d4
  have s8:=det_yes hP N nin
  rw [Lp_mod R fun i j hi hj => ncl i hi j hj] at s8
  generalize Lp R (mkA a2) % (P:Int)=D at s7 s8
  generalize makeM P a2.2.2.1 a2.2.2.2 R a2.1.length R=n at *
  generalize tkCup P R R l=t at *
  clear hh hsb sh th tw tH u3 u4 W H
  obtain ⟨b1,b2,b3,b4⟩:=a2
  obtain ⟨t1,t2,t3,t4⟩:=t
  rcases ho with ⟨rfl,rfl⟩|⟨rfl,rfl⟩ <;> (
    refine X_startP (n:=141) (m:=4) (rs:=[.tmp 8]) Try.func10 rfl rfl rfl rfl (by decide) fun base => ?_
    repeat (first|((first|refine X_call_fn2 rfl (by simp only [tys]) ?_|refine X_dcall_fn2 rfl (by simp only [tys]) ?_); apply Exists.intro; apply And.intro; (focus (simp -dsimp only [simx,zzC,zzB,tys,ite_self,opnL,callB,callX,readsB,stepOp,nilCmp,ofVal,opBuiltin,opLen,PV.sk,scalBin,scalUn,intBin,opLoad,natOf,opConvert,opField,cellsP,oneP,Value.oneCell',opStore,toIV,scalT,scalA,scalC,boxesA,boxesC,zipB_none,zipB_mx,isZ,opZip,zeroP,opAppendZ,opMakeMap,opLookup,mboxB,opUpdate,↓reduceIte,Nat.reduceSub,Nat.reduceEqDiff,Nat.reduceAdd,Nat.reduceMul,Nat.reduceLT,Nat.reduceLeDiff,Int.reduceToNat,Int.reduceLE,Int.reduceLT,Int.reduceNeg,reduceCtorEq,zzL,if_true,if_false] <;> rfl)); apply Exists.intro; apply And.intro; (focus (first|exact d0|exact d3|exact d1|exact d2|exact s1|exact s2|exact s3|exact s4|exact d4|exact s5|exact s6|exact s7|exact s8)))|refine X_opc rfl ?_|refine X_dopc rfl ?_|refine ⟨(by show drawK _ _=true; kernel_rfl:drawX _ _ _),?_⟩|exact (by show drawK _ _=true; kernel_rfl:drawX _ _ _)|simp -dsimp (maxSteps:=20000000) (disch:=omega) only [simx,zzC,zzB,tys,ite_self,opnL,callB,callX,readsB,stepOp,nilCmp,ofVal,opBuiltin,opLen,PV.sk,scalBin,scalUn,intBin,opLoad,natOf,opConvert,opField,cellsP,oneP,Value.oneCell',opStore,toIV,scalT,scalA,scalC,boxesA,boxesC,zipB_none,zipB_mx,isZ,opZip,zeroP,opAppendZ,opMakeMap,opLookup,mboxB,opUpdate,↓reduceIte,Nat.reduceSub,Nat.reduceEqDiff,Nat.reduceAdd,Nat.reduceMul,Nat.reduceLT,Nat.reduceLeDiff,Int.reduceToNat,Int.reduceLE,Int.reduceLT,Int.reduceNeg,reduceCtorEq,zzR,gos,Int.reduceAdd,Int.reduceSub,Int.reduceMul,Int.reduceEq,c0]))
end Go.Proofs.Ytmalpmnmknpphaa.TM
