/- What is proved of functions, and plain facts, part 6. Conditions: none. -/
import Derived.Test.YtmalpmnmknpphaaSShapeOne5
set_option linter.defProp false
set_option linter.unusedSectionVars false
set_option linter.unusedSimpArgs false
set_option linter.unusedVariables false
namespace Go.Proofs.Ytmalpmnmknpphaa.TM
open Go Go.RowKit
attribute [local irreducible] K W WOps Effs Xg Xo Xr Xdg Xdo Xdr Xif CallsP CallR
theorem noVar_drop {b:Name} {h:Heap} {bs:List Name} (h1:noVar b h):noVar b (h.drop bs):=fun c cs hc => h1 c cs (drop_some hc)
def padF (r:Nat) (x:List Int):List Int:=x ++ List.replicate (r - x.length) 0
abbrev llP (L:List (List Int)):PV:=.i (.l L.length (L.map fun u => .l u.length (u.map iu)))
abbrev CupT:=List Int × List Int × List (List Int) × List (List Int)
abbrev cupQ (c:CupT):PV:=.agg [li c.1,li c.2.1,llP c.2.2.1,llP c.2.2.2]
def tkCup (p:Int) (C R:Nat) (l:List Int):CupT:=((tkN p C l R).rows,(tkN p C l R).cols,(tkN p C l R).cs.map (padF (tkN p C l R).us.length),(tkN p C l R).us)
def fP (T:Tk) (i d k:Nat):List Int:=if k < i then padF T.us.length (csF T k) else if k=i then csF T k ++ List.replicate d 0 else csF T k
theorem rowsX_zero (b:Name) (f:Nat → List Int) (c:Name):rowsX b f 0 c=none:=by
  unfold rowsX
  split
  · exact if_neg (by omega)
  · rfl
theorem tkH_T (base:Name) (P R C i:Nat) (l:List Int) (T:Tk) (f:Nat → List Int):tkH base P R C i l T f ((3,2)::base)=some (.var [rowP ((16,11)::(7,14)::base) 1 T.us.length (T.rows.map ii),rowP ((16,19)::(7,14)::base) 1 T.us.length (T.cols.map ii),clmP ((10,8)::(7,14)::base) i,rowP ((16,27)::(7,14)::base) 1 T.us.length (T.us.map (lv C)),u64 P,rowP ((16,34)::(7,14)::base) 1 T.us.length (T.vs.map iu)]):=by
  have ne1:∀ x:Nat × Nat,base ≠ x::base:=base_ne base
  have ne2:∀ x:Nat × Nat,x::base ≠ base:=fun x h => base_ne base x h.symm
  simp [tkH,rowH_app,rowsH,rowsX,ne1,ne2]
theorem tkH_0 (base:Name) (P R C i:Nat) (l:List Int) (T:Tk) (f:Nat → List Int):tkH base P R C i l T f ((0,0)::base)=some (.var [i64 R,i64 C,lu l]):=by
  have ne1:∀ x:Nat × Nat,base ≠ x::base:=base_ne base
  have ne2:∀ x:Nat × Nat,x::base ≠ base:=fun x h => base_ne base x h.symm
  simp [tkH,rowH_app,rowsH,rowsX,ne1,ne2,mtB]
theorem tkH_1 (base:Name) (P R C i:Nat) (l:List Int) (T:Tk) (f:Nat → List Int):tkH base P R C i l T f ((0,1)::base)=some (.var [nilP,nilP,nilP,nilP]):=by
  have ne1:∀ x:Nat × Nat,base ≠ x::base:=base_ne base
  have ne2:∀ x:Nat × Nat,x::base ≠ base:=fun x h => base_ne base x h.symm
  simp [tkH,rowH_app,rowsH,rowsX,ne1,ne2,mtB]
theorem tkH_C (base:Name) (P R C i:Nat) (l:List Int) (T:Tk) (f:Nat → List Int):tkH base P R C i l T f ((10,8)::(7,14)::base)=clmB i (crowsL ((7,14)::base) f i):=by
  have ne1:∀ x:Nat × Nat,base ≠ x::base:=base_ne base
  have ne2:∀ x:Nat × Nat,x::base ≠ base:=fun x h => base_ne base x h.symm
  simp [tkH,rowH_app,rowsH,rowsX,ne1,ne2,mtB]
theorem tkH_upd {base:Name} {P R C i:Nat} {l:List Int} {T:Tk} {f g:Nat → List Int} (hi:i < R) (hg:∀ m,m ≠ i → g m=f m) (hx:(g i).length ≠ 0) :
    ((tkH base P R C R l T f).put ((900,i)::(7,14)::base) (.row false ((g i).map iu))).put ((10,8)::(7,14)::base) (.var (crowsL ((7,14)::base) g R))=tkH base P R C R l T g:=by
  have ne1:∀ x:Nat × Nat,base ≠ x::base:=base_ne base
  have ne2:∀ x:Nat × Nat,x::base ≠ base:=fun x h => base_ne base x h.symm
  funext c
  unfold tkH
  simp only [Heap.put_at,rowH_app,rowsH]
  by_cases e1:c=(10,8)::(7,14)::base
  · subst e1
    simp [rowsX,clmB,ne1,ne2]; omega
  by_cases e2:c=(900,i)::(7,14)::base
  · subst e2
    rw [rowsX_at hi hx]
    simp
  simp only [e1,e2,if_false]
  rw [rowsX_ne (i:=i) (g:=g) (m:=R) e2 (fun k hk => (hg k hk).symm) (fun _ _ => Iff.rfl)]
theorem low_row {h:Heap} {s:Name} {n:Nat} {cs:List IV} (hn:cs.length=n) (hs:n ≠ 0 → h s=some (.row false cs)):lowerCN h (rowP s 1 n cs)=some (.i (.l n cs)):=by
  rw [← lower_row (h:=h) (s:=s) (z:=1) (n:=n) (cs:=cs) (by omega) hs]
  unfold rowP
  split
  · rfl
  · rename_i h0
    show (match h s with|some (.var cs) => _|_ => _)=_
    rw [hs h0]
theorem mapO_list {α β γ:Type} {g:β → α} {f:α → Option γ} {k:β → γ}:∀ {l:List β},(∀ x ∈ l,f (g x)=some (k x)) → mapO f (l.map g)=some (l.map k)
  | [],_ => rfl
  | x::l,h => by
    rw [List.map_cons,mapO,h x (by simp),mapO_list (l:=l) fun y hy => h y (by simp [hy])]
    rfl
theorem low_col {h:Heap} {s b:Name} {n:Nat} {f:Nat → List Int} (h0:0 < n) (hs:h s=some (.var (crowsL b f n))) (hr:∀ k,k < n → (f k).length ≠ 0 → h ((900,k)::b)=some (.row false ((f k).map iu))) :
    lowerCN h (.view s 0 1 n n)=some (.i (.l n ((List.range n).map fun k => .l (f k).length ((f k).map iu)))):=by
  have hm:mapO (lowerJ h) (crowsL b f n)=some ((List.range n).map fun k => IV.l (f k).length ((f k).map iu)):=by
    unfold crowsL
    refine mapO_list fun k hk => ?_
    have hk:=List.mem_range.1 hk
    unfold lowerJ rowN
    rw [lower_row (by simp) (fun h1 => hr k hk h1)]
  show (match h s with|some (.var cs) => _|_ => _)=_
  rw [hs]
  simp only [crowsL_len,Nat.mul_one,Nat.zero_add,Nat.le_refl,and_self,if_true,List.drop_zero]
  rw [List.take_of_length_le (by rw [crowsL_len]; exact Nat.le_refl _),hm]
  rfl
theorem low_cup {h : Heap} {nR nQ nC nU b : Name} {n R C : Nat} {rows cols : List Int} {us : List (List Int)} {f : Nat → List Int} (hr : rows.length = n) (hq : cols.length = n) (hu : us.length = n)
    (h1:n ≠ 0 → h nR=some (.row false (rows.map ii))) (h2:n ≠ 0 → h nQ=some (.row false (cols.map ii))) (h3:n ≠ 0 → h nU=some (.row false (us.map (lv C)))) (h0:0 < R) (hs:h nC=some (.var (crowsL b f R)))
    (hf:∀ k,k < R → (f k).length ≠ 0 → h ((900,k)::b)=some (.row false ((f k).map iu))) (hul:∀ u ∈ us,u.length=C) :
    lowerTN h (.tup [.agg [rowP nR 1 n (rows.map ii),rowP nQ 1 n (cols.map ii),.view nC 0 1 R R,rowP nU 1 n (us.map (lv C))],i64 0])=some (.tup [cupQ (rows,cols,(List.range R).map f,us),i64 0]):=by
  have e1:=low_row (h:=h) (s:=nR) (n:=n) (cs:=rows.map ii) (by simp [hr]) h1
  have e2:=low_row (h:=h) (s:=nQ) (n:=n) (cs:=cols.map ii) (by simp [hq]) h2
  have e3:=low_row (h:=h) (s:=nU) (n:=n) (cs:=us.map (lv C)) (by simp [hu]) h3
  have e4:=low_col h0 hs hf
  have e5:us.map (lv C)=us.map fun u => IV.l u.length (u.map iu):=List.map_congr_left fun u hm => by rw [hul u hm]
  simp only [lowerTN,lowerAN,mapO,e1,e2,e3,e4,Option.map_some]
  simp [lowerAN,lowerCN,lowerC,cupQ,llP,hr,hq,hu,e5,List.map_map,Function.comp_def]
theorem fP_cs {p:Int} {T:Tk} {C R:Nat} (I:TkI p C R T):(List.range R).map (fP T R 0)=T.cs.map (padF T.us.length):=by
  apply List.ext_getElem?
  intro k
  rw [List.getElem?_map,List.getElem?_map]
  by_cases h:k < R
  · rw [List.getElem?_range h,List.getElem?_eq_getElem (by rw [I.cl]; exact h)]
    show some (fP T R 0 k)=some _
    unfold fP csF
    rw [if_pos h,List.getD_eq_getElem?_getD,List.getElem?_eq_getElem (by rw [I.cl]; exact h)]; rfl
  · rw [List.getElem?_eq_none (by simp; omega),List.getElem?_eq_none (by rw [I.cl]; omega)]; rfl
theorem fP_zero (T:Tk):fP T 0 0=csF T:=by
  funext k; unfold fP
  by_cases h:k=0
  · subst h; simp
  · rw [if_neg (by omega),if_neg h]
theorem fP_full {T:Tk} {i:Nat}:fP T i (T.us.length - (csF T i).length)=fP T (i + 1) 0:=by
  funext k; unfold fP
  by_cases h:k < i
  · rw [if_pos h,if_pos (by omega)]
  · by_cases e:k=i
    · subst e; rw [if_neg (by omega),if_pos rfl,if_pos (by omega)]; rfl
    · by_cases d:k=i + 1
      · subst d; rw [if_neg (by omega),if_neg (by omega),if_neg (by omega),if_pos rfl]; simp
      · rw [if_neg h,if_neg e,if_neg (by omega),if_neg d]
theorem fP_at {T:Tk} {i d:Nat}:fP T i d i=csF T i ++ List.replicate d 0:=by unfold fP; rw [if_neg (by omega),if_pos rfl]
theorem fP_ne {T:Tk} {i d k:Nat} (h:k ≠ i):fP T i (d + 1) k=fP T i d k:=by unfold fP; rw [if_neg h,if_neg h]
structure TkHp (h:Heap) (base:Name) (R C:Nat) (T:Tk):Prop where
  r:T.us.length ≠ 0 → h ((16,11)::(7,14)::base)=some (.row false (T.rows.map ii))
  q:T.us.length ≠ 0 → h ((16,19)::(7,14)::base)=some (.row false (T.cols.map ii))
  u:T.us.length ≠ 0 → h ((16,27)::(7,14)::base)=some (.row false (T.us.map (lv C)))
  c:h ((10,8)::(7,14)::base)=some (.var (crowsL ((7,14)::base) (fP T R 0) R))
  f:∀ k,k < R → (fP T R 0 k).length ≠ 0 → h ((900,k)::(7,14)::base)=some (.row false ((fP T R 0 k).map iu))
set_option maxHeartbeats 4000000 in
theorem take_run {P R C:Nat} {l:List Int} (hP:Prm P) (M:Mt P R C l) (hin:∀ a ∈ l,In P a) (base:Name) {T:Tk} (hT:tkN P C l R=T):∃ hu,CallR Try.prog base 47 [u64 P,matP R C l] Heap.none (.tup [.agg [rowP ((16,11)::(7,14)::base) 1 T.us.length (T.rows.map ii),rowP ((16,19)::(7,14)::base) 1 T.us.length (T.cols.map ii),clmP ((10,8)::(7,14)::base) R,rowP ((16,27)::(7,14)::base) 1 T.us.length (T.us.map (lv C))],i64 0]) hu ∧ TkHp hu base R C T:=by
  have q1:=mright_walk P R C l (by have:=M.len; have:=rc_bd M.r2 M.c2; rw [mx_len]; omega)
  rw [mat_mk M] at q1
  have I:=tkN_I hP M hin R (Nat.le_refl R)
  rw [hT] at I
  have r1:=M.r1
  have r2:=M.r2
  have c1:=M.c1
  have c2:=M.c2
  have ne1:∀ x:Nat × Nat,base ≠ x::base:=base_ne base
  have ne2:∀ x:Nat × Nat,x::base ≠ base:=fun x h => base_ne base x h.symm
  refine X_startE (n:=87) (m:=2) (rs:=[.cell 4 55,.tmp 5]) Try.func47 rfl rfl rfl rfl (by decide) ?_
  repeat (first|((first|refine X_call_fn2 rfl (by simp only [tys]) ?_|refine X_dcall_fn2 rfl (by simp only [tys]) ?_); apply Exists.intro; apply And.intro; (focus (simp -dsimp only [simx,zzC,zzB,tys,ite_self,opnL,callB,callX,readsB,stepOp,nilCmp,ofVal,opBuiltin,opLen,PV.sk,scalBin,scalUn,intBin,opLoad,natOf,opConvert,opField,cellsP,oneP,Value.oneCell',opStore,toIV,scalT,scalA,scalC,boxesA,boxesC,zipB_none,zipB_mx,isZ,opZip,zeroP,opAppendZ,opMakeMap,opLookup,mboxB,opUpdate,↓reduceIte,Nat.reduceSub,Nat.reduceEqDiff,Nat.reduceAdd,Nat.reduceMul,Nat.reduceLT,Nat.reduceLeDiff,Int.reduceToNat,Int.reduceLE,Int.reduceLT,Int.reduceNeg,reduceCtorEq,zzL,if_true,if_false] <;> rfl)); apply Exists.intro; apply And.intro; (focus (first|exact q1)))|refine X_opc rfl ?_|refine X_dopc rfl ?_|refine ⟨(by show drawK _ _=true; kernel_rfl:drawX _ _ _),?_⟩|exact (by show drawK _ _=true; kernel_rfl:drawX _ _ _)|simp -dsimp (maxSteps:=20000000) (disch:=omega) only [simx,zzC,zzB,tys,ite_self,opnL,callB,callX,readsB,stepOp,nilCmp,ofVal,opBuiltin,opLen,PV.sk,scalBin,scalUn,intBin,opLoad,natOf,opConvert,opField,cellsP,oneP,Value.oneCell',opStore,toIV,scalT,scalA,scalC,boxesA,boxesC,zipB_none,zipB_mx,isZ,opZip,zeroP,opAppendZ,opMakeMap,opLookup,mboxB,opUpdate,↓reduceIte,Nat.reduceSub,Nat.reduceEqDiff,Nat.reduceAdd,Nat.reduceMul,Nat.reduceLT,Nat.reduceLeDiff,Int.reduceToNat,Int.reduceLE,Int.reduceLT,Int.reduceNeg,reduceCtorEq,gos,Int.reduceAdd,Int.reduceSub,Int.reduceMul,Int.reduceEq])
  refine X_loopH [3,4,6,18,19] [(1,1)::(7,14)::base,(8,2)::(7,14)::base,(10,7)::(7,14)::base,(15,7)::(7,14)::base,(16,10)::(7,14)::base,(16,18)::(7,14)::base,(16,26)::(7,14)::base,(16,33)::(7,14)::base] (0) (R) (fun j => True) (fun j => [(18,i64 R),(19,i64 j)]) (fun j => tkH base P R C j l (tkN P C l j) (csF (tkN P C l j))) ?_ ?_ ?_ ?_ ?_ (by decide) ?_
  · intro b hb
    simp only [List.mem_cons,List.not_mem_nil,or_false] at hb
    rcases hb with rfl|rfl|rfl|rfl|rfl|rfl|rfl|rfl
    all_goals (refine ⟨rfl,?_,noVar_drop (noVar_var (noVar_var (noVar_var (noVar_none _) (by simp [refsL,refsP])) (by simp [refsL,refsP])) (by simp [refsL,refsP]))⟩; show NotIn _ _ _; simp -dsimp only [zzB,tys,ite_self,opnL,callB,callX,readsB,stepOp,nilCmp,ofVal,opBuiltin,opLen,PV.sk,scalBin,scalUn,intBin,opLoad,natOf,opConvert,opField,cellsP,oneP,Value.oneCell',opStore,toIV,scalT,scalA,scalC,boxesA,boxesC,zipB_none,zipB_mx,isZ,opZip,zeroP,opAppendZ,opMakeMap,opLookup,mboxB,opUpdate,↓reduceIte,Nat.reduceSub,Nat.reduceEqDiff,Nat.reduceAdd,Nat.reduceMul,Nat.reduceLT,Nat.reduceLeDiff,Int.reduceToNat,Int.reduceLE,Int.reduceLT,Int.reduceNeg,reduceCtorEq,gos,Int.reduceAdd,Int.reduceSub,Int.reduceMul,Int.reduceEq,simx,notIn_cons,notIn_nil]; simp [refsP,ne1,ne2])
  · ((simp -dsimp (disch:=omega) only [simx,zzB,tys,ite_self,opnL,callB,callX,readsB,stepOp,nilCmp,ofVal,opBuiltin,opLen,PV.sk,scalBin,scalUn,intBin,opLoad,natOf,opConvert,opField,cellsP,oneP,Value.oneCell',opStore,toIV,scalT,scalA,scalC,boxesA,boxesC,zipB_none,zipB_mx,isZ,opZip,zeroP,opAppendZ,opMakeMap,opLookup,mboxB,opUpdate,↓reduceIte,Nat.reduceSub,Nat.reduceEqDiff,Nat.reduceAdd,Nat.reduceMul,Nat.reduceLT,Nat.reduceLeDiff,Int.reduceToNat,Int.reduceLE,Int.reduceLT,Int.reduceNeg,reduceCtorEq,gos,Int.reduceAdd,Int.reduceSub,Int.reduceMul,Int.reduceEq]) <;> first|rfl|simp)
  · funext c
    have hz:∀ c,rowsX ((7,14)::base) (csF (tkN P C l 0)) 0 c=none:=rowsX_zero _ _
    have hl0:crowsL ((7,14)::base) (csF (tkN P C l 0)) 0=[]:=rfl
    rw [Heap.drop_at]
    unfold tkH
    rw [hl0]
    simp only [tkN,rowH_app,rowsH,List.length_nil,if_true,List.map_nil,rowP_zero,clmP_zero,clmB,mtB]
    simp only [show csF ⟨[],[],[],[],[]⟩=csF (tkN P C l 0) from rfl,hz]
    simp only [Heap.put_at,Heap.none_at]
    by_cases e0:c=(3,2)::base
    · subst e0; simp [ne1,ne2]
    by_cases e1:c=(0,1)::base
    · subst e1; simp [ne1,ne2]
    by_cases e2:c=(0,0)::base
    · subst e2; simp [ne1,ne2]
    simp [e0,e1,e2]
  · omega
  · trivial
  · intro j hj _
    by_cases cj:j < R
    · have b1:=ic_bd (c:=C) cj
      have b2:=rc_bd r2 c2
      have rl:=rowM_len M.len cj
      have ml:=M.len
      have m1:(j + 1) * C=j * C + C:=Nat.succ_mul j C
      have f1:IntKind.i64.wrap ((j:Int) * (C:Int))=((j * C:Nat):Int):=by rw [← Int.natCast_mul]; exact iw_of (by omega) (by omega)
      have f2:IntKind.i64.wrap (((j:Int) + 1) * (C:Int))=((j * C + C:Nat):Int):=by
        rw [show ((j:Int) + 1) * (C:Int)=((j * C + C:Nat):Int) by rw [← m1]; push_cast; rfl]; exact iw_of (by omega) (by omega)
      have f3:j * C + C - j * C=C:=by omega
      have f4:((l.map iu).drop (j * C)).take C=(rowM C l j).map iu:=by unfold rowM; rw [List.map_take,List.map_drop]
      have f5:j * C ≤ j * C + C:=by omega
      have f6:j * C + C ≤ l.length:=by omega
      have t0:=tkH_T base P R C j l (tkN P C l j) (csF (tkN P C l j))
      have t1:=tkH_0 base P R C j l (tkN P C l j) (csF (tkN P C l j))
      obtain ⟨h',k1,k2,k3⟩:=row_call (base:=base) (R:=R) (l:=l) hP M.hp (tkN_I hP M hin j (by omega)) (fun a ha => hin a (rowM_mem ha)) rl (by omega) c2 (by omega)
      have tn:tkRow P (tkN P C l j) j (rowM C l j)=tkN P C l (j + 1):=rfl
      rw [tn] at k2
      generalize hh0:tkH base P R C j l (tkN P C l j) (csF (tkN P C l j))=h0 at t0 t1 k1
      clear M hin I hT
      repeat (first|refine X_opc rfl ?_|refine X_dopc rfl ?_|refine ⟨(by show drawK _ _=true; kernel_rfl:drawX _ _ _),?_⟩|exact (by show drawK _ _=true; kernel_rfl:drawX _ _ _)|simp -dsimp (maxSteps:=20000000) (disch:=omega) only [simx,zzC,zzB,tys,ite_self,opnL,callB,callX,readsB,stepOp,nilCmp,ofVal,opBuiltin,opLen,PV.sk,scalBin,scalUn,intBin,opLoad,natOf,opConvert,opField,cellsP,oneP,Value.oneCell',opStore,toIV,scalT,scalA,scalC,boxesA,boxesC,zipB_none,zipB_mx,isZ,opZip,zeroP,opAppendZ,opMakeMap,opLookup,mboxB,opUpdate,↓reduceIte,Nat.reduceSub,Nat.reduceEqDiff,Nat.reduceAdd,Nat.reduceMul,Nat.reduceLT,Nat.reduceLeDiff,Int.reduceToNat,Int.reduceLE,Int.reduceLT,Int.reduceNeg,reduceCtorEq,gos,Int.reduceAdd,Int.reduceSub,Int.reduceMul,Int.reduceEq,cj,t0,t1,f1,f2,f3,f4,f5,f6,List.length_map])
      refine X_call_sh rfl (by simp only [tys]) rfl k1 ?_
      repeat (first|refine X_opc rfl ?_|refine X_dopc rfl ?_|refine ⟨(by show drawK _ _=true; kernel_rfl:drawX _ _ _),?_⟩|exact (by show drawK _ _=true; kernel_rfl:drawX _ _ _)|simp -dsimp (maxSteps:=20000000) (disch:=omega) only [simx,zzC,zzB,tys,ite_self,opnL,callB,callX,readsB,stepOp,nilCmp,ofVal,opBuiltin,opLen,PV.sk,scalBin,scalUn,intBin,opLoad,natOf,opConvert,opField,cellsP,oneP,Value.oneCell',opStore,toIV,scalT,scalA,scalC,boxesA,boxesC,zipB_none,zipB_mx,isZ,opZip,zeroP,opAppendZ,opMakeMap,opLookup,mboxB,opUpdate,↓reduceIte,Nat.reduceSub,Nat.reduceEqDiff,Nat.reduceAdd,Nat.reduceMul,Nat.reduceLT,Nat.reduceLeDiff,Int.reduceToNat,Int.reduceLE,Int.reduceLT,Int.reduceNeg,reduceCtorEq,gos,Int.reduceAdd,Int.reduceSub,Int.reduceMul,Int.reduceEq])
      refine ⟨cj,?_,rfl,k2⟩
      intro b hb
      have nvb:=k3 b hb
      clear k1 k2 k3 hh0 t0 t1
      simp only [List.mem_cons,List.not_mem_nil,or_false] at hb
      rcases hb with rfl|rfl|rfl|rfl|rfl|rfl|rfl|rfl
      all_goals (refine ⟨rfl,?_,noVar_drop nvb⟩; show NotIn _ _ _; simp -dsimp only [zzB,tys,ite_self,opnL,callB,callX,readsB,stepOp,nilCmp,ofVal,opBuiltin,opLen,PV.sk,scalBin,scalUn,intBin,opLoad,natOf,opConvert,opField,cellsP,oneP,Value.oneCell',opStore,toIV,scalT,scalA,scalC,boxesA,boxesC,zipB_none,zipB_mx,isZ,opZip,zeroP,opAppendZ,opMakeMap,opLookup,mboxB,opUpdate,↓reduceIte,Nat.reduceSub,Nat.reduceEqDiff,Nat.reduceAdd,Nat.reduceMul,Nat.reduceLT,Nat.reduceLeDiff,Int.reduceToNat,Int.reduceLE,Int.reduceLT,Int.reduceNeg,reduceCtorEq,gos,Int.reduceAdd,Int.reduceSub,Int.reduceMul,Int.reduceEq,simx,notIn_cons,notIn_nil]; simp [refsP,ne1,ne2])
    · have ej:R=j:=by omega
      subst ej
      rw [hT,← fP_zero T]
      have t0:=fun i d => tkH_T base P R C R l T (fP T i d)
      have tC:=fun i d => tkH_C base P R C R l T (fP T i d)
      have cp:clmP ((10,8)::(7,14)::base) R=.view ((10,8)::(7,14)::base) 0 1 R R:=if_neg (by omega)
      have cb:∀ L,clmB R L=some (.var L):=fun L => if_neg (by omega)
      simp only [cp] at t0
      simp only [cb] at tC
      repeat (first|refine X_opc rfl ?_|refine X_dopc rfl ?_|refine ⟨(by show drawK _ _=true; kernel_rfl:drawX _ _ _),?_⟩|exact (by show drawK _ _=true; kernel_rfl:drawX _ _ _)|simp -dsimp (maxSteps:=20000000) (disch:=omega) only [simx,zzC,zzB,tys,ite_self,opnL,callB,callX,readsB,stepOp,nilCmp,ofVal,opBuiltin,opLen,PV.sk,scalBin,scalUn,intBin,opLoad,natOf,opConvert,opField,cellsP,oneP,Value.oneCell',opStore,toIV,scalT,scalA,scalC,boxesA,boxesC,zipB_none,zipB_mx,isZ,opZip,zeroP,opAppendZ,opMakeMap,opLookup,mboxB,opUpdate,↓reduceIte,Nat.reduceSub,Nat.reduceEqDiff,Nat.reduceAdd,Nat.reduceMul,Nat.reduceLT,Nat.reduceLeDiff,Int.reduceToNat,Int.reduceLE,Int.reduceLT,Int.reduceNeg,reduceCtorEq,gos,Int.reduceAdd,Int.reduceSub,Int.reduceMul,Int.reduceEq,t0])
      refine X_loopH [4,6,45,46] [(14,14)::base] (0) (R) (fun j => True) (fun j => [(45,i64 R),(46,i64 j)]) (fun j => tkH base P R C R l T (fP T j 0)) ?_ ?_ ?_ ?_ ?_ (by decide) ?_
      · refine fgt_cons rfl (by simp -dsimp only [zzB,tys,ite_self,opnL,callB,callX,readsB,stepOp,nilCmp,ofVal,opBuiltin,opLen,PV.sk,scalBin,scalUn,intBin,opLoad,natOf,opConvert,opField,cellsP,oneP,Value.oneCell',opStore,toIV,scalT,scalA,scalC,boxesA,boxesC,zipB_none,zipB_mx,isZ,opZip,zeroP,opAppendZ,opMakeMap,opLookup,mboxB,opUpdate,↓reduceIte,Nat.reduceSub,Nat.reduceEqDiff,Nat.reduceAdd,Nat.reduceMul,Nat.reduceLT,Nat.reduceLeDiff,Int.reduceToNat,Int.reduceLE,Int.reduceLT,Int.reduceNeg,reduceCtorEq,gos,Int.reduceAdd,Int.reduceSub,Int.reduceMul,Int.reduceEq,simx,notIn_cons,notIn_nil] <;> simp [refsP]) (nv_tk ?_ ?_ ?_ ?_ ?_ ?_) fgt_nil <;> simp [ne1,ne2]
      · repeat (first|refine X_opc rfl ?_|refine X_dopc rfl ?_|refine ⟨(by show drawK _ _=true; kernel_rfl:drawX _ _ _),?_⟩|exact (by show drawK _ _=true; kernel_rfl:drawX _ _ _)|simp -dsimp (maxSteps:=20000000) (disch:=omega) only [simx,zzC,zzB,tys,ite_self,opnL,callB,callX,readsB,stepOp,nilCmp,ofVal,opBuiltin,opLen,PV.sk,scalBin,scalUn,intBin,opLoad,natOf,opConvert,opField,cellsP,oneP,Value.oneCell',opStore,toIV,scalT,scalA,scalC,boxesA,boxesC,zipB_none,zipB_mx,isZ,opZip,zeroP,opAppendZ,opMakeMap,opLookup,mboxB,opUpdate,↓reduceIte,Nat.reduceSub,Nat.reduceEqDiff,Nat.reduceAdd,Nat.reduceMul,Nat.reduceLT,Nat.reduceLeDiff,Int.reduceToNat,Int.reduceLE,Int.reduceLT,Int.reduceNeg,reduceCtorEq,gos,Int.reduceAdd,Int.reduceSub,Int.reduceMul,Int.reduceEq])
        exact ⟨rfl,rfl⟩
      · funext c
        rw [Heap.drop_at]
        split
        · rename_i e
          rw [List.mem_singleton.1 e]
          simp [tkH,rowH_app,rowsH,rowsX,ne1,ne2]
        · rfl
      · omega
      · trivial
      · intro i hi _
        by_cases ci:i < R
        · repeat (first|refine X_opc rfl ?_|refine X_dopc rfl ?_|refine ⟨(by show drawK _ _=true; kernel_rfl:drawX _ _ _),?_⟩|exact (by show drawK _ _=true; kernel_rfl:drawX _ _ _)|simp -dsimp (maxSteps:=20000000) (disch:=omega) only [simx,zzC,zzB,tys,ite_self,opnL,callB,callX,readsB,stepOp,nilCmp,ofVal,opBuiltin,opLen,PV.sk,scalBin,scalUn,intBin,opLoad,natOf,opConvert,opField,cellsP,oneP,Value.oneCell',opStore,toIV,scalT,scalA,scalC,boxesA,boxesC,zipB_none,zipB_mx,isZ,opZip,zeroP,opAppendZ,opMakeMap,opLookup,mboxB,opUpdate,↓reduceIte,Nat.reduceSub,Nat.reduceEqDiff,Nat.reduceAdd,Nat.reduceMul,Nat.reduceLT,Nat.reduceLeDiff,Int.reduceToNat,Int.reduceLE,Int.reduceLT,Int.reduceNeg,reduceCtorEq,gos,Int.reduceAdd,Int.reduceSub,Int.reduceMul,Int.reduceEq,ci])
          refine X_loopH [4,6,8,45,46] [(14,14)::base] (0) (T.us.length - (csF T i).length) (fun j => True) (fun j => [(8,i64 i)]) (fun j => tkH base P R C R l T (fP T i j)) ?_ ?_ ?_ ?_ ?_ (by decide) ?_
          · refine fgt_cons rfl (by simp -dsimp only [zzB,tys,ite_self,opnL,callB,callX,readsB,stepOp,nilCmp,ofVal,opBuiltin,opLen,PV.sk,scalBin,scalUn,intBin,opLoad,natOf,opConvert,opField,cellsP,oneP,Value.oneCell',opStore,toIV,scalT,scalA,scalC,boxesA,boxesC,zipB_none,zipB_mx,isZ,opZip,zeroP,opAppendZ,opMakeMap,opLookup,mboxB,opUpdate,↓reduceIte,Nat.reduceSub,Nat.reduceEqDiff,Nat.reduceAdd,Nat.reduceMul,Nat.reduceLT,Nat.reduceLeDiff,Int.reduceToNat,Int.reduceLE,Int.reduceLT,Int.reduceNeg,reduceCtorEq,gos,Int.reduceAdd,Int.reduceSub,Int.reduceMul,Int.reduceEq,simx,notIn_cons,notIn_nil] <;> simp [refsP]) (nv_tk ?_ ?_ ?_ ?_ ?_ ?_) fgt_nil <;> simp [ne1,ne2]
          · ((simp -dsimp (disch:=omega) only [simx,zzB,tys,ite_self,opnL,callB,callX,readsB,stepOp,nilCmp,ofVal,opBuiltin,opLen,PV.sk,scalBin,scalUn,intBin,opLoad,natOf,opConvert,opField,cellsP,oneP,Value.oneCell',opStore,toIV,scalT,scalA,scalC,boxesA,boxesC,zipB_none,zipB_mx,isZ,opZip,zeroP,opAppendZ,opMakeMap,opLookup,mboxB,opUpdate,↓reduceIte,Nat.reduceSub,Nat.reduceEqDiff,Nat.reduceAdd,Nat.reduceMul,Nat.reduceLT,Nat.reduceLeDiff,Int.reduceToNat,Int.reduceLE,Int.reduceLT,Int.reduceNeg,reduceCtorEq,gos,Int.reduceAdd,Int.reduceSub,Int.reduceMul,Int.reduceEq]) <;> first|rfl|simp)
          · funext c
            rw [Heap.drop_at]
            split
            · rename_i e
              rw [List.mem_singleton.1 e]
              simp [tkH,rowH_app,rowsH,rowsX,ne1,ne2]
            · rfl
          · omega
          · trivial
          · intro j hj _
            by_cases cj:j < T.us.length - (csF T i).length
            · have ru:rowP ((16,27)::(7,14)::base) 1 T.us.length (T.us.map (lv C))=.view ((16,27)::(7,14)::base) 0 1 T.us.length T.us.length:=by unfold rowP; rw [if_neg (by omega),List.length_map]
              have t1:=t0 i j
              have tc:=tC i j
              have g1:=rowsL_get (b:=(7,14)::base) (f:=fP T i j) ci
              have rI:=I.ri
              have xl:(fP T i j i).length=(csF T i).length + j:=by rw [fP_at]; simp
              have xn:fP T i (j + 1) i=fP T i j i ++ [0]:=by rw [fP_at,fP_at,List.replicate_succ',List.append_assoc]
              have rp:=rowsL_put (b:=(7,14)::base) (f:=fP T i j) (g:=fP T i (j + 1)) ci (fun m hm => fP_ne hm)
              have hu:=tkH_upd (base:=base) (P:=P) (C:=C) (l:=l) (T:=T) (f:=fP T i j) (g:=fP T i (j + 1)) ci (fun m hm => fP_ne hm) (by rw [xn]; simp)
              unfold rowN at g1 rp
              rw [xn] at rp hu
              have hX:(fP T i j i).length ≠ 0 → tkH base P R C R l T (fP T i j) ((900,i)::(7,14)::base)=some (.row false ((fP T i j i).map iu)):=fun h => by
                unfold tkH
                simp only [rowH_app,rowsH,rowsX_at ci h]
                simp
              have hX0:(fP T i j i).length=0 → tkH base P R C R l T (fP T i j) ((900,i)::(7,14)::base)=none:=fun h => by
                unfold tkH
                simp only [rowH_app,rowsH,rowsX_nil h]
                simp [ne1,ne2]
              have h14:tkH base P R C R l T (fP T i j) ((14,14)::base)=none:=by
                unfold tkH
                simp [rowH_app,rowsH,rowsX,ne1,ne2]
              have cl:((fP T i j i).length:Int) < (T.us.length:Int):=by omega
              have ile:i + 1 ≤ R:=ci
              have ll:=crowsL_len ((7,14)::base) (fP T i j) R
              have nvh:noVar ((14,14)::base) (tkH base P R C R l T (fP T i j)):=nv_tk (by simp [ne1,ne2]) (by simp [ne1,ne2]) (by simp [ne1,ne2]) (by simp [ne1,ne2]) (by simp [ne1,ne2]) (by simp [ne1,ne2])
              have nvl:(14,14)::base ∉ refsL (crowsL ((7,14)::base) (fP T i (j + 1)) R):=fun h => by
                obtain ⟨k,hk⟩:=mem_rowsL h
                simp at hk
              generalize hh:tkH base P R C R l T (fP T i j)=h0 at t1 tc hu hX hX0 h14 nvh
              generalize fP T i j i=X at g1 rp hu hX hX0 xl cl
              generalize crowsL ((7,14)::base) (fP T i j) R=RL at g1 rp tc ll
              generalize T.us.length=r at *
              rcases hn:X.length with _|m
              · rw [hn] at g1 cl
                have Xe:X=[]:=List.eq_nil_of_length_eq_zero hn
                subst Xe
                have hX0:=hX0 rfl
                rw [rowP_zero] at g1
                simp only [List.nil_append,List.length_singleton,List.map_cons,List.map_nil] at rp hu
                rw [show rowP ((900,i)::(7,14)::base) 1 1 [iu 0]=.view ((900,i)::(7,14)::base) 0 1 1 1 from rfl] at rp
                repeat (first|refine ⟨(by show drawK _ _=true; kernel_rfl:drawX _ _ _),?_⟩|exact (by show drawK _ _=true; kernel_rfl:drawX _ _ _)|simp -dsimp (maxSteps:=20000000) (disch:=omega) only [simx,zzC,zzB,tys,ite_self,opnL,callB,callX,readsB,stepOp,nilCmp,ofVal,opBuiltin,opLen,PV.sk,scalBin,scalUn,intBin,opLoad,natOf,opConvert,opField,cellsP,oneP,Value.oneCell',opStore,toIV,scalT,scalA,scalC,boxesA,boxesC,zipB_none,zipB_mx,isZ,opZip,zeroP,opAppendZ,opMakeMap,opLookup,mboxB,opUpdate,↓reduceIte,Nat.reduceSub,Nat.reduceEqDiff,Nat.reduceAdd,Nat.reduceMul,Nat.reduceLT,Nat.reduceLeDiff,Int.reduceToNat,Int.reduceLE,Int.reduceLT,Int.reduceNeg,reduceCtorEq,gos,Int.reduceAdd,Int.reduceSub,Int.reduceMul,Int.reduceEq,t1,tc,g1,ci,ru,cl,ll,SK.len])
                refine X_dopc rfl ?_
                repeat (first|refine ⟨(by show drawK _ _=true; kernel_rfl:drawX _ _ _),?_⟩|exact (by show drawK _ _=true; kernel_rfl:drawX _ _ _)|simp -dsimp (maxSteps:=20000000) (disch:=omega) only [simx,zzC,zzB,tys,ite_self,opnL,callB,callX,readsB,stepOp,nilCmp,ofVal,opBuiltin,opLen,PV.sk,scalBin,scalUn,intBin,opLoad,natOf,opConvert,opField,cellsP,oneP,Value.oneCell',opStore,toIV,scalT,scalA,scalC,boxesA,boxesC,zipB_none,zipB_mx,isZ,opZip,zeroP,opAppendZ,opMakeMap,opLookup,mboxB,opUpdate,↓reduceIte,Nat.reduceSub,Nat.reduceEqDiff,Nat.reduceAdd,Nat.reduceMul,Nat.reduceLT,Nat.reduceLeDiff,Int.reduceToNat,Int.reduceLE,Int.reduceLT,Int.reduceNeg,reduceCtorEq,gos,Int.reduceAdd,Int.reduceSub,Int.reduceMul,Int.reduceEq,h14])
                refine X_dopn ((900,i)::(7,14)::base) rfl ?_
                repeat (first|refine ⟨(by show drawK _ _=true; kernel_rfl:drawX _ _ _),?_⟩|exact (by show drawK _ _=true; kernel_rfl:drawX _ _ _)|simp -dsimp (maxSteps:=20000000) (disch:=omega) only [simx,zzC,zzB,tys,ite_self,opnL,callB,callX,readsB,stepOp,nilCmp,ofVal,opBuiltin,opLen,PV.sk,scalBin,scalUn,intBin,opLoad,natOf,opConvert,opField,cellsP,oneP,Value.oneCell',opStore,toIV,scalT,scalA,scalC,boxesA,boxesC,zipB_none,zipB_mx,isZ,opZip,zeroP,opAppendZ,opMakeMap,opLookup,mboxB,opUpdate,↓reduceIte,Nat.reduceSub,Nat.reduceEqDiff,Nat.reduceAdd,Nat.reduceMul,Nat.reduceLT,Nat.reduceLeDiff,Int.reduceToNat,Int.reduceLE,Int.reduceLT,Int.reduceNeg,reduceCtorEq,gos,Int.reduceAdd,Int.reduceSub,Int.reduceMul,Int.reduceEq])
                refine X_dappend_one (s:=(900,i)::(7,14)::base) (n:=0) (z:=1) (cs:=[]) 22 [.int .u64 0] [iu 0] (by simp only [tys]) (by simp only [tys]) rfl (by decide) rfl (by simp [Heap.put_at]; exact hX0) (by simp [Heap.put_at]; rfl) rfl (by simp only [tys]; omega) (by rw [mx_len]; omega) ?_
                rw [rowP_succ]
                repeat (first|refine ⟨(by show drawK _ _=true; kernel_rfl:drawX _ _ _),?_⟩|exact (by show drawK _ _=true; kernel_rfl:drawX _ _ _)|simp -dsimp (maxSteps:=20000000) (disch:=omega) only [simx,zzC,zzB,tys,ite_self,opnL,callB,callX,readsB,stepOp,nilCmp,ofVal,opBuiltin,opLen,PV.sk,scalBin,scalUn,intBin,opLoad,natOf,opConvert,opField,cellsP,oneP,Value.oneCell',opStore,toIV,scalT,scalA,scalC,boxesA,boxesC,zipB_none,zipB_mx,isZ,opZip,zeroP,opAppendZ,opMakeMap,opLookup,mboxB,opUpdate,↓reduceIte,Nat.reduceSub,Nat.reduceEqDiff,Nat.reduceAdd,Nat.reduceMul,Nat.reduceLT,Nat.reduceLeDiff,Int.reduceToNat,Int.reduceLE,Int.reduceLT,Int.reduceNeg,reduceCtorEq,gos,Int.reduceAdd,Int.reduceSub,Int.reduceMul,Int.reduceEq,t1,tc,ci,ile,ll,rp,List.nil_append])
                refine ⟨cj,fgt_cons rfl (by simp -dsimp only [zzB,tys,ite_self,opnL,callB,callX,readsB,stepOp,nilCmp,ofVal,opBuiltin,opLen,PV.sk,scalBin,scalUn,intBin,opLoad,natOf,opConvert,opField,cellsP,oneP,Value.oneCell',opStore,toIV,scalT,scalA,scalC,boxesA,boxesC,zipB_none,zipB_mx,isZ,opZip,zeroP,opAppendZ,opMakeMap,opLookup,mboxB,opUpdate,↓reduceIte,Nat.reduceSub,Nat.reduceEqDiff,Nat.reduceAdd,Nat.reduceMul,Nat.reduceLT,Nat.reduceLeDiff,Int.reduceToNat,Int.reduceLE,Int.reduceLT,Int.reduceNeg,reduceCtorEq,gos,Int.reduceAdd,Int.reduceSub,Int.reduceMul,Int.reduceEq,simx,notIn_cons,notIn_nil] <;> simp [refsP]) (noVar_var (noVar_row (noVar_row nvh)) nvl) fgt_nil,?_⟩
                rw [← hu]
                funext c
                simp (maxSteps:=20000000) only [Heap.drop_at,rowH_app,Heap.put_at,Heap.none_at,List.mem_cons,List.not_mem_nil,or_false]
                by_cases e0:c=(14,14)::base
                · subst e0; simp [h14]
                by_cases e1:c=(900,i)::(7,14)::base
                · subst e1; simp [h14]
                by_cases e2:c=(10,8)::(7,14)::base
                · subst e2; simp [h14]
                simp [e0,e1,e2,h14]
              · rw [hn] at g1 cl
                have hX:=hX (by omega)
                rw [rowP_succ,List.length_map,hn] at g1
                rw [List.length_append,hn,List.length_singleton,rowP_succ,List.length_map,List.length_append,hn,List.length_singleton] at rp
                repeat (first|refine ⟨(by show drawK _ _=true; kernel_rfl:drawX _ _ _),?_⟩|exact (by show drawK _ _=true; kernel_rfl:drawX _ _ _)|simp -dsimp (maxSteps:=20000000) (disch:=omega) only [simx,zzC,zzB,tys,ite_self,opnL,callB,callX,readsB,stepOp,nilCmp,ofVal,opBuiltin,opLen,PV.sk,scalBin,scalUn,intBin,opLoad,natOf,opConvert,opField,cellsP,oneP,Value.oneCell',opStore,toIV,scalT,scalA,scalC,boxesA,boxesC,zipB_none,zipB_mx,isZ,opZip,zeroP,opAppendZ,opMakeMap,opLookup,mboxB,opUpdate,↓reduceIte,Nat.reduceSub,Nat.reduceEqDiff,Nat.reduceAdd,Nat.reduceMul,Nat.reduceLT,Nat.reduceLeDiff,Int.reduceToNat,Int.reduceLE,Int.reduceLT,Int.reduceNeg,reduceCtorEq,gos,Int.reduceAdd,Int.reduceSub,Int.reduceMul,Int.reduceEq,t1,tc,g1,ci,ru,cl,ll,SK.len])
                refine X_dopc rfl ?_
                repeat (first|refine ⟨(by show drawK _ _=true; kernel_rfl:drawX _ _ _),?_⟩|exact (by show drawK _ _=true; kernel_rfl:drawX _ _ _)|simp -dsimp (maxSteps:=20000000) (disch:=omega) only [simx,zzC,zzB,tys,ite_self,opnL,callB,callX,readsB,stepOp,nilCmp,ofVal,opBuiltin,opLen,PV.sk,scalBin,scalUn,intBin,opLoad,natOf,opConvert,opField,cellsP,oneP,Value.oneCell',opStore,toIV,scalT,scalA,scalC,boxesA,boxesC,zipB_none,zipB_mx,isZ,opZip,zeroP,opAppendZ,opMakeMap,opLookup,mboxB,opUpdate,↓reduceIte,Nat.reduceSub,Nat.reduceEqDiff,Nat.reduceAdd,Nat.reduceMul,Nat.reduceLT,Nat.reduceLeDiff,Int.reduceToNat,Int.reduceLE,Int.reduceLT,Int.reduceNeg,reduceCtorEq,gos,Int.reduceAdd,Int.reduceSub,Int.reduceMul,Int.reduceEq,h14])
                refine X_dopc rfl ?_
                repeat (first|refine ⟨(by show drawK _ _=true; kernel_rfl:drawX _ _ _),?_⟩|exact (by show drawK _ _=true; kernel_rfl:drawX _ _ _)|simp -dsimp (maxSteps:=20000000) (disch:=omega) only [simx,zzC,zzB,tys,ite_self,opnL,callB,callX,readsB,stepOp,nilCmp,ofVal,opBuiltin,opLen,PV.sk,scalBin,scalUn,intBin,opLoad,natOf,opConvert,opField,cellsP,oneP,Value.oneCell',opStore,toIV,scalT,scalA,scalC,boxesA,boxesC,zipB_none,zipB_mx,isZ,opZip,zeroP,opAppendZ,opMakeMap,opLookup,mboxB,opUpdate,↓reduceIte,Nat.reduceSub,Nat.reduceEqDiff,Nat.reduceAdd,Nat.reduceMul,Nat.reduceLT,Nat.reduceLeDiff,Int.reduceToNat,Int.reduceLE,Int.reduceLT,Int.reduceNeg,reduceCtorEq,gos,Int.reduceAdd,Int.reduceSub,Int.reduceMul,Int.reduceEq])
                refine X_dappend_own (z:=1) (cs:=X.map iu) 22 [.int .u64 0] [iu 0] (by simp only [tys]) (by simp only [tys]) rfl (by decide) (by simp [Heap.put_at]; exact hX) (by simp [hn]) (by simp [hn]) (by simp [Heap.put_at]; rfl) rfl (by simp only [tys]; omega) (by rw [mx_len]; omega) ?_
                have la:(X.map iu ++ [iu 0]).length=m + 1 + 1:=by simp [hn]
                have lm:X.map iu ++ [iu 0]=(X ++ [0]).map iu:=by simp
                rw [la,lm]
                repeat (first|refine ⟨(by show drawK _ _=true; kernel_rfl:drawX _ _ _),?_⟩|exact (by show drawK _ _=true; kernel_rfl:drawX _ _ _)|simp -dsimp (maxSteps:=20000000) (disch:=omega) only [simx,zzC,zzB,tys,ite_self,opnL,callB,callX,readsB,stepOp,nilCmp,ofVal,opBuiltin,opLen,PV.sk,scalBin,scalUn,intBin,opLoad,natOf,opConvert,opField,cellsP,oneP,Value.oneCell',opStore,toIV,scalT,scalA,scalC,boxesA,boxesC,zipB_none,zipB_mx,isZ,opZip,zeroP,opAppendZ,opMakeMap,opLookup,mboxB,opUpdate,↓reduceIte,Nat.reduceSub,Nat.reduceEqDiff,Nat.reduceAdd,Nat.reduceMul,Nat.reduceLT,Nat.reduceLeDiff,Int.reduceToNat,Int.reduceLE,Int.reduceLT,Int.reduceNeg,reduceCtorEq,gos,Int.reduceAdd,Int.reduceSub,Int.reduceMul,Int.reduceEq,t1,tc,ci,ile,ll,rp])
                refine ⟨cj,fgt_cons rfl (by simp -dsimp only [zzB,tys,ite_self,opnL,callB,callX,readsB,stepOp,nilCmp,ofVal,opBuiltin,opLen,PV.sk,scalBin,scalUn,intBin,opLoad,natOf,opConvert,opField,cellsP,oneP,Value.oneCell',opStore,toIV,scalT,scalA,scalC,boxesA,boxesC,zipB_none,zipB_mx,isZ,opZip,zeroP,opAppendZ,opMakeMap,opLookup,mboxB,opUpdate,↓reduceIte,Nat.reduceSub,Nat.reduceEqDiff,Nat.reduceAdd,Nat.reduceMul,Nat.reduceLT,Nat.reduceLeDiff,Int.reduceToNat,Int.reduceLE,Int.reduceLT,Int.reduceNeg,reduceCtorEq,gos,Int.reduceAdd,Int.reduceSub,Int.reduceMul,Int.reduceEq,simx,notIn_cons,notIn_nil] <;> simp [refsP]) (noVar_var (noVar_row (noVar_row nvh)) nvl) fgt_nil,?_⟩
                rw [← hu]
                funext c
                simp (maxSteps:=20000000) only [Heap.drop_at,rowH_app,Heap.put_at,Heap.none_at,List.mem_cons,List.not_mem_nil,or_false]
                by_cases e0:c=(14,14)::base
                · subst e0; simp [h14]
                by_cases e1:c=(900,i)::(7,14)::base
                · subst e1; simp [h14]
                by_cases e2:c=(10,8)::(7,14)::base
                · subst e2; simp [h14]
                simp [e0,e1,e2,h14]
            · have ej:j=T.us.length - (csF T i).length:=by omega
              have ic:=(I.cb (csF T i) (by unfold csF; rw [List.getD_eq_getElem?_getD,List.getElem?_eq_getElem (by rw [I.cl]; exact ci)]; exact List.getElem_mem _)).1
              have xl:(fP T i j i).length=T.us.length:=by rw [fP_at]; simp; omega
              have t1:=t0 i j
              have tc:=tC i j
              have g1:=rowsL_get (b:=(7,14)::base) (f:=fP T i j) ci
              unfold rowN at g1
              rw [xl] at g1
              have hend:tkH base P R C R l T (fP T i j)=tkH base P R C R l T (fP T (i + 1) 0):=by rw [ej,fP_full]
              have h14:tkH base P R C R l T (fP T i j) ((14,14)::base)=none:=by
                unfold tkH
                simp [rowH_app,rowsH,rowsX,ne1,ne2]
              have nvh:noVar ((14,14)::base) (tkH base P R C R l T (fP T i j)):=nv_tk (by simp [ne1,ne2]) (by simp [ne1,ne2]) (by simp [ne1,ne2]) (by simp [ne1,ne2]) (by simp [ne1,ne2]) (by simp [ne1,ne2])
              have ll:=crowsL_len ((7,14)::base) (fP T i j) R
              generalize tkH base P R C R l T (fP T i j)=h0 at t1 tc h14 nvh hend ⊢
              rcases hr:T.us.length with _|r
              · rw [hr] at t1 g1
                have nlt:¬ (((0:Nat):Int) < ((0:Nat):Int)):=by omega
                repeat (first|refine X_opc rfl ?_|refine X_dopc rfl ?_|refine ⟨(by show drawK _ _=true; kernel_rfl:drawX _ _ _),?_⟩|exact (by show drawK _ _=true; kernel_rfl:drawX _ _ _)|simp -dsimp (maxSteps:=20000000) (disch:=omega) only [simx,zzC,zzB,tys,ite_self,opnL,callB,callX,readsB,stepOp,nilCmp,ofVal,opBuiltin,opLen,PV.sk,scalBin,scalUn,intBin,opLoad,natOf,opConvert,opField,cellsP,oneP,Value.oneCell',opStore,toIV,scalT,scalA,scalC,boxesA,boxesC,zipB_none,zipB_mx,isZ,opZip,zeroP,opAppendZ,opMakeMap,opLookup,mboxB,opUpdate,↓reduceIte,Nat.reduceSub,Nat.reduceEqDiff,Nat.reduceAdd,Nat.reduceMul,Nat.reduceLT,Nat.reduceLeDiff,Int.reduceToNat,Int.reduceLE,Int.reduceLT,Int.reduceNeg,reduceCtorEq,gos,Int.reduceAdd,Int.reduceSub,Int.reduceMul,Int.reduceEq,t1,tc,g1,ci,ll,rowP_zero,SK.len,nlt])
                refine ⟨ci,fgt_cons rfl (by simp -dsimp only [zzB,tys,ite_self,opnL,callB,callX,readsB,stepOp,nilCmp,ofVal,opBuiltin,opLen,PV.sk,scalBin,scalUn,intBin,opLoad,natOf,opConvert,opField,cellsP,oneP,Value.oneCell',opStore,toIV,scalT,scalA,scalC,boxesA,boxesC,zipB_none,zipB_mx,isZ,opZip,zeroP,opAppendZ,opMakeMap,opLookup,mboxB,opUpdate,↓reduceIte,Nat.reduceSub,Nat.reduceEqDiff,Nat.reduceAdd,Nat.reduceMul,Nat.reduceLT,Nat.reduceLeDiff,Int.reduceToNat,Int.reduceLE,Int.reduceLT,Int.reduceNeg,reduceCtorEq,gos,Int.reduceAdd,Int.reduceSub,Int.reduceMul,Int.reduceEq,simx,notIn_cons,notIn_nil] <;> simp [refsP]) nvh fgt_nil,rfl,?_⟩
                rw [← hend]
                funext c
                rw [Heap.drop_at]
                split
                · rename_i e
                  rw [List.mem_singleton.1 e,h14]
                · rfl
              · rw [hr] at t1 g1
                have nlt:¬ (((r + 1:Nat):Int) < ((r + 1:Nat):Int)):=by omega
                repeat (first|refine X_opc rfl ?_|refine X_dopc rfl ?_|refine ⟨(by show drawK _ _=true; kernel_rfl:drawX _ _ _),?_⟩|exact (by show drawK _ _=true; kernel_rfl:drawX _ _ _)|simp -dsimp (maxSteps:=20000000) (disch:=omega) only [simx,zzC,zzB,tys,ite_self,opnL,callB,callX,readsB,stepOp,nilCmp,ofVal,opBuiltin,opLen,PV.sk,scalBin,scalUn,intBin,opLoad,natOf,opConvert,opField,cellsP,oneP,Value.oneCell',opStore,toIV,scalT,scalA,scalC,boxesA,boxesC,zipB_none,zipB_mx,isZ,opZip,zeroP,opAppendZ,opMakeMap,opLookup,mboxB,opUpdate,↓reduceIte,Nat.reduceSub,Nat.reduceEqDiff,Nat.reduceAdd,Nat.reduceMul,Nat.reduceLT,Nat.reduceLeDiff,Int.reduceToNat,Int.reduceLE,Int.reduceLT,Int.reduceNeg,reduceCtorEq,gos,Int.reduceAdd,Int.reduceSub,Int.reduceMul,Int.reduceEq,t1,tc,g1,ci,ll,rowP_succ,SK.len,nlt])
                refine ⟨ci,fgt_cons rfl (by simp -dsimp only [zzB,tys,ite_self,opnL,callB,callX,readsB,stepOp,nilCmp,ofVal,opBuiltin,opLen,PV.sk,scalBin,scalUn,intBin,opLoad,natOf,opConvert,opField,cellsP,oneP,Value.oneCell',opStore,toIV,scalT,scalA,scalC,boxesA,boxesC,zipB_none,zipB_mx,isZ,opZip,zeroP,opAppendZ,opMakeMap,opLookup,mboxB,opUpdate,↓reduceIte,Nat.reduceSub,Nat.reduceEqDiff,Nat.reduceAdd,Nat.reduceMul,Nat.reduceLT,Nat.reduceLeDiff,Int.reduceToNat,Int.reduceLE,Int.reduceLT,Int.reduceNeg,reduceCtorEq,gos,Int.reduceAdd,Int.reduceSub,Int.reduceMul,Int.reduceEq,simx,notIn_cons,notIn_nil] <;> simp [refsP]) nvh fgt_nil,rfl,?_⟩
                rw [← hend]
                funext c
                rw [Heap.drop_at]
                split
                · rename_i e
                  rw [List.mem_singleton.1 e,h14]
                · rfl
        · have ej:R=i:=by omega
          subst ej
          have t1:=t0 R 0
          have t2:=tkH_1 base P R C R l T (fP T R 0)
          have fin:∀ (x:Box),TkHp ((tkH base P R C R l T (fP T R 0)).put ((0,1)::base) x) base R C T:=by
            intro x
            refine ⟨fun h => ?_,fun h => ?_,fun h => ?_,?_,fun k hk h => ?_⟩
            · simp [tkH,Heap.put_at,rowH_app,rowsH,rowsX,ne1,ne2]; intro h2; exact absurd (by rw [h2]; rfl) h
            · simp [tkH,Heap.put_at,rowH_app,rowsH,rowsX,ne1,ne2]; intro h2; exact absurd (by rw [h2]; rfl) h
            · simp [tkH,Heap.put_at,rowH_app,rowsH,rowsX,ne1,ne2]; intro h2; exact absurd (by rw [h2]; rfl) h
            · simp only [Heap.put_at]; rw [if_neg (by simp)]; exact tC R 0
            · simp only [Heap.put_at]; rw [if_neg (by simp)]
              unfold tkH
              simp only [rowH_app,rowsH,rowsX_at hk h]
              simp
          rcases hr:T.us.length with _|r
          · rw [hr] at t1
            repeat (first|refine X_opc rfl ?_|refine X_dopc rfl ?_|refine ⟨(by show drawK _ _=true; kernel_rfl:drawX _ _ _),?_⟩|exact (by show drawK _ _=true; kernel_rfl:drawX _ _ _)|simp -dsimp (maxSteps:=20000000) (disch:=omega) only [simx,zzC,zzB,tys,ite_self,opnL,callB,callX,readsB,stepOp,nilCmp,ofVal,opBuiltin,opLen,PV.sk,scalBin,scalUn,intBin,opLoad,natOf,opConvert,opField,cellsP,oneP,Value.oneCell',opStore,toIV,scalT,scalA,scalC,boxesA,boxesC,zipB_none,zipB_mx,isZ,opZip,zeroP,opAppendZ,opMakeMap,opLookup,mboxB,opUpdate,↓reduceIte,Nat.reduceSub,Nat.reduceEqDiff,Nat.reduceAdd,Nat.reduceMul,Nat.reduceLT,Nat.reduceLeDiff,Int.reduceToNat,Int.reduceLE,Int.reduceLT,Int.reduceNeg,reduceCtorEq,zzR,gos,Int.reduceAdd,Int.reduceSub,Int.reduceMul,Int.reduceEq,t1,t2,rowP_zero])
            rw [cp]
            exact ⟨rfl,fin _⟩
          · rw [hr] at t1
            repeat (first|refine X_opc rfl ?_|refine X_dopc rfl ?_|refine ⟨(by show drawK _ _=true; kernel_rfl:drawX _ _ _),?_⟩|exact (by show drawK _ _=true; kernel_rfl:drawX _ _ _)|simp -dsimp (maxSteps:=20000000) (disch:=omega) only [simx,zzC,zzB,tys,ite_self,opnL,callB,callX,readsB,stepOp,nilCmp,ofVal,opBuiltin,opLen,PV.sk,scalBin,scalUn,intBin,opLoad,natOf,opConvert,opField,cellsP,oneP,Value.oneCell',opStore,toIV,scalT,scalA,scalC,boxesA,boxesC,zipB_none,zipB_mx,isZ,opZip,zeroP,opAppendZ,opMakeMap,opLookup,mboxB,opUpdate,↓reduceIte,Nat.reduceSub,Nat.reduceEqDiff,Nat.reduceAdd,Nat.reduceMul,Nat.reduceLT,Nat.reduceLeDiff,Int.reduceToNat,Int.reduceLE,Int.reduceLT,Int.reduceNeg,reduceCtorEq,zzR,gos,Int.reduceAdd,Int.reduceSub,Int.reduceMul,Int.reduceEq,t1,t2,rowP_succ])
            rw [cp]
            exact ⟨rfl,fin _⟩
theorem take_yes {P R C:Nat} {l:List Int} (hP:Prm P) (M:Mt P R C l) (hin:∀ a ∈ l,In P a):CallsP Try.prog 47 [u64 P,matP R C l] (.tup [cupQ (tkCup P C R l),i64 0]):=by
  refine CallsP.of_low mixed rfl fun base => ?_
  have I:=tkN_I hP M hin R (Nat.le_refl R)
  have r1:=M.r1
  generalize hT:tkN P C l R=T at I
  obtain ⟨hu,h1,H⟩:=take_run hP M hin base hT
  refine ⟨_,hu,h1,?_⟩
  have e:tkCup P C R l=(T.rows,T.cols,(List.range R).map (fP T R 0),T.us):=by unfold tkCup; rw [hT,fP_cs I]
  have cp:clmP ((10,8)::(7,14)::base) R=.view ((10,8)::(7,14)::base) 0 1 R R:=if_neg (by omega)
  rw [e,cp]
  exact low_cup (b:=(7,14)::base) I.rl I.ql rfl H.r H.q H.u (by omega) H.c H.f (fun u hu => (I.ul u hu).1)
end Go.Proofs.Ytmalpmnmknpphaa.TM
namespace Go.Proofs.Ytmalpmnmknpphaa.TM
open Go Go.RowKit
attribute [local irreducible] K W WOps Effs Xg Xo Xr Xdg Xdo Xdr Xif CallsP CallR
def seenC (s:List Int):List IV:=(List.range 64).map fun (i:Nat) => IV.v (Value.bool (decide ((i:Int) ∈ s)))
theorem seenC_len (s:List Int):(seenC s).length=64:=by simp [seenC]
theorem seenC_nil:[IV.v (Value.bool false),IV.v (Value.bool false),IV.v (Value.bool false),IV.v (Value.bool false),IV.v (Value.bool false),IV.v (Value.bool false),IV.v (Value.bool false),IV.v (Value.bool false),IV.v (Value.bool false),IV.v (Value.bool false),IV.v (Value.bool false),IV.v (Value.bool false),IV.v (Value.bool false),IV.v (Value.bool false),IV.v (Value.bool false),IV.v (Value.bool false),IV.v (Value.bool false),IV.v (Value.bool false),IV.v (Value.bool false),IV.v (Value.bool false),IV.v (Value.bool false),IV.v (Value.bool false),IV.v (Value.bool false),IV.v (Value.bool false),IV.v (Value.bool false),IV.v (Value.bool false),IV.v (Value.bool false),IV.v (Value.bool false),IV.v (Value.bool false),IV.v (Value.bool false),IV.v (Value.bool false),IV.v (Value.bool false),IV.v (Value.bool false),IV.v (Value.bool false),IV.v (Value.bool false),IV.v (Value.bool false),IV.v (Value.bool false),IV.v (Value.bool false),IV.v (Value.bool false),IV.v (Value.bool false),IV.v (Value.bool false),IV.v (Value.bool false),IV.v (Value.bool false),IV.v (Value.bool false),IV.v (Value.bool false),IV.v (Value.bool false),IV.v (Value.bool false),IV.v (Value.bool false),IV.v (Value.bool false),IV.v (Value.bool false),IV.v (Value.bool false),IV.v (Value.bool false),IV.v (Value.bool false),IV.v (Value.bool false),IV.v (Value.bool false),IV.v (Value.bool false),IV.v (Value.bool false),IV.v (Value.bool false),IV.v (Value.bool false),IV.v (Value.bool false),IV.v (Value.bool false),IV.v (Value.bool false),IV.v (Value.bool false),IV.v (Value.bool false)]=seenC []:=rfl
theorem seenC_get (s:List Int) {a:Int} (h0:0 ≤ a) (h1:a < 64):(seenC s)[a.toNat]?=some (IV.v (Value.bool (decide (a ∈ s)))):=by
  have h2:a.toNat < 64:=by omega
  unfold seenC
  rw [List.getElem?_map,List.getElem?_range h2]
  simp only [Option.map_some,Int.toNat_of_nonneg h0]
theorem seenC_put (s:List Int) {a:Int} (h0:0 ≤ a) (h1:a < 64):(seenC s).take a.toNat ++ [IV.v (Value.bool true)] ++ (seenC s).drop (a.toNat + 1)=seenC (s ++ [a]):=by
  have h2:a.toNat < 64:=by omega
  have hl:=seenC_len s
  apply List.ext_getElem?
  intro i
  by_cases hi:i < 64
  · rw [List.append_assoc,List.getElem?_append,List.length_take,hl,show min a.toNat 64=a.toNat by omega]
    have hr:(seenC (s ++ [a]))[i]?=some (IV.v (Value.bool (decide ((i:Int) ∈ s ++ [a])))):=by
      unfold seenC; rw [List.getElem?_map,List.getElem?_range hi]; rfl
    have hs:(seenC s)[i]?=some (IV.v (Value.bool (decide ((i:Int) ∈ s)))):=by
      unfold seenC; rw [List.getElem?_map,List.getElem?_range hi]; rfl
    rw [hr]
    by_cases c1:i < a.toNat
    · rw [if_pos c1,List.getElem?_take,if_pos c1,hs]
      have:(i:Int) ≠ a:=by omega
      simp [this]
    · rw [if_neg c1]
      by_cases c2:i=a.toNat
      · have:(i:Int)=a:=by omega
        rw [show i - a.toNat=0 by omega]
        simp [this]
      · rw [List.getElem?_append_right (by simp; omega),List.getElem?_drop,List.length_singleton,show a.toNat + 1 + (i - a.toNat - 1)=i by omega,hs]
        have:(i:Int) ≠ a:=by omega
        simp [this]
  · rw [List.getElem?_eq_none (by simp [hl]; omega),List.getElem?_eq_none (by rw [seenC_len]; omega)]
def ordF (n:Int):List Int → List Int → Bool
  | _,[] => true
  | s,a::l => !(decide (a < 0)) && (!(decide (n ≤ a)) && (!(decide (64 ≤ a)) && (!(decide (a ∈ s)) && ordF n (s ++ [a]) l)))
def orderB (l:List Int):Bool:=ordF l.length [] l && decide (1 ≤ (l.length:Int))
theorem ordF_drop (n:Int) (s:List Int) {l:List Int} {j:Nat} (h:j < l.length):ordF n s (l.drop j)=(!(decide (l[j] < 0)) && (!(decide (n ≤ l[j])) && (!(decide (64 ≤ l[j])) && (!(decide (l[j] ∈ s)) && ordF n (s ++ [l[j]]) (l.drop (j + 1)))))):=by
  rw [List.drop_eq_getElem_cons h]; rfl
theorem order_right_walk (l:List Int) (hl:l.length ≤ maxLen):CallsP Try.prog 135 [li l] (bl (orderB l)):=by
  unfold orderB
  have hm:maxLen=9223372036854775807:=rfl
  refine X_startP (n:=35) (m:=1) (rs:=[.tmp 2]) Try.func135 rfl rfl rfl rfl (by decide) fun base => ?_
  repeat (first|refine X_opc rfl ?_|refine X_dopc rfl ?_|refine ⟨(by show drawK _ _=true; kernel_rfl:drawX _ _ _),?_⟩|exact (by show drawK _ _=true; kernel_rfl:drawX _ _ _)|simp -dsimp (maxSteps:=20000000) (disch:=omega) only [simx,zzC,zzB,tys,ite_self,opnL,callB,callX,readsB,stepOp,nilCmp,ofVal,opBuiltin,opLen,PV.sk,scalBin,scalUn,intBin,opLoad,natOf,opConvert,opField,cellsP,oneP,Value.oneCell',opStore,toIV,scalT,scalA,scalC,boxesA,boxesC,zipB_none,zipB_mx,isZ,opZip,zeroP,opAppendZ,opMakeMap,opLookup,mboxB,opUpdate,↓reduceIte,Nat.reduceSub,Nat.reduceEqDiff,Nat.reduceAdd,Nat.reduceMul,Nat.reduceLT,Nat.reduceLeDiff,Int.reduceToNat,Int.reduceLE,Int.reduceLT,Int.reduceNeg,reduceCtorEq,gos,Int.reduceAdd,Int.reduceSub,Int.reduceMul,Int.reduceEq,seenC_nil])
  refine X_loopH [0,3,6,7,8] [] (0) (l.length) (fun j => ordF l.length (l.take j) (l.drop j)=ordF l.length [] l) (fun j => [(8,i64 j)]) (fun j => Heap.none.put ((1,0)::base) (.row false (seenC (l.take j)))) ?_ ?_ ?_ ?_ ?_ (by decide) ?_
  · exact (fgt_nil)
  · ((simp -dsimp (disch:=omega) only [simx,zzB,tys,ite_self,opnL,callB,callX,readsB,stepOp,nilCmp,ofVal,opBuiltin,opLen,PV.sk,scalBin,scalUn,intBin,opLoad,natOf,opConvert,opField,cellsP,oneP,Value.oneCell',opStore,toIV,scalT,scalA,scalC,boxesA,boxesC,zipB_none,zipB_mx,isZ,opZip,zeroP,opAppendZ,opMakeMap,opLookup,mboxB,opUpdate,↓reduceIte,Nat.reduceSub,Nat.reduceEqDiff,Nat.reduceAdd,Nat.reduceMul,Nat.reduceLT,Nat.reduceLeDiff,Int.reduceToNat,Int.reduceLE,Int.reduceLT,Int.reduceNeg,reduceCtorEq,gos,Int.reduceAdd,Int.reduceSub,Int.reduceMul,Int.reduceEq]) <;> first|rfl|simp)
  · exact drop_nil _
  · omega
  · rfl
  · intro j hj hf
    by_cases cj:j < l.length
    · have g1:l[j]?=some l[j]:=List.getElem?_eq_getElem cj
      have tk:l.take (j + 1)=l.take j ++ [l[j]]:=(List.take_append_getElem cj).symm
      rw [ordF_drop _ _ cj] at hf
      generalize l[j]=a at g1 tk hf
      by_cases c1:a < 0
      · rw [← hf]
        repeat (first|refine X_opc rfl ?_|refine X_dopc rfl ?_|refine ⟨(by show drawK _ _=true; kernel_rfl:drawX _ _ _),?_⟩|exact (by show drawK _ _=true; kernel_rfl:drawX _ _ _)|simp -dsimp (maxSteps:=20000000) (disch:=omega) only [simx,zzC,zzB,tys,ite_self,opnL,callB,callX,readsB,stepOp,nilCmp,ofVal,opBuiltin,opLen,PV.sk,scalBin,scalUn,intBin,opLoad,natOf,opConvert,opField,cellsP,oneP,Value.oneCell',opStore,toIV,scalT,scalA,scalC,boxesA,boxesC,zipB_none,zipB_mx,isZ,opZip,zeroP,opAppendZ,opMakeMap,opLookup,mboxB,opUpdate,↓reduceIte,Nat.reduceSub,Nat.reduceEqDiff,Nat.reduceAdd,Nat.reduceMul,Nat.reduceLT,Nat.reduceLeDiff,Int.reduceToNat,Int.reduceLE,Int.reduceLT,Int.reduceNeg,reduceCtorEq,zzR,gos,Int.reduceAdd,Int.reduceSub,Int.reduceMul,Int.reduceEq,cj,g1,c1,decide_true,Bool.not_true,Bool.false_and])
      · have h0:0 ≤ a:=by omega
        have c1':¬ a < 0:=c1
        by_cases c2:(l.length:Int) ≤ a
        · rw [← hf]
          repeat (first|refine X_opc rfl ?_|refine X_dopc rfl ?_|refine ⟨(by show drawK _ _=true; kernel_rfl:drawX _ _ _),?_⟩|exact (by show drawK _ _=true; kernel_rfl:drawX _ _ _)|simp -dsimp (maxSteps:=20000000) (disch:=omega) only [simx,zzC,zzB,tys,ite_self,opnL,callB,callX,readsB,stepOp,nilCmp,ofVal,opBuiltin,opLen,PV.sk,scalBin,scalUn,intBin,opLoad,natOf,opConvert,opField,cellsP,oneP,Value.oneCell',opStore,toIV,scalT,scalA,scalC,boxesA,boxesC,zipB_none,zipB_mx,isZ,opZip,zeroP,opAppendZ,opMakeMap,opLookup,mboxB,opUpdate,↓reduceIte,Nat.reduceSub,Nat.reduceEqDiff,Nat.reduceAdd,Nat.reduceMul,Nat.reduceLT,Nat.reduceLeDiff,Int.reduceToNat,Int.reduceLE,Int.reduceLT,Int.reduceNeg,reduceCtorEq,zzR,gos,Int.reduceAdd,Int.reduceSub,Int.reduceMul,Int.reduceEq,cj,g1,c1',c2,decide_true,decide_false,Bool.not_true,Bool.not_false,Bool.false_and,Bool.true_and])
        · by_cases c3:64 ≤ a
          · rw [← hf]
            repeat (first|refine X_opc rfl ?_|refine X_dopc rfl ?_|refine ⟨(by show drawK _ _=true; kernel_rfl:drawX _ _ _),?_⟩|exact (by show drawK _ _=true; kernel_rfl:drawX _ _ _)|simp -dsimp (maxSteps:=20000000) (disch:=omega) only [simx,zzC,zzB,tys,ite_self,opnL,callB,callX,readsB,stepOp,nilCmp,ofVal,opBuiltin,opLen,PV.sk,scalBin,scalUn,intBin,opLoad,natOf,opConvert,opField,cellsP,oneP,Value.oneCell',opStore,toIV,scalT,scalA,scalC,boxesA,boxesC,zipB_none,zipB_mx,isZ,opZip,zeroP,opAppendZ,opMakeMap,opLookup,mboxB,opUpdate,↓reduceIte,Nat.reduceSub,Nat.reduceEqDiff,Nat.reduceAdd,Nat.reduceMul,Nat.reduceLT,Nat.reduceLeDiff,Int.reduceToNat,Int.reduceLE,Int.reduceLT,Int.reduceNeg,reduceCtorEq,zzR,gos,Int.reduceAdd,Int.reduceSub,Int.reduceMul,Int.reduceEq,cj,g1,c1',c2,c3,decide_true,decide_false,Bool.not_true,Bool.not_false,Bool.false_and,Bool.true_and])
          · have g2:=seenC_get (l.take j) h0 (by omega:a < 64)
            have c4:a.toNat < 64:=by omega
            by_cases c5:a ∈ l.take j
            · rw [← hf]
              repeat (first|refine X_opc rfl ?_|refine X_dopc rfl ?_|refine ⟨(by show drawK _ _=true; kernel_rfl:drawX _ _ _),?_⟩|exact (by show drawK _ _=true; kernel_rfl:drawX _ _ _)|simp -dsimp (maxSteps:=20000000) (disch:=omega) only [simx,zzC,zzB,tys,ite_self,opnL,callB,callX,readsB,stepOp,nilCmp,ofVal,opBuiltin,opLen,PV.sk,scalBin,scalUn,intBin,opLoad,natOf,opConvert,opField,cellsP,oneP,Value.oneCell',opStore,toIV,scalT,scalA,scalC,boxesA,boxesC,zipB_none,zipB_mx,isZ,opZip,zeroP,opAppendZ,opMakeMap,opLookup,mboxB,opUpdate,↓reduceIte,Nat.reduceSub,Nat.reduceEqDiff,Nat.reduceAdd,Nat.reduceMul,Nat.reduceLT,Nat.reduceLeDiff,Int.reduceToNat,Int.reduceLE,Int.reduceLT,Int.reduceNeg,reduceCtorEq,zzR,gos,Int.reduceAdd,Int.reduceSub,Int.reduceMul,Int.reduceEq,cj,g1,c1',c2,c3,c4,c5,h0,g2,seenC_len,decide_true,decide_false,Bool.not_true,Bool.not_false,Bool.false_and,Bool.true_and])
            · have g3:=seenC_put (l.take j) h0 (by omega:a < 64)
              have c6:a.toNat + 1 ≤ 64:=c4
              simp only [c1,c2,c3,c5,decide_false,Bool.not_false,Bool.true_and] at hf
              rw [← tk] at hf g3
              repeat (first|refine X_opc rfl ?_|refine X_dopc rfl ?_|refine ⟨(by show drawK _ _=true; kernel_rfl:drawX _ _ _),?_⟩|exact (by show drawK _ _=true; kernel_rfl:drawX _ _ _)|simp -dsimp (maxSteps:=20000000) (disch:=omega) only [simx,zzC,zzB,tys,ite_self,opnL,callB,callX,readsB,stepOp,nilCmp,ofVal,opBuiltin,opLen,PV.sk,scalBin,scalUn,intBin,opLoad,natOf,opConvert,opField,cellsP,oneP,Value.oneCell',opStore,toIV,scalT,scalA,scalC,boxesA,boxesC,zipB_none,zipB_mx,isZ,opZip,zeroP,opAppendZ,opMakeMap,opLookup,mboxB,opUpdate,↓reduceIte,Nat.reduceSub,Nat.reduceEqDiff,Nat.reduceAdd,Nat.reduceMul,Nat.reduceLT,Nat.reduceLeDiff,Int.reduceToNat,Int.reduceLE,Int.reduceLT,Int.reduceNeg,reduceCtorEq,gos,Int.reduceAdd,Int.reduceSub,Int.reduceMul,Int.reduceEq,cj,g1,c1',c2,c3,c4,c5,c6,h0,g2,g3,seenC_len])
              refine ⟨cj,(fgt_nil),hf,rfl,?_⟩
              funext c
              simp (maxSteps:=20000000) only [Heap.drop_at,rowH_app,Heap.put_at,Heap.none_at,List.mem_cons,List.not_mem_nil,or_false]
              by_cases e0:c=(1,0)::base
              · subst e0; simp []
              simp [e0]
    · have hj:j=l.length:=by omega
      subst hj
      rw [List.drop_length] at hf
      rw [← hf]
      simp only [ordF,Bool.true_and]
      repeat (first|refine X_opc rfl ?_|refine X_dopc rfl ?_|refine ⟨(by show drawK _ _=true; kernel_rfl:drawX _ _ _),?_⟩|exact (by show drawK _ _=true; kernel_rfl:drawX _ _ _)|simp -dsimp (maxSteps:=20000000) (disch:=omega) only [simx,zzC,zzB,tys,ite_self,opnL,callB,callX,readsB,stepOp,nilCmp,ofVal,opBuiltin,opLen,PV.sk,scalBin,scalUn,intBin,opLoad,natOf,opConvert,opField,cellsP,oneP,Value.oneCell',opStore,toIV,scalT,scalA,scalC,boxesA,boxesC,zipB_none,zipB_mx,isZ,opZip,zeroP,opAppendZ,opMakeMap,opLookup,mboxB,opUpdate,↓reduceIte,Nat.reduceSub,Nat.reduceEqDiff,Nat.reduceAdd,Nat.reduceMul,Nat.reduceLT,Nat.reduceLeDiff,Int.reduceToNat,Int.reduceLE,Int.reduceLT,Int.reduceNeg,reduceCtorEq,zzR,gos,Int.reduceAdd,Int.reduceSub,Int.reduceMul,Int.reduceEq])
end Go.Proofs.Ytmalpmnmknpphaa.TM
namespace Go.Proofs.Ytmalpmnmknpphaa.TM
open Go Go.RowKit
attribute [local irreducible] K W WOps Effs Xg Xo Xr Xdg Xdo Xdr Xif CallsP CallR
theorem pright_walk (l:List Int) (hl:l.length ≤ maxLen):CallsP Try.prog 116 [li l] (bl (orderB l)):=by
  have d:=order_right_walk l hl
  refine X_startP (n:=7) (m:=1) (rs:=[.tmp 2]) Try.func116 rfl rfl rfl rfl (by decide) fun base => ?_
  repeat (first|((first|refine X_call_fn2 rfl (by simp only [tys]) ?_|refine X_dcall_fn2 rfl (by simp only [tys]) ?_); apply Exists.intro; apply And.intro; (focus (simp -dsimp only [simx,zzC,zzB,tys,ite_self,opnL,callB,callX,readsB,stepOp,nilCmp,ofVal,opBuiltin,opLen,PV.sk,scalBin,scalUn,intBin,opLoad,natOf,opConvert,opField,cellsP,oneP,Value.oneCell',opStore,toIV,scalT,scalA,scalC,boxesA,boxesC,zipB_none,zipB_mx,isZ,opZip,zeroP,opAppendZ,opMakeMap,opLookup,mboxB,opUpdate,↓reduceIte,Nat.reduceSub,Nat.reduceEqDiff,Nat.reduceAdd,Nat.reduceMul,Nat.reduceLT,Nat.reduceLeDiff,Int.reduceToNat,Int.reduceLE,Int.reduceLT,Int.reduceNeg,reduceCtorEq,zzL,if_true,if_false] <;> rfl)); apply Exists.intro; apply And.intro; (focus (first|exact d)))|(refine X_call_val2 rfl ?_; apply Exists.intro; apply And.intro; (focus (simp -dsimp only [simx,zzC,zzB,tys,ite_self,opnL,callB,callX,readsB,stepOp,nilCmp,ofVal,opBuiltin,opLen,PV.sk,scalBin,scalUn,intBin,opLoad,natOf,opConvert,opField,cellsP,oneP,Value.oneCell',opStore,toIV,scalT,scalA,scalC,boxesA,boxesC,zipB_none,zipB_mx,isZ,opZip,zeroP,opAppendZ,opMakeMap,opLookup,mboxB,opUpdate,↓reduceIte,Nat.reduceSub,Nat.reduceEqDiff,Nat.reduceAdd,Nat.reduceMul,Nat.reduceLT,Nat.reduceLeDiff,Int.reduceToNat,Int.reduceLE,Int.reduceLT,Int.reduceNeg,reduceCtorEq,zzL,if_true,if_false] <;> rfl)); apply And.intro; (focus (first|simp only [tys]|exact such_enter _)); apply Exists.intro; apply And.intro; (focus (simp -dsimp only [simx,zzC,zzB,tys,ite_self,opnL,callB,callX,readsB,stepOp,nilCmp,ofVal,opBuiltin,opLen,PV.sk,scalBin,scalUn,intBin,opLoad,natOf,opConvert,opField,cellsP,oneP,Value.oneCell',opStore,toIV,scalT,scalA,scalC,boxesA,boxesC,zipB_none,zipB_mx,isZ,opZip,zeroP,opAppendZ,opMakeMap,opLookup,mboxB,opUpdate,↓reduceIte,Nat.reduceSub,Nat.reduceEqDiff,Nat.reduceAdd,Nat.reduceMul,Nat.reduceLT,Nat.reduceLeDiff,Int.reduceToNat,Int.reduceLE,Int.reduceLT,Int.reduceNeg,reduceCtorEq,zzL,if_true,if_false] <;> rfl)); apply Exists.intro; apply And.intro; (focus (first|exact d)))|refine X_opc rfl ?_|refine X_dopc rfl ?_|refine ⟨(by show drawK _ _=true; kernel_rfl:drawX _ _ _),?_⟩|exact (by show drawK _ _=true; kernel_rfl:drawX _ _ _)|simp -dsimp (maxSteps:=20000000) (disch:=omega) only [simx,zzC,zzB,tys,ite_self,opnL,callB,callX,readsB,stepOp,nilCmp,ofVal,opBuiltin,opLen,PV.sk,scalBin,scalUn,intBin,opLoad,natOf,opConvert,opField,cellsP,oneP,Value.oneCell',opStore,toIV,scalT,scalA,scalC,boxesA,boxesC,zipB_none,zipB_mx,isZ,opZip,zeroP,opAppendZ,opMakeMap,opLookup,mboxB,opUpdate,↓reduceIte,Nat.reduceSub,Nat.reduceEqDiff,Nat.reduceAdd,Nat.reduceMul,Nat.reduceLT,Nat.reduceLeDiff,Int.reduceToNat,Int.reduceLE,Int.reduceLT,Int.reduceNeg,reduceCtorEq,zzR,gos,Int.reduceAdd,Int.reduceSub,Int.reduceMul,Int.reduceEq])
structure Ord (l:List Int):Prop where
  pos:1 ≤ l.length
  le:l.length ≤ 64
  mem:∀ a ∈ l,0 ≤ a ∧ a < l.length
  nd:l.Nodup
theorem ordF_spec (n:Int):∀ (l s:List Int),ordF n s l=true ↔ (∀ a ∈ l,0 ≤ a ∧ a < n ∧ a < 64) ∧ l.Nodup ∧ ∀ a ∈ l,a ∉ s
  | [],s => by simp [ordF]
  | a::l,s => by
    rw [ordF]
    simp only [Bool.and_eq_true,Bool.not_eq_true',decide_eq_false_iff_not,ordF_spec n l (s ++ [a])]
    constructor
    · rintro ⟨h1,h2,h3,h4,h5,h6,h7⟩
      refine ⟨fun b hb => ?_,List.nodup_cons.2 ⟨fun h => ?_,h6⟩,fun b hb => ?_⟩
      · rcases List.mem_cons.1 hb with rfl|hb
        · omega
        · exact h5 b hb
      · exact h7 a h (by simp)
      · rcases List.mem_cons.1 hb with rfl|hb
        · exact h4
        · exact fun h => h7 b hb (List.mem_append.2 (.inl h))
    · rintro ⟨h1,h2,h3⟩
      obtain ⟨h4,h5⟩:=List.nodup_cons.1 h2
      have:=h1 a (by simp)
      refine ⟨by omega,by omega,by omega,h3 a (by simp),fun b hb => h1 b (by simp [hb]),h5,fun b hb h => ?_⟩
      rcases List.mem_append.1 h with h|h
      · exact h3 b (by simp [hb]) h
      · have:b=a:=by simpa using h
        subst this
        exact h4 hb
theorem nodup_bound {n:Nat}:∀ {l:List Int},l.Nodup → (∀ a ∈ l,0 ≤ a ∧ a < n) → l.length ≤ n:=by
  induction n with
  | zero =>
    intro l _ h
    cases l with
    | nil => simp
    | cons a l => have:=h a (by simp); omega
  | succ n ih =>
    intro l hn h
    by_cases hm:(n:Int) ∈ l
    · have h1:=List.length_erase_of_mem hm
      have h2:=ih (l:=l.erase (n:Int)) (hn.erase _) (fun a ha => by
        have h3:=h a (List.mem_of_mem_erase ha)
        have h4:a ≠ (n:Int):=fun e => by
          subst e
          exact (List.Nodup.not_mem_erase hn) ha
        omega)
      omega
    · have:=ih hn (fun a ha => by
        have h3:=h a ha
        have:a ≠ (n:Int):=fun e => hm (e ▸ ha)
        omega)
      omega
theorem orderB_iff (l:List Int):orderB l=true ↔ Ord l:=by
  unfold orderB
  rw [Bool.and_eq_true,ordF_spec,decide_eq_true_eq]
  constructor
  · rintro ⟨⟨h1,h2,_⟩,h3⟩
    exact ⟨by omega,nodup_bound h2 (fun a ha => by have:=h1 a ha; omega),fun a ha => by have:=h1 a ha; omega,h2⟩
  · rintro ⟨h1,h2,h3,h4⟩
    exact ⟨⟨fun a ha => by have:=h3 a ha; omega,h4,fun a _ => by simp⟩,by omega⟩
end Go.Proofs.Ytmalpmnmknpphaa.TM
namespace Go.Proofs.Ytmalpmnmknpphaa.TM
open Go Go.RowKit
attribute [local irreducible] K W WOps Effs Xg Xo Xr Xdg Xdo Xdr Xif CallsP CallR
def itn (l:List Int) (a:Int):Nat → Int
  | 0 => a
  | k + 1 => l.getD (itn l a k).toNat 0
def orb (l:List Int) (a:Int) (k:Nat):List Int:=(List.range k).map (itn l a)
theorem orb_len (l:List Int) (a:Int) (k:Nat):(orb l a k).length=k:=by simp [orb]
theorem orb_succ (l:List Int) (a:Int) (k:Nat):orb l a (k + 1)=orb l a k ++ [itn l a k]:=by unfold orb; rw [List.range_succ,List.map_append]; rfl
theorem orb_zero (l:List Int) (a:Int):orb l a 0=[]:=rfl
def ringN (l s:List Int) (a:Int):Nat:=((List.range (l.length + 1)).find? fun k => decide (itn l a k ∈ s ++ orb l a k)).getD 0
theorem itn_in {l:List Int} (o:Ord l) {a:Int} (h0:0 ≤ a) (h1:a < l.length):∀ k,0 ≤ itn l a k ∧ itn l a k < l.length
  | 0 => ⟨h0,h1⟩
  | k + 1 => by
    have:=itn_in o h0 h1 k
    have h2:(itn l a k).toNat < l.length:=by omega
    rw [itn,List.getD_eq_getElem?_getD,List.getElem?_eq_getElem h2]
    exact o.mem _ (List.getElem_mem h2)
theorem orb_nodup {l s:List Int} {a:Int}:∀ k,(∀ i,i < k → itn l a i ∉ s ++ orb l a i) → (orb l a k).Nodup
  | 0,_ => List.nodup_nil
  | k + 1,h => by
    rw [orb_succ,List.nodup_append]
    refine ⟨orb_nodup k fun i hi => h i (by omega),by simp,fun x hx y hy => ?_⟩
    have:y=itn l a k:=by simpa using hy
    subst this
    intro e
    exact h k (by omega) (List.mem_append.2 (.inr (e ▸ hx)))
theorem ringN_spec {l:List Int} (o:Ord l) (s:List Int) {a:Int} (h0:0 ≤ a) (h1:a < l.length) :
    itn l a (ringN l s a) ∈ s ++ orb l a (ringN l s a) ∧ (∀ i,i < ringN l s a → itn l a i ∉ s ++ orb l a i) ∧ ringN l s a ≤ l.length:=by
  unfold ringN
  cases hf:(List.range (l.length + 1)).find? fun k => decide (itn l a k ∈ s ++ orb l a k) with
  | none =>
    exfalso
    have h2:∀ i,i < l.length + 1 → itn l a i ∉ s ++ orb l a i:=fun i hi => by
      have:=List.find?_eq_none.1 hf i (List.mem_range.2 hi)
      simpa using this
    have h3:=orb_nodup (l.length + 1) h2
    have h4:=nodup_bound h3 (n:=l.length) (fun x hx => by
      obtain ⟨i,_,rfl⟩:=List.mem_map.1 hx
      exact itn_in o h0 h1 i)
    rw [orb_len] at h4
    omega
  | some m =>
    rw [List.find?_range_eq_some] at hf
    obtain ⟨h2,h3,h4⟩:=hf
    simp only [Option.getD_some]
    refine ⟨by simpa using h2,fun i hi => ?_,?_⟩
    · have:=h4 i hi
      simpa using this
    · have:=List.mem_range.1 h3; omega
def rgs (l:List Int):Nat → List (List Int) × List Int
  | 0 => ([],[])
  | j + 1 => if (j:Int) ∈ (rgs l j).2 then rgs l j else ((rgs l j).1 ++ [orb l j (ringN l (rgs l j).2 j)],(rgs l j).2 ++ orb l j (ringN l (rgs l j).2 j))
def ringsI (l:List Int):List (List Int):=(rgs l l.length).1
abbrev ivl (l:List Int):IV:=.l l.length (l.map ii)
abbrev lli (x:List (List Int)):PV:=.i (.l x.length (x.map ivl))
def trM (s:List Int):List (Int × Value):=s.map fun a => (a,Value.bool true)
theorem getM_tr (n:Int):∀ s:List Int,getM n (trM s)=if n ∈ s then some (Value.bool true) else none
  | [] => by simp [trM,getM]
  | a::s => by
    have ih:=getM_tr n s
    unfold trM at ih ⊢
    rw [List.map_cons,getM]
    by_cases h:n=a
    · simp [h]
    · rw [if_neg h,ih]; simp [h]
theorem putM_tr (n:Int):∀ s:List Int,n ∉ s → putM n (Value.bool true) (trM s)=trM (s ++ [n])
  | [],_ => rfl
  | a::s,hn => by
    have h1:n ≠ a:=fun e => hn (by simp [e])
    have ih:=putM_tr n s fun h => hn (by simp [h])
    unfold trM at ih ⊢
    rw [List.cons_append,List.map_cons,List.map_cons,putM,if_neg h1,ih]
theorem rgs_len (l:List Int):∀ j,(rgs l j).1.length ≤ j
  | 0 => Nat.le_refl _
  | j + 1 => by
    have:=rgs_len l j
    rw [rgs]
    split
    · omega
    · simp; omega
set_option maxHeartbeats 2000000 in
theorem rings_walk (l:List Int) (o:Ord l):CallsP Try.prog 117 [li l] (lli (ringsI l)):=by
  have o1:=o.le
  have o2:=o.pos
  unfold ringsI
  refine X_startP (n:=38) (m:=1) (rs:=[.tmp 2]) Try.func117 rfl rfl rfl rfl (by decide) fun base => ?_
  repeat (first|refine X_opc rfl ?_|refine X_dopc rfl ?_|refine ⟨(by show drawK _ _=true; kernel_rfl:drawX _ _ _),?_⟩|exact (by show drawK _ _=true; kernel_rfl:drawX _ _ _)|simp -dsimp (maxSteps:=20000000) (disch:=omega) only [simx,zzC,zzB,tys,ite_self,opnL,callB,callX,readsB,stepOp,nilCmp,ofVal,opBuiltin,opLen,PV.sk,scalBin,scalUn,intBin,opLoad,natOf,opConvert,opField,cellsP,oneP,Value.oneCell',opStore,toIV,scalT,scalA,scalC,boxesA,boxesC,zipB_none,zipB_mx,isZ,opZip,zeroP,opAppendZ,opMakeMap,opLookup,mboxB,opUpdate,↓reduceIte,Nat.reduceSub,Nat.reduceEqDiff,Nat.reduceAdd,Nat.reduceMul,Nat.reduceLT,Nat.reduceLeDiff,Int.reduceToNat,Int.reduceLE,Int.reduceLT,Int.reduceNeg,reduceCtorEq,gos,Int.reduceAdd,Int.reduceSub,Int.reduceMul,Int.reduceEq])
  refine X_loopH [0,3,4,10,11] [(12,2)::base,(12,3)::base,(13,2)::base] (0) (l.length) (fun j => True) (fun j => [(4,rowP ((13,3)::base) 1 (rgs l j).1.length ((rgs l j).1.map ivl)),(11,i64 j)]) (fun j => rowH (Heap.none.put ((1,0)::base) (.map .i64 (trM (rgs l j).2))) ((13,3)::base) (rgs l j).1.length ((rgs l j).1.map ivl)) ?_ ?_ ?_ ?_ ?_ (by decide) ?_
  · exact (fgt_cons (by simp only [Heap.none_at]) (by (simp -dsimp only [zzB,tys,ite_self,opnL,callB,callX,readsB,stepOp,nilCmp,ofVal,opBuiltin,opLen,PV.sk,scalBin,scalUn,intBin,opLoad,natOf,opConvert,opField,cellsP,oneP,Value.oneCell',opStore,toIV,scalT,scalA,scalC,boxesA,boxesC,zipB_none,zipB_mx,isZ,opZip,zeroP,opAppendZ,opMakeMap,opLookup,mboxB,opUpdate,↓reduceIte,Nat.reduceSub,Nat.reduceEqDiff,Nat.reduceAdd,Nat.reduceMul,Nat.reduceLT,Nat.reduceLeDiff,Int.reduceToNat,Int.reduceLE,Int.reduceLT,Int.reduceNeg,reduceCtorEq,notIn_cons,notIn_nil]) <;> simp [refsL,refsP,mem_refs_rowP]) (by repeat (first|exact noVar_none _|refine noVar_row ?_|refine noVar_map ?_|refine noVar_rowH ?_|refine noVar_var ?_ (by simp [refsL,refsP,mem_refs_rowP]))) (fgt_cons (by simp only [Heap.none_at]) (by (simp -dsimp only [zzB,tys,ite_self,opnL,callB,callX,readsB,stepOp,nilCmp,ofVal,opBuiltin,opLen,PV.sk,scalBin,scalUn,intBin,opLoad,natOf,opConvert,opField,cellsP,oneP,Value.oneCell',opStore,toIV,scalT,scalA,scalC,boxesA,boxesC,zipB_none,zipB_mx,isZ,opZip,zeroP,opAppendZ,opMakeMap,opLookup,mboxB,opUpdate,↓reduceIte,Nat.reduceSub,Nat.reduceEqDiff,Nat.reduceAdd,Nat.reduceMul,Nat.reduceLT,Nat.reduceLeDiff,Int.reduceToNat,Int.reduceLE,Int.reduceLT,Int.reduceNeg,reduceCtorEq,notIn_cons,notIn_nil]) <;> simp [refsL,refsP,mem_refs_rowP]) (by repeat (first|exact noVar_none _|refine noVar_row ?_|refine noVar_map ?_|refine noVar_rowH ?_|refine noVar_var ?_ (by simp [refsL,refsP,mem_refs_rowP]))) (fgt_cons (by simp only [Heap.none_at]) (by (simp -dsimp only [zzB,tys,ite_self,opnL,callB,callX,readsB,stepOp,nilCmp,ofVal,opBuiltin,opLen,PV.sk,scalBin,scalUn,intBin,opLoad,natOf,opConvert,opField,cellsP,oneP,Value.oneCell',opStore,toIV,scalT,scalA,scalC,boxesA,boxesC,zipB_none,zipB_mx,isZ,opZip,zeroP,opAppendZ,opMakeMap,opLookup,mboxB,opUpdate,↓reduceIte,Nat.reduceSub,Nat.reduceEqDiff,Nat.reduceAdd,Nat.reduceMul,Nat.reduceLT,Nat.reduceLeDiff,Int.reduceToNat,Int.reduceLE,Int.reduceLT,Int.reduceNeg,reduceCtorEq,notIn_cons,notIn_nil]) <;> simp [refsL,refsP,mem_refs_rowP]) (by repeat (first|exact noVar_none _|refine noVar_row ?_|refine noVar_map ?_|refine noVar_rowH ?_|refine noVar_var ?_ (by simp [refsL,refsP,mem_refs_rowP]))) (fgt_nil))))
  · ((simp -dsimp (disch:=omega) only [simx,zzB,tys,ite_self,opnL,callB,callX,readsB,stepOp,nilCmp,ofVal,opBuiltin,opLen,PV.sk,scalBin,scalUn,intBin,opLoad,natOf,opConvert,opField,cellsP,oneP,Value.oneCell',opStore,toIV,scalT,scalA,scalC,boxesA,boxesC,zipB_none,zipB_mx,isZ,opZip,zeroP,opAppendZ,opMakeMap,opLookup,mboxB,opUpdate,↓reduceIte,Nat.reduceSub,Nat.reduceEqDiff,Nat.reduceAdd,Nat.reduceMul,Nat.reduceLT,Nat.reduceLeDiff,Int.reduceToNat,Int.reduceLE,Int.reduceLT,Int.reduceNeg,reduceCtorEq,gos,Int.reduceAdd,Int.reduceSub,Int.reduceMul,Int.reduceEq]) <;> first|rfl|simp [rowP,rgs])
  · funext c
    simp (maxSteps:=20000000) only [Heap.drop_at,rowH_app,Heap.put_at,Heap.none_at,List.mem_cons,List.not_mem_nil,or_false]
    by_cases e0:c=(1,0)::base
    · subst e0; simp [rgs,trM]
    by_cases e1:c=(12,2)::base
    · subst e1; simp [rgs,trM]
    by_cases e2:c=(12,3)::base
    · subst e2; simp [rgs,trM]
    by_cases e3:c=(13,2)::base
    · subst e3; simp [rgs,trM]
    simp [e0,e1,e2,e3,rgs,trM]
  · omega
  · trivial
  · intro j hj _
    by_cases cj:j < l.length
    · have gl:=rgs_len l j
      have rs:rgs l (j + 1)=if (j:Int) ∈ (rgs l j).2 then rgs l j else ((rgs l j).1 ++ [orb l j (ringN l (rgs l j).2 j)],(rgs l j).2 ++ orb l j (ringN l (rgs l j).2 j)):=rfl
      generalize rgs l j=q at gl rs ⊢
      generalize hq':rgs l (j + 1)=q' at rs
      obtain ⟨out,s⟩:=q
      simp only at gl rs ⊢
      have gm:=getM_tr (j:Int) s
      by_cases c1:(j:Int) ∈ s
      · rw [if_pos c1] at rs gm
        subst rs
        repeat (first|refine X_opc rfl ?_|refine X_dopc rfl ?_|refine ⟨(by show drawK _ _=true; kernel_rfl:drawX _ _ _),?_⟩|exact (by show drawK _ _=true; kernel_rfl:drawX _ _ _)|simp -dsimp (maxSteps:=20000000) (disch:=omega) only [simx,zzC,zzB,tys,ite_self,opnL,callB,callX,readsB,stepOp,nilCmp,ofVal,opBuiltin,opLen,PV.sk,scalBin,scalUn,intBin,opLoad,natOf,opConvert,opField,cellsP,oneP,Value.oneCell',opStore,toIV,scalT,scalA,scalC,boxesA,boxesC,zipB_none,zipB_mx,isZ,opZip,zeroP,opAppendZ,opMakeMap,opLookup,mboxB,opUpdate,↓reduceIte,Nat.reduceSub,Nat.reduceEqDiff,Nat.reduceAdd,Nat.reduceMul,Nat.reduceLT,Nat.reduceLeDiff,Int.reduceToNat,Int.reduceLE,Int.reduceLT,Int.reduceNeg,reduceCtorEq,gos,Int.reduceAdd,Int.reduceSub,Int.reduceMul,Int.reduceEq,cj,gm,Option.getD_some])
        refine ⟨cj,(fgt_cons (by simp only [Heap.none_at]) (by (simp -dsimp only [zzB,tys,ite_self,opnL,callB,callX,readsB,stepOp,nilCmp,ofVal,opBuiltin,opLen,PV.sk,scalBin,scalUn,intBin,opLoad,natOf,opConvert,opField,cellsP,oneP,Value.oneCell',opStore,toIV,scalT,scalA,scalC,boxesA,boxesC,zipB_none,zipB_mx,isZ,opZip,zeroP,opAppendZ,opMakeMap,opLookup,mboxB,opUpdate,↓reduceIte,Nat.reduceSub,Nat.reduceEqDiff,Nat.reduceAdd,Nat.reduceMul,Nat.reduceLT,Nat.reduceLeDiff,Int.reduceToNat,Int.reduceLE,Int.reduceLT,Int.reduceNeg,reduceCtorEq,notIn_cons,notIn_nil]) <;> simp [refsL,refsP,mem_refs_rowP]) (by repeat (first|exact noVar_none _|refine noVar_row ?_|refine noVar_map ?_|refine noVar_rowH ?_|refine noVar_var ?_ (by simp [refsL,refsP,mem_refs_rowP]))) (fgt_cons (by simp only [Heap.none_at]) (by (simp -dsimp only [zzB,tys,ite_self,opnL,callB,callX,readsB,stepOp,nilCmp,ofVal,opBuiltin,opLen,PV.sk,scalBin,scalUn,intBin,opLoad,natOf,opConvert,opField,cellsP,oneP,Value.oneCell',opStore,toIV,scalT,scalA,scalC,boxesA,boxesC,zipB_none,zipB_mx,isZ,opZip,zeroP,opAppendZ,opMakeMap,opLookup,mboxB,opUpdate,↓reduceIte,Nat.reduceSub,Nat.reduceEqDiff,Nat.reduceAdd,Nat.reduceMul,Nat.reduceLT,Nat.reduceLeDiff,Int.reduceToNat,Int.reduceLE,Int.reduceLT,Int.reduceNeg,reduceCtorEq,notIn_cons,notIn_nil]) <;> simp [refsL,refsP,mem_refs_rowP]) (by repeat (first|exact noVar_none _|refine noVar_row ?_|refine noVar_map ?_|refine noVar_rowH ?_|refine noVar_var ?_ (by simp [refsL,refsP,mem_refs_rowP]))) (fgt_cons (by simp only [Heap.none_at]) (by (simp -dsimp only [zzB,tys,ite_self,opnL,callB,callX,readsB,stepOp,nilCmp,ofVal,opBuiltin,opLen,PV.sk,scalBin,scalUn,intBin,opLoad,natOf,opConvert,opField,cellsP,oneP,Value.oneCell',opStore,toIV,scalT,scalA,scalC,boxesA,boxesC,zipB_none,zipB_mx,isZ,opZip,zeroP,opAppendZ,opMakeMap,opLookup,mboxB,opUpdate,↓reduceIte,Nat.reduceSub,Nat.reduceEqDiff,Nat.reduceAdd,Nat.reduceMul,Nat.reduceLT,Nat.reduceLeDiff,Int.reduceToNat,Int.reduceLE,Int.reduceLT,Int.reduceNeg,reduceCtorEq,notIn_cons,notIn_nil]) <;> simp [refsL,refsP,mem_refs_rowP]) (by repeat (first|exact noVar_none _|refine noVar_row ?_|refine noVar_map ?_|refine noVar_rowH ?_|refine noVar_var ?_ (by simp [refsL,refsP,mem_refs_rowP]))) (fgt_nil)))),⟨?_,rfl⟩,?_⟩
        · rw [hq']
        · rw [hq']
          funext c
          simp (maxSteps:=20000000) only [Heap.drop_at,rowH_app,Heap.put_at,Heap.none_at,List.mem_cons,List.not_mem_nil,or_false]
          by_cases e0:c=(1,0)::base
          · subst e0; simp []
          by_cases e1:c=(12,2)::base
          · subst e1; simp []
          by_cases e2:c=(12,3)::base
          · subst e2; simp []
          by_cases e3:c=(13,2)::base
          · subst e3; simp []
          by_cases e4:c=(13,3)::base
          · subst e4; simp []
          simp [e0,e1,e2,e3,e4]
      · rw [if_neg c1] at rs gm
        subst rs
        obtain ⟨n1,n2,n3⟩:=ringN_spec o s (a:=(j:Int)) (by omega) (by omega)
        generalize ringN l s j=m at n1 n2 n3 hq'
        have it:=itn_in o (a:=(j:Int)) (by omega) (by omega)
        repeat (first|refine X_opc rfl ?_|refine X_dopc rfl ?_|refine ⟨(by show drawK _ _=true; kernel_rfl:drawX _ _ _),?_⟩|exact (by show drawK _ _=true; kernel_rfl:drawX _ _ _)|simp -dsimp (maxSteps:=20000000) (disch:=omega) only [simx,zzC,zzB,tys,ite_self,opnL,callB,callX,readsB,stepOp,nilCmp,ofVal,opBuiltin,opLen,PV.sk,scalBin,scalUn,intBin,opLoad,natOf,opConvert,opField,cellsP,oneP,Value.oneCell',opStore,toIV,scalT,scalA,scalC,boxesA,boxesC,zipB_none,zipB_mx,isZ,opZip,zeroP,opAppendZ,opMakeMap,opLookup,mboxB,opUpdate,↓reduceIte,Nat.reduceSub,Nat.reduceEqDiff,Nat.reduceAdd,Nat.reduceMul,Nat.reduceLT,Nat.reduceLeDiff,Int.reduceToNat,Int.reduceLE,Int.reduceLT,Int.reduceNeg,reduceCtorEq,gos,Int.reduceAdd,Int.reduceSub,Int.reduceMul,Int.reduceEq,cj,gm,Option.getD_none])
        obtain ⟨J,hJ⟩:∃ J:Int,J=(j:Int):=⟨_,rfl⟩
        rw [← hJ] at n1 n2 it hq' gm ⊢
        refine X_loopH [0,3,4,6,7,10,11] [(12,2)::base] (0) (m) (fun j => True) (fun j => [(6,rowP ((12,3)::base) 1 j ((orb l J j).map ii)),(7,i64 (itn l J j))]) (fun j => rowH (rowH (Heap.none.put ((1,0)::base) (.map .i64 (trM (s ++ orb l J j)))) ((13,3)::base) out.length (out.map ivl)) ((12,3)::base) j ((orb l J j).map ii)) ?_ ?_ ?_ ?_ ?_ (by decide) ?_
        · exact (fgt_cons (by simp only [Heap.none_at]) (by (simp -dsimp only [zzB,tys,ite_self,opnL,callB,callX,readsB,stepOp,nilCmp,ofVal,opBuiltin,opLen,PV.sk,scalBin,scalUn,intBin,opLoad,natOf,opConvert,opField,cellsP,oneP,Value.oneCell',opStore,toIV,scalT,scalA,scalC,boxesA,boxesC,zipB_none,zipB_mx,isZ,opZip,zeroP,opAppendZ,opMakeMap,opLookup,mboxB,opUpdate,↓reduceIte,Nat.reduceSub,Nat.reduceEqDiff,Nat.reduceAdd,Nat.reduceMul,Nat.reduceLT,Nat.reduceLeDiff,Int.reduceToNat,Int.reduceLE,Int.reduceLT,Int.reduceNeg,reduceCtorEq,notIn_cons,notIn_nil]) <;> simp [refsL,refsP,mem_refs_rowP]) (by repeat (first|exact noVar_none _|refine noVar_row ?_|refine noVar_map ?_|refine noVar_rowH ?_|refine noVar_var ?_ (by simp [refsL,refsP,mem_refs_rowP]))) (fgt_nil))
        · ((simp -dsimp (disch:=omega) only [simx,zzB,tys,ite_self,opnL,callB,callX,readsB,stepOp,nilCmp,ofVal,opBuiltin,opLen,PV.sk,scalBin,scalUn,intBin,opLoad,natOf,opConvert,opField,cellsP,oneP,Value.oneCell',opStore,toIV,scalT,scalA,scalC,boxesA,boxesC,zipB_none,zipB_mx,isZ,opZip,zeroP,opAppendZ,opMakeMap,opLookup,mboxB,opUpdate,↓reduceIte,Nat.reduceSub,Nat.reduceEqDiff,Nat.reduceAdd,Nat.reduceMul,Nat.reduceLT,Nat.reduceLeDiff,Int.reduceToNat,Int.reduceLE,Int.reduceLT,Int.reduceNeg,reduceCtorEq,gos,Int.reduceAdd,Int.reduceSub,Int.reduceMul,Int.reduceEq]) <;> first|rfl|simp [rowP,orb,itn])
        · funext c
          simp (maxSteps:=20000000) only [Heap.drop_at,rowH_app,Heap.put_at,Heap.none_at,List.mem_cons,List.not_mem_nil,or_false]
          by_cases e0:c=(1,0)::base
          · subst e0; simp [orb]
          by_cases e1:c=(12,2)::base
          · subst e1; simp [orb]
          by_cases e2:c=(12,3)::base
          · subst e2; simp [orb]
          by_cases e3:c=(13,2)::base
          · subst e3; simp [orb]
          by_cases e4:c=(13,3)::base
          · subst e4; simp [orb]
          simp [e0,e1,e2,e3,e4,orb]
        · omega
        · trivial
        · intro k hk _
          have gk:=getM_tr (itn l J k) (s ++ orb l J k)
          by_cases ck:k < m
          · have nk:=n2 k ck
            rw [if_neg nk] at gk
            have pk:=putM_tr (itn l J k) (s ++ orb l J k) nk
            have os:=orb_succ l J k
            rw [List.append_assoc,← os] at pk
            have ol:=orb_len l J k
            obtain ⟨a0,a1⟩:=it k
            have a2:(itn l J k).toNat < l.length:=by omega
            have g2:l[(itn l J k).toNat]?=some (itn l J (k + 1)):=by
              rw [itn,List.getD_eq_getElem?_getD,List.getElem?_eq_getElem a2]; rfl
            generalize itn l J k=a at gk pk os a0 a2 g2 ⊢
            have a3:(k + 1) * 8 ≤ 140737488355328:=by omega
            repeat (first|refine X_opc rfl ?_|refine X_dopc rfl ?_|refine ⟨(by show drawK _ _=true; kernel_rfl:drawX _ _ _),?_⟩|exact (by show drawK _ _=true; kernel_rfl:drawX _ _ _)|simp -dsimp (maxSteps:=20000000) (disch:=omega) only [simx,zzC,zzB,tys,ite_self,opnL,callB,callX,readsB,stepOp,nilCmp,ofVal,opBuiltin,opLen,PV.sk,scalBin,scalUn,intBin,opLoad,natOf,opConvert,opField,cellsP,oneP,Value.oneCell',opStore,toIV,scalT,scalA,scalC,boxesA,boxesC,zipB_none,zipB_mx,isZ,opZip,zeroP,opAppendZ,opMakeMap,opLookup,mboxB,opUpdate,↓reduceIte,Nat.reduceSub,Nat.reduceEqDiff,Nat.reduceAdd,Nat.reduceMul,Nat.reduceLT,Nat.reduceLeDiff,Int.reduceToNat,Int.reduceLE,Int.reduceLT,Int.reduceNeg,reduceCtorEq,gos,Int.reduceAdd,Int.reduceSub,Int.reduceMul,Int.reduceEq,gk,pk,Option.getD_none])
            refine X_append_one 3 [.int .i64 0] [ii a] (by simp only [tys]) (by simp only [tys]) rfl (by decide) (by simp [ol]) (by simp [Heap.put_at,Heap.none_at,rowH_app]) (by simp [Heap.put_at,rowH_app]; rfl) rfl (by simp only [tys]; exact a3) (by rw [mx_len]; omega) ?_
            repeat (first|refine X_opc rfl ?_|refine X_dopc rfl ?_|refine ⟨(by show drawK _ _=true; kernel_rfl:drawX _ _ _),?_⟩|exact (by show drawK _ _=true; kernel_rfl:drawX _ _ _)|simp -dsimp (maxSteps:=20000000) (disch:=omega) only [simx,zzC,zzB,tys,ite_self,opnL,callB,callX,readsB,stepOp,nilCmp,ofVal,opBuiltin,opLen,PV.sk,scalBin,scalUn,intBin,opLoad,natOf,opConvert,opField,cellsP,oneP,Value.oneCell',opStore,toIV,scalT,scalA,scalC,boxesA,boxesC,zipB_none,zipB_mx,isZ,opZip,zeroP,opAppendZ,opMakeMap,opLookup,mboxB,opUpdate,↓reduceIte,Nat.reduceSub,Nat.reduceEqDiff,Nat.reduceAdd,Nat.reduceMul,Nat.reduceLT,Nat.reduceLeDiff,Int.reduceToNat,Int.reduceLE,Int.reduceLT,Int.reduceNeg,reduceCtorEq,gos,Int.reduceAdd,Int.reduceSub,Int.reduceMul,Int.reduceEq,a0,a2,g2])
            refine ⟨ck,(fgt_cons (by simp only [Heap.none_at]) (by (simp -dsimp only [zzB,tys,ite_self,opnL,callB,callX,readsB,stepOp,nilCmp,ofVal,opBuiltin,opLen,PV.sk,scalBin,scalUn,intBin,opLoad,natOf,opConvert,opField,cellsP,oneP,Value.oneCell',opStore,toIV,scalT,scalA,scalC,boxesA,boxesC,zipB_none,zipB_mx,isZ,opZip,zeroP,opAppendZ,opMakeMap,opLookup,mboxB,opUpdate,↓reduceIte,Nat.reduceSub,Nat.reduceEqDiff,Nat.reduceAdd,Nat.reduceMul,Nat.reduceLT,Nat.reduceLeDiff,Int.reduceToNat,Int.reduceLE,Int.reduceLT,Int.reduceNeg,reduceCtorEq,notIn_cons,notIn_nil]) <;> simp [refsL,refsP,mem_refs_rowP]) (by repeat (first|exact noVar_none _|refine noVar_row ?_|refine noVar_map ?_|refine noVar_rowH ?_|refine noVar_var ?_ (by simp [refsL,refsP,mem_refs_rowP]))) (fgt_nil)),?_,?_⟩
            · rw [os]; simp
            · funext c
              simp (maxSteps:=20000000) only [Heap.drop_at,rowH_app,Heap.put_at,Heap.none_at,List.mem_cons,List.not_mem_nil,or_false]
              by_cases e0:c=(1,0)::base
              · subst e0; simp [os]
              by_cases e1:c=(12,2)::base
              · subst e1; simp [os]
              by_cases e2:c=(12,3)::base
              · subst e2; simp [os]
              by_cases e3:c=(13,2)::base
              · subst e3; simp [os]
              by_cases e4:c=(13,3)::base
              · subst e4; simp [os]
              simp [e0,e1,e2,e3,e4,os]
          · have hkm:k=m:=by omega
            subst hkm
            rw [if_pos n1] at gk
            have ol:=orb_len l J k
            have kp:∃ q,k=q + 1:=by
              cases k with
              | zero => rw [show itn l J 0=J from rfl,orb_zero,List.append_nil] at n1; exact absurd n1 (hJ ▸ c1)
              | succ q => exact ⟨q,rfl⟩
            obtain ⟨q,rfl⟩:=kp
            have e2:((orb l J (q + 1)).map ii).take (q + 1)=(orb l J (q + 1)).map ii:=List.take_of_length_le (by simp [ol])
            repeat (first|refine X_opc rfl ?_|refine X_dopc rfl ?_|refine ⟨(by show drawK _ _=true; kernel_rfl:drawX _ _ _),?_⟩|exact (by show drawK _ _=true; kernel_rfl:drawX _ _ _)|simp -dsimp (maxSteps:=20000000) (disch:=omega) only [simx,zzC,zzB,tys,ite_self,opnL,callB,callX,readsB,stepOp,nilCmp,ofVal,opBuiltin,opLen,PV.sk,scalBin,scalUn,intBin,opLoad,natOf,opConvert,opField,cellsP,oneP,Value.oneCell',opStore,toIV,scalT,scalA,scalC,boxesA,boxesC,zipB_none,zipB_mx,isZ,opZip,zeroP,opAppendZ,opMakeMap,opLookup,mboxB,opUpdate,↓reduceIte,Nat.reduceSub,Nat.reduceEqDiff,Nat.reduceAdd,Nat.reduceMul,Nat.reduceLT,Nat.reduceLeDiff,Int.reduceToNat,Int.reduceLE,Int.reduceLT,Int.reduceNeg,reduceCtorEq,gos,Int.reduceAdd,Int.reduceSub,Int.reduceMul,Int.reduceEq,gk,Option.getD_some,rowP_succ,rowH_succ,List.length_map,ol,e2])
            have e3:ivl (orb l J (q + 1))=IV.l (q + 1) ((orb l J (q + 1)).map ii):=by rw [ivl,ol]
            have e4:(out.length + 1) * 24 ≤ 140737488355328:=by omega
            refine X_append_one 52 [.slice none 0 0] [IV.l (q + 1) ((orb l J (q + 1)).map ii)] (by simp only [tys]) (by simp only [tys]) rfl (by decide) (by simp) (by simp [Heap.put_at,Heap.none_at,rowH_app]) (by simp [Heap.put_at,rowH_app]; rfl) rfl (by simp only [tys]; exact e4) (by rw [mx_len]; omega) ?_
            rw [← e3]
            repeat (first|refine X_opc rfl ?_|refine X_dopc rfl ?_|refine ⟨(by show drawK _ _=true; kernel_rfl:drawX _ _ _),?_⟩|exact (by show drawK _ _=true; kernel_rfl:drawX _ _ _)|simp -dsimp (maxSteps:=20000000) (disch:=omega) only [simx,zzC,zzB,tys,ite_self,opnL,callB,callX,readsB,stepOp,nilCmp,ofVal,opBuiltin,opLen,PV.sk,scalBin,scalUn,intBin,opLoad,natOf,opConvert,opField,cellsP,oneP,Value.oneCell',opStore,toIV,scalT,scalA,scalC,boxesA,boxesC,zipB_none,zipB_mx,isZ,opZip,zeroP,opAppendZ,opMakeMap,opLookup,mboxB,opUpdate,↓reduceIte,Nat.reduceSub,Nat.reduceEqDiff,Nat.reduceAdd,Nat.reduceMul,Nat.reduceLT,Nat.reduceLeDiff,Int.reduceToNat,Int.reduceLE,Int.reduceLT,Int.reduceNeg,reduceCtorEq,gos,Int.reduceAdd,Int.reduceSub,Int.reduceMul,Int.reduceEq,hJ])
            refine ⟨cj,(fgt_cons (by simp only [Heap.none_at]) (by (simp -dsimp only [zzB,tys,ite_self,opnL,callB,callX,readsB,stepOp,nilCmp,ofVal,opBuiltin,opLen,PV.sk,scalBin,scalUn,intBin,opLoad,natOf,opConvert,opField,cellsP,oneP,Value.oneCell',opStore,toIV,scalT,scalA,scalC,boxesA,boxesC,zipB_none,zipB_mx,isZ,opZip,zeroP,opAppendZ,opMakeMap,opLookup,mboxB,opUpdate,↓reduceIte,Nat.reduceSub,Nat.reduceEqDiff,Nat.reduceAdd,Nat.reduceMul,Nat.reduceLT,Nat.reduceLeDiff,Int.reduceToNat,Int.reduceLE,Int.reduceLT,Int.reduceNeg,reduceCtorEq,notIn_cons,notIn_nil]) <;> simp [refsL,refsP,mem_refs_rowP]) (by repeat (first|exact noVar_none _|refine noVar_row ?_|refine noVar_map ?_|refine noVar_rowH ?_|refine noVar_var ?_ (by simp [refsL,refsP,mem_refs_rowP]))) (fgt_cons (by simp only [Heap.none_at]) (by (simp -dsimp only [zzB,tys,ite_self,opnL,callB,callX,readsB,stepOp,nilCmp,ofVal,opBuiltin,opLen,PV.sk,scalBin,scalUn,intBin,opLoad,natOf,opConvert,opField,cellsP,oneP,Value.oneCell',opStore,toIV,scalT,scalA,scalC,boxesA,boxesC,zipB_none,zipB_mx,isZ,opZip,zeroP,opAppendZ,opMakeMap,opLookup,mboxB,opUpdate,↓reduceIte,Nat.reduceSub,Nat.reduceEqDiff,Nat.reduceAdd,Nat.reduceMul,Nat.reduceLT,Nat.reduceLeDiff,Int.reduceToNat,Int.reduceLE,Int.reduceLT,Int.reduceNeg,reduceCtorEq,notIn_cons,notIn_nil]) <;> simp [refsL,refsP,mem_refs_rowP]) (by repeat (first|exact noVar_none _|refine noVar_row ?_|refine noVar_map ?_|refine noVar_rowH ?_|refine noVar_var ?_ (by simp [refsL,refsP,mem_refs_rowP]))) (fgt_cons (by simp only [Heap.none_at]) (by (simp -dsimp only [zzB,tys,ite_self,opnL,callB,callX,readsB,stepOp,nilCmp,ofVal,opBuiltin,opLen,PV.sk,scalBin,scalUn,intBin,opLoad,natOf,opConvert,opField,cellsP,oneP,Value.oneCell',opStore,toIV,scalT,scalA,scalC,boxesA,boxesC,zipB_none,zipB_mx,isZ,opZip,zeroP,opAppendZ,opMakeMap,opLookup,mboxB,opUpdate,↓reduceIte,Nat.reduceSub,Nat.reduceEqDiff,Nat.reduceAdd,Nat.reduceMul,Nat.reduceLT,Nat.reduceLeDiff,Int.reduceToNat,Int.reduceLE,Int.reduceLT,Int.reduceNeg,reduceCtorEq,notIn_cons,notIn_nil]) <;> simp [refsL,refsP,mem_refs_rowP]) (by repeat (first|exact noVar_none _|refine noVar_row ?_|refine noVar_map ?_|refine noVar_rowH ?_|refine noVar_var ?_ (by simp [refsL,refsP,mem_refs_rowP]))) (fgt_nil)))),⟨?_,rfl⟩,?_⟩
            · rw [hq',hJ]; simp
            · rw [hq',hJ]
              funext c
              simp (maxSteps:=20000000) only [Heap.drop_at,rowH_app,Heap.put_at,Heap.none_at,List.mem_cons,List.not_mem_nil,or_false]
              by_cases e0:c=(1,0)::base
              · subst e0; simp [List.length_append,List.length_singleton,List.map_append,List.map_cons,List.map_nil]
              by_cases e1:c=(12,2)::base
              · subst e1; simp [List.length_append,List.length_singleton,List.map_append,List.map_cons,List.map_nil]
              by_cases e2:c=(12,3)::base
              · subst e2; simp [List.length_append,List.length_singleton,List.map_append,List.map_cons,List.map_nil]
              by_cases e3:c=(13,2)::base
              · subst e3; simp [List.length_append,List.length_singleton,List.map_append,List.map_cons,List.map_nil]
              by_cases e4:c=(13,3)::base
              · subst e4; simp [List.length_append,List.length_singleton,List.map_append,List.map_cons,List.map_nil]
              simp [e0,e1,e2,e3,e4,List.length_append,List.length_singleton,List.map_append,List.map_cons,List.map_nil]
    · have hj:j=l.length:=by omega
      subst hj
      generalize (rgs l l.length).2=s
      generalize (rgs l l.length).1=out
      cases out with
      | nil =>
        repeat (first|refine X_opc rfl ?_|refine X_dopc rfl ?_|refine ⟨(by show drawK _ _=true; kernel_rfl:drawX _ _ _),?_⟩|exact (by show drawK _ _=true; kernel_rfl:drawX _ _ _)|simp -dsimp (maxSteps:=20000000) (disch:=omega) only [simx,zzC,zzB,tys,ite_self,opnL,callB,callX,readsB,stepOp,nilCmp,ofVal,opBuiltin,opLen,PV.sk,scalBin,scalUn,intBin,opLoad,natOf,opConvert,opField,cellsP,oneP,Value.oneCell',opStore,toIV,scalT,scalA,scalC,boxesA,boxesC,zipB_none,zipB_mx,isZ,opZip,zeroP,opAppendZ,opMakeMap,opLookup,mboxB,opUpdate,↓reduceIte,Nat.reduceSub,Nat.reduceEqDiff,Nat.reduceAdd,Nat.reduceMul,Nat.reduceLT,Nat.reduceLeDiff,Int.reduceToNat,Int.reduceLE,Int.reduceLT,Int.reduceNeg,reduceCtorEq,zzR,gos,Int.reduceAdd,Int.reduceSub,Int.reduceMul,Int.reduceEq,rowP_zero])
        rfl
      | cons r out =>
        have e1:(r::out).length=out.length + 1:=rfl
        have e2:((r::out).map ivl).take (out.length + 1)=(r::out).map ivl:=List.take_of_length_le (by simp)
        have e3:((r::out).map ivl).length=out.length + 1:=by simp
        rw [lli,e1]
        generalize (r::out).map ivl=cs at e2 e3 ⊢
        repeat (first|refine X_opc rfl ?_|refine X_dopc rfl ?_|refine ⟨(by show drawK _ _=true; kernel_rfl:drawX _ _ _),?_⟩|exact (by show drawK _ _=true; kernel_rfl:drawX _ _ _)|simp -dsimp (maxSteps:=20000000) (disch:=omega) only [simx,zzC,zzB,tys,ite_self,opnL,callB,callX,readsB,stepOp,nilCmp,ofVal,opBuiltin,opLen,PV.sk,scalBin,scalUn,intBin,opLoad,natOf,opConvert,opField,cellsP,oneP,Value.oneCell',opStore,toIV,scalT,scalA,scalC,boxesA,boxesC,zipB_none,zipB_mx,isZ,opZip,zeroP,opAppendZ,opMakeMap,opLookup,mboxB,opUpdate,↓reduceIte,Nat.reduceSub,Nat.reduceEqDiff,Nat.reduceAdd,Nat.reduceMul,Nat.reduceLT,Nat.reduceLeDiff,Int.reduceToNat,Int.reduceLE,Int.reduceLT,Int.reduceNeg,reduceCtorEq,zzR,gos,Int.reduceAdd,Int.reduceSub,Int.reduceMul,Int.reduceEq,rowP_succ,rowH_succ,e2,e3])
end Go.Proofs.Ytmalpmnmknpphaa.TM
namespace Go.Proofs.Ytmalpmnmknpphaa.TM
open Go Go.RowKit
attribute [local irreducible] K W WOps Effs Xg Xo Xr Xdg Xdo Xdr Xif CallsP CallR
theorem row_walk {r c i:Nat} {l:List Int} (hl:l.length=r * c) (hr:r ≤ 64) (hc:c ≤ 64) (hi:i < r):CallsP Try.prog 104 [matP r c l,i64 i] (lu (rowM c l i)):=by
  have b1:=ic_bd (c:=c) hi
  have b2:=rc_bd hr hc
  have rl:=rowM_len hl hi
  have m0:i * c ≤ 4096:=by omega
  have m1:(i + 1) * c=i * c + c:=Nat.succ_mul i c
  have e1:IntKind.i64.wrap ((i:Int) * (c:Int))=((i * c:Nat):Int):=by rw [← Int.natCast_mul]; exact iw_of (by omega) (by omega)
  have e2:IntKind.i64.wrap (((i:Int) + 1) * (c:Int))=((i * c + c:Nat):Int):=by
    rw [show ((i:Int) + 1) * (c:Int)=((i * c + c:Nat):Int) by rw [← m1]; push_cast; rfl]; exact iw_of (by omega) (by omega)
  have e3:i * c + c - i * c=c:=by omega
  have e4:((l.map iu).drop (i * c)).take c=(rowM c l i).map iu:=by unfold rowM; rw [List.map_take,List.map_drop]
  have e5:i * c ≤ i * c + c:=by omega
  have e6:i * c + c ≤ l.length:=by omega
  refine X_startP (n:=17) (m:=2) (rs:=[.tmp 4]) Try.func104 rfl rfl rfl rfl (by decide) fun base => ?_
  repeat (first|refine X_opc rfl ?_|refine X_dopc rfl ?_|refine ⟨(by show drawK _ _=true; kernel_rfl:drawX _ _ _),?_⟩|exact (by show drawK _ _=true; kernel_rfl:drawX _ _ _)|simp -dsimp (maxSteps:=20000000) (disch:=omega) only [simx,zzC,zzB,tys,ite_self,opnL,callB,callX,readsB,stepOp,nilCmp,ofVal,opBuiltin,opLen,PV.sk,scalBin,scalUn,intBin,opLoad,natOf,opConvert,opField,cellsP,oneP,Value.oneCell',opStore,toIV,scalT,scalA,scalC,boxesA,boxesC,zipB_none,zipB_mx,isZ,opZip,zeroP,opAppendZ,opMakeMap,opLookup,mboxB,opUpdate,↓reduceIte,Nat.reduceSub,Nat.reduceEqDiff,Nat.reduceAdd,Nat.reduceMul,Nat.reduceLT,Nat.reduceLeDiff,Int.reduceToNat,Int.reduceLE,Int.reduceLT,Int.reduceNeg,reduceCtorEq,zzR,gos,Int.reduceAdd,Int.reduceSub,Int.reduceMul,Int.reduceEq,e1,e2,e3,e4,e5,e6,List.length_map,lu,rl])
def timesR (p r c:Int) (l x:List Int):List Int × Int:=if MatB p r c l && (HasB p x && decide ((x.length:Int)=c)) then (timesM p r.toNat c.toNat l x,0) else ([],1)
set_option maxHeartbeats 4000000 in
theorem times_walk (p r c:Int) (l x:List Int) (hl:l.length ≤ maxLen) (hx:x.length ≤ maxLen) (wl:W64s l) (wx:W64s x):CallsP Try.prog 57 [u64 p,matP r c l,lu x] (.tup [lu (timesR p r c l x).1,i64 (timesR p r c l x).2]):=by
  have q1:=mright_walk p r c l hl
  have q2:=has_walk p x hx
  unfold timesR
  cases h1:MatB p r c l with
  | false =>
    rw [h1] at q1
    refine X_startP (n:=49) (m:=3) (rs:=[.tmp 6,.tmp 7]) Try.func57 rfl rfl rfl rfl (by decide) fun base => ?_
    repeat (first|((first|refine X_call_fn2 rfl (by simp only [tys]) ?_|refine X_dcall_fn2 rfl (by simp only [tys]) ?_); apply Exists.intro; apply And.intro; (focus (simp -dsimp only [simx,zzC,zzB,tys,ite_self,opnL,callB,callX,readsB,stepOp,nilCmp,ofVal,opBuiltin,opLen,PV.sk,scalBin,scalUn,intBin,opLoad,natOf,opConvert,opField,cellsP,oneP,Value.oneCell',opStore,toIV,scalT,scalA,scalC,boxesA,boxesC,zipB_none,zipB_mx,isZ,opZip,zeroP,opAppendZ,opMakeMap,opLookup,mboxB,opUpdate,↓reduceIte,Nat.reduceSub,Nat.reduceEqDiff,Nat.reduceAdd,Nat.reduceMul,Nat.reduceLT,Nat.reduceLeDiff,Int.reduceToNat,Int.reduceLE,Int.reduceLT,Int.reduceNeg,reduceCtorEq,zzL,if_true,if_false] <;> rfl)); apply Exists.intro; apply And.intro; (focus (first|exact q1)))|refine X_opc rfl ?_|refine X_dopc rfl ?_|refine ⟨(by show drawK _ _=true; kernel_rfl:drawX _ _ _),?_⟩|exact (by show drawK _ _=true; kernel_rfl:drawX _ _ _)|simp -dsimp (maxSteps:=20000000) (disch:=omega) only [simx,zzC,zzB,tys,ite_self,opnL,callB,callX,readsB,stepOp,nilCmp,ofVal,opBuiltin,opLen,PV.sk,scalBin,scalUn,intBin,opLoad,natOf,opConvert,opField,cellsP,oneP,Value.oneCell',opStore,toIV,scalT,scalA,scalC,boxesA,boxesC,zipB_none,zipB_mx,isZ,opZip,zeroP,opAppendZ,opMakeMap,opLookup,mboxB,opUpdate,↓reduceIte,Nat.reduceSub,Nat.reduceEqDiff,Nat.reduceAdd,Nat.reduceMul,Nat.reduceLT,Nat.reduceLeDiff,Int.reduceToNat,Int.reduceLE,Int.reduceLT,Int.reduceNeg,reduceCtorEq,zzR,gos,Int.reduceAdd,Int.reduceSub,Int.reduceMul,Int.reduceEq])
    rfl
  | true =>
    rw [h1] at q1
    cases h2:HasB p x with
    | false =>
      rw [h2] at q2
      refine X_startP (n:=49) (m:=3) (rs:=[.tmp 6,.tmp 7]) Try.func57 rfl rfl rfl rfl (by decide) fun base => ?_
      repeat (first|((first|refine X_call_fn2 rfl (by simp only [tys]) ?_|refine X_dcall_fn2 rfl (by simp only [tys]) ?_); apply Exists.intro; apply And.intro; (focus (simp -dsimp only [simx,zzC,zzB,tys,ite_self,opnL,callB,callX,readsB,stepOp,nilCmp,ofVal,opBuiltin,opLen,PV.sk,scalBin,scalUn,intBin,opLoad,natOf,opConvert,opField,cellsP,oneP,Value.oneCell',opStore,toIV,scalT,scalA,scalC,boxesA,boxesC,zipB_none,zipB_mx,isZ,opZip,zeroP,opAppendZ,opMakeMap,opLookup,mboxB,opUpdate,↓reduceIte,Nat.reduceSub,Nat.reduceEqDiff,Nat.reduceAdd,Nat.reduceMul,Nat.reduceLT,Nat.reduceLeDiff,Int.reduceToNat,Int.reduceLE,Int.reduceLT,Int.reduceNeg,reduceCtorEq,zzL,if_true,if_false] <;> rfl)); apply Exists.intro; apply And.intro; (focus (first|exact q1|exact q2)))|refine X_opc rfl ?_|refine X_dopc rfl ?_|refine ⟨(by show drawK _ _=true; kernel_rfl:drawX _ _ _),?_⟩|exact (by show drawK _ _=true; kernel_rfl:drawX _ _ _)|simp -dsimp (maxSteps:=20000000) (disch:=omega) only [simx,zzC,zzB,tys,ite_self,opnL,callB,callX,readsB,stepOp,nilCmp,ofVal,opBuiltin,opLen,PV.sk,scalBin,scalUn,intBin,opLoad,natOf,opConvert,opField,cellsP,oneP,Value.oneCell',opStore,toIV,scalT,scalA,scalC,boxesA,boxesC,zipB_none,zipB_mx,isZ,opZip,zeroP,opAppendZ,opMakeMap,opLookup,mboxB,opUpdate,↓reduceIte,Nat.reduceSub,Nat.reduceEqDiff,Nat.reduceAdd,Nat.reduceMul,Nat.reduceLT,Nat.reduceLeDiff,Int.reduceToNat,Int.reduceLE,Int.reduceLT,Int.reduceNeg,reduceCtorEq,zzR,gos,Int.reduceAdd,Int.reduceSub,Int.reduceMul,Int.reduceEq])
      rfl
    | true =>
      rw [h2] at q2
      by_cases h3:(x.length:Int)=c
      · rw [decide_eq_true h3]
        obtain ⟨R,C,rfl,rfl,M⟩:=mat_of h1
        have h3':x.length=C:=by omega
        simp only [Bool.and_self,if_true,Int.toNat_natCast]
        have r1:=M.r1
        have r2:=M.r2
        have p1:=M.hp.1
        unfold timesM
        refine X_startP (n:=49) (m:=3) (rs:=[.tmp 6,.tmp 7]) Try.func57 rfl rfl rfl rfl (by decide) fun base => ?_
        repeat (first|((first|refine X_call_fn2 rfl (by simp only [tys]) ?_|refine X_dcall_fn2 rfl (by simp only [tys]) ?_); apply Exists.intro; apply And.intro; (focus (simp -dsimp only [simx,zzC,zzB,tys,ite_self,opnL,callB,callX,readsB,stepOp,nilCmp,ofVal,opBuiltin,opLen,PV.sk,scalBin,scalUn,intBin,opLoad,natOf,opConvert,opField,cellsP,oneP,Value.oneCell',opStore,toIV,scalT,scalA,scalC,boxesA,boxesC,zipB_none,zipB_mx,isZ,opZip,zeroP,opAppendZ,opMakeMap,opLookup,mboxB,opUpdate,↓reduceIte,Nat.reduceSub,Nat.reduceEqDiff,Nat.reduceAdd,Nat.reduceMul,Nat.reduceLT,Nat.reduceLeDiff,Int.reduceToNat,Int.reduceLE,Int.reduceLT,Int.reduceNeg,reduceCtorEq,zzL,if_true,if_false] <;> rfl)); apply Exists.intro; apply And.intro; (focus (first|exact q1|exact q2)))|refine X_opc rfl ?_|refine X_dopc rfl ?_|refine ⟨(by show drawK _ _=true; kernel_rfl:drawX _ _ _),?_⟩|exact (by show drawK _ _=true; kernel_rfl:drawX _ _ _)|simp -dsimp (maxSteps:=20000000) (disch:=omega) only [simx,zzC,zzB,tys,ite_self,opnL,callB,callX,readsB,stepOp,nilCmp,ofVal,opBuiltin,opLen,PV.sk,scalBin,scalUn,intBin,opLoad,natOf,opConvert,opField,cellsP,oneP,Value.oneCell',opStore,toIV,scalT,scalA,scalC,boxesA,boxesC,zipB_none,zipB_mx,isZ,opZip,zeroP,opAppendZ,opMakeMap,opLookup,mboxB,opUpdate,↓reduceIte,Nat.reduceSub,Nat.reduceEqDiff,Nat.reduceAdd,Nat.reduceMul,Nat.reduceLT,Nat.reduceLeDiff,Int.reduceToNat,Int.reduceLE,Int.reduceLT,Int.reduceNeg,reduceCtorEq,gos,Int.reduceAdd,Int.reduceSub,Int.reduceMul,Int.reduceEq])
        refine X_loopH [0,2,4,8,30,31] [(8,2)::base] (0) (R) (fun j => True) (fun j => [(8,rowP ((8,3)::base) 1 j (((List.range j).map (fun i => dotI (rowM C l i) x % p)).map iu)),(31,i64 j)]) (fun j => rowH (Heap.none.put ((0,0)::base) (.var [i64 R,i64 C,lu l])) ((8,3)::base) j (((List.range j).map (fun i => dotI (rowM C l i) x % p)).map iu)) ?_ ?_ ?_ ?_ ?_ (by decide) ?_
        · exact (fgt_cons (by simp only [Heap.none_at]) (by (simp -dsimp only [zzB,tys,ite_self,opnL,callB,callX,readsB,stepOp,nilCmp,ofVal,opBuiltin,opLen,PV.sk,scalBin,scalUn,intBin,opLoad,natOf,opConvert,opField,cellsP,oneP,Value.oneCell',opStore,toIV,scalT,scalA,scalC,boxesA,boxesC,zipB_none,zipB_mx,isZ,opZip,zeroP,opAppendZ,opMakeMap,opLookup,mboxB,opUpdate,↓reduceIte,Nat.reduceSub,Nat.reduceEqDiff,Nat.reduceAdd,Nat.reduceMul,Nat.reduceLT,Nat.reduceLeDiff,Int.reduceToNat,Int.reduceLE,Int.reduceLT,Int.reduceNeg,reduceCtorEq,notIn_cons,notIn_nil]) <;> simp [refsL,refsP,mem_refs_rowP]) (by repeat (first|exact noVar_none _|refine noVar_row ?_|refine noVar_map ?_|refine noVar_rowH ?_|refine noVar_var ?_ (by simp [refsL,refsP,mem_refs_rowP]))) (fgt_nil))
        · ((simp -dsimp (disch:=omega) only [simx,zzB,tys,ite_self,opnL,callB,callX,readsB,stepOp,nilCmp,ofVal,opBuiltin,opLen,PV.sk,scalBin,scalUn,intBin,opLoad,natOf,opConvert,opField,cellsP,oneP,Value.oneCell',opStore,toIV,scalT,scalA,scalC,boxesA,boxesC,zipB_none,zipB_mx,isZ,opZip,zeroP,opAppendZ,opMakeMap,opLookup,mboxB,opUpdate,↓reduceIte,Nat.reduceSub,Nat.reduceEqDiff,Nat.reduceAdd,Nat.reduceMul,Nat.reduceLT,Nat.reduceLeDiff,Int.reduceToNat,Int.reduceLE,Int.reduceLT,Int.reduceNeg,reduceCtorEq,gos,Int.reduceAdd,Int.reduceSub,Int.reduceMul,Int.reduceEq]) <;> first|rfl|simp [rowP])
        · funext c
          simp (maxSteps:=20000000) only [Heap.drop_at,rowH_app,Heap.put_at,Heap.none_at,List.mem_cons,List.not_mem_nil,or_false]
          by_cases e0:c=(0,0)::base
          · subst e0; simp []
          by_cases e1:c=(8,2)::base
          · subst e1; simp []
          simp [e0,e1]
        · omega
        · trivial
        · intro j hj _
          by_cases cj:j < R
          · have d1:=row_walk M.len M.r2 M.c2 cj
            have rl:=rowM_len M.len cj
            have d2:=dot_walk p (rowM C l j) x (by rw [rl,mx_len]; have:=M.c2; omega) hx (fun a ha => wl a (rowM_mem ha)) wx
            rw [show dotR p (rowM C l j) x=(dotI (rowM C l j) x % p,0) by
              unfold dotR
              rw [show HasB p (rowM C l j)=true from (has_iff _ _).2 ⟨fun a ha => M.has a (rowM_mem ha),M.hp.1,M.hp.2⟩,h2,decide_eq_true (show (rowM C l j).length=x.length by omega)]; rfl] at d2
            have tk:=timesM_take (p:=p) (c:=C) (l:=l) (x:=x) cj
            repeat (first|((first|refine X_call_fn2 rfl (by simp only [tys]) ?_|refine X_dcall_fn2 rfl (by simp only [tys]) ?_); apply Exists.intro; apply And.intro; (focus (simp -dsimp only [simx,zzC,zzB,tys,ite_self,opnL,callB,callX,readsB,stepOp,nilCmp,ofVal,opBuiltin,opLen,PV.sk,scalBin,scalUn,intBin,opLoad,natOf,opConvert,opField,cellsP,oneP,Value.oneCell',opStore,toIV,scalT,scalA,scalC,boxesA,boxesC,zipB_none,zipB_mx,isZ,opZip,zeroP,opAppendZ,opMakeMap,opLookup,mboxB,opUpdate,↓reduceIte,Nat.reduceSub,Nat.reduceEqDiff,Nat.reduceAdd,Nat.reduceMul,Nat.reduceLT,Nat.reduceLeDiff,Int.reduceToNat,Int.reduceLE,Int.reduceLT,Int.reduceNeg,reduceCtorEq,zzL,if_true,if_false] <;> rfl)); apply Exists.intro; apply And.intro; (focus (first|exact d1|exact d2)))|refine X_opc rfl ?_|refine X_dopc rfl ?_|refine ⟨(by show drawK _ _=true; kernel_rfl:drawX _ _ _),?_⟩|exact (by show drawK _ _=true; kernel_rfl:drawX _ _ _)|simp -dsimp (maxSteps:=20000000) (disch:=omega) only [simx,zzC,zzB,tys,ite_self,opnL,callB,callX,readsB,stepOp,nilCmp,ofVal,opBuiltin,opLen,PV.sk,scalBin,scalUn,intBin,opLoad,natOf,opConvert,opField,cellsP,oneP,Value.oneCell',opStore,toIV,scalT,scalA,scalC,boxesA,boxesC,zipB_none,zipB_mx,isZ,opZip,zeroP,opAppendZ,opMakeMap,opLookup,mboxB,opUpdate,↓reduceIte,Nat.reduceSub,Nat.reduceEqDiff,Nat.reduceAdd,Nat.reduceMul,Nat.reduceLT,Nat.reduceLeDiff,Int.reduceToNat,Int.reduceLE,Int.reduceLT,Int.reduceNeg,reduceCtorEq,gos,Int.reduceAdd,Int.reduceSub,Int.reduceMul,Int.reduceEq,cj])
            refine X_append_one 22 [.int .u64 0] [iu (dotI (rowM C l j) x % p)] (by simp only [tys]) (by simp only [tys]) rfl (by decide) (by simp) (by simp [Heap.put_at,Heap.none_at,rowH_app]) (by simp [Heap.put_at]; rfl) rfl (by simp only [tys]; omega) (by rw [mx_len]; omega) ?_
            repeat (first|refine X_opc rfl ?_|refine X_dopc rfl ?_|refine ⟨(by show drawK _ _=true; kernel_rfl:drawX _ _ _),?_⟩|exact (by show drawK _ _=true; kernel_rfl:drawX _ _ _)|simp -dsimp (maxSteps:=20000000) (disch:=omega) only [simx,zzC,zzB,tys,ite_self,opnL,callB,callX,readsB,stepOp,nilCmp,ofVal,opBuiltin,opLen,PV.sk,scalBin,scalUn,intBin,opLoad,natOf,opConvert,opField,cellsP,oneP,Value.oneCell',opStore,toIV,scalT,scalA,scalC,boxesA,boxesC,zipB_none,zipB_mx,isZ,opZip,zeroP,opAppendZ,opMakeMap,opLookup,mboxB,opUpdate,↓reduceIte,Nat.reduceSub,Nat.reduceEqDiff,Nat.reduceAdd,Nat.reduceMul,Nat.reduceLT,Nat.reduceLeDiff,Int.reduceToNat,Int.reduceLE,Int.reduceLT,Int.reduceNeg,reduceCtorEq,gos,Int.reduceAdd,Int.reduceSub,Int.reduceMul,Int.reduceEq,cj])
            refine ⟨cj,(fgt_cons (by simp only [Heap.none_at]) (by (simp -dsimp only [zzB,tys,ite_self,opnL,callB,callX,readsB,stepOp,nilCmp,ofVal,opBuiltin,opLen,PV.sk,scalBin,scalUn,intBin,opLoad,natOf,opConvert,opField,cellsP,oneP,Value.oneCell',opStore,toIV,scalT,scalA,scalC,boxesA,boxesC,zipB_none,zipB_mx,isZ,opZip,zeroP,opAppendZ,opMakeMap,opLookup,mboxB,opUpdate,↓reduceIte,Nat.reduceSub,Nat.reduceEqDiff,Nat.reduceAdd,Nat.reduceMul,Nat.reduceLT,Nat.reduceLeDiff,Int.reduceToNat,Int.reduceLE,Int.reduceLT,Int.reduceNeg,reduceCtorEq,notIn_cons,notIn_nil]) <;> simp [refsL,refsP,mem_refs_rowP]) (by repeat (first|exact noVar_none _|refine noVar_row ?_|refine noVar_map ?_|refine noVar_rowH ?_|refine noVar_var ?_ (by simp [refsL,refsP,mem_refs_rowP]))) (fgt_nil)),⟨?_,rfl⟩,?_⟩
            · rw [tk]; simp
            · funext c
              simp (maxSteps:=20000000) only [Heap.drop_at,rowH_app,Heap.put_at,Heap.none_at,List.mem_cons,List.not_mem_nil,or_false]
              by_cases e0:c=(0,0)::base
              · subst e0; simp [tk]
              by_cases e1:c=(8,2)::base
              · subst e1; simp [tk]
              by_cases e2:c=(8,3)::base
              · subst e2; simp [tk]
              simp [e0,e1,e2,tk]
          · have hj:j=R:=by omega
            subst hj
            obtain ⟨s,rfl⟩:∃ s,j=s + 1:=⟨j - 1,by omega⟩
            have e2:(((List.range (s + 1)).map (fun i => dotI (rowM C l i) x % p)).map iu).take (s + 1)=((List.range (s + 1)).map (fun i => dotI (rowM C l i) x % p)).map iu:=List.take_of_length_le (by simp)
            repeat (first|refine X_opc rfl ?_|refine X_dopc rfl ?_|refine ⟨(by show drawK _ _=true; kernel_rfl:drawX _ _ _),?_⟩|exact (by show drawK _ _=true; kernel_rfl:drawX _ _ _)|simp -dsimp (maxSteps:=20000000) (disch:=omega) only [simx,zzC,zzB,tys,ite_self,opnL,callB,callX,readsB,stepOp,nilCmp,ofVal,opBuiltin,opLen,PV.sk,scalBin,scalUn,intBin,opLoad,natOf,opConvert,opField,cellsP,oneP,Value.oneCell',opStore,toIV,scalT,scalA,scalC,boxesA,boxesC,zipB_none,zipB_mx,isZ,opZip,zeroP,opAppendZ,opMakeMap,opLookup,mboxB,opUpdate,↓reduceIte,Nat.reduceSub,Nat.reduceEqDiff,Nat.reduceAdd,Nat.reduceMul,Nat.reduceLT,Nat.reduceLeDiff,Int.reduceToNat,Int.reduceLE,Int.reduceLT,Int.reduceNeg,reduceCtorEq,zzR,gos,Int.reduceAdd,Int.reduceSub,Int.reduceMul,Int.reduceEq,rowP_succ,rowH_succ,List.length_map,List.length_range,e2,lu])
      · rw [decide_eq_false h3]
        simp only [Bool.and_false,Bool.false_eq_true,if_false]
        refine X_startP (n:=49) (m:=3) (rs:=[.tmp 6,.tmp 7]) Try.func57 rfl rfl rfl rfl (by decide) fun base => ?_
        repeat (first|((first|refine X_call_fn2 rfl (by simp only [tys]) ?_|refine X_dcall_fn2 rfl (by simp only [tys]) ?_); apply Exists.intro; apply And.intro; (focus (simp -dsimp only [simx,zzC,zzB,tys,ite_self,opnL,callB,callX,readsB,stepOp,nilCmp,ofVal,opBuiltin,opLen,PV.sk,scalBin,scalUn,intBin,opLoad,natOf,opConvert,opField,cellsP,oneP,Value.oneCell',opStore,toIV,scalT,scalA,scalC,boxesA,boxesC,zipB_none,zipB_mx,isZ,opZip,zeroP,opAppendZ,opMakeMap,opLookup,mboxB,opUpdate,↓reduceIte,Nat.reduceSub,Nat.reduceEqDiff,Nat.reduceAdd,Nat.reduceMul,Nat.reduceLT,Nat.reduceLeDiff,Int.reduceToNat,Int.reduceLE,Int.reduceLT,Int.reduceNeg,reduceCtorEq,zzL,if_true,if_false] <;> rfl)); apply Exists.intro; apply And.intro; (focus (first|exact q1|exact q2)))|refine X_opc rfl ?_|refine X_dopc rfl ?_|refine ⟨(by show drawK _ _=true; kernel_rfl:drawX _ _ _),?_⟩|exact (by show drawK _ _=true; kernel_rfl:drawX _ _ _)|simp -dsimp (maxSteps:=20000000) (disch:=omega) only [simx,zzC,zzB,tys,ite_self,opnL,callB,callX,readsB,stepOp,nilCmp,ofVal,opBuiltin,opLen,PV.sk,scalBin,scalUn,intBin,opLoad,natOf,opConvert,opField,cellsP,oneP,Value.oneCell',opStore,toIV,scalT,scalA,scalC,boxesA,boxesC,zipB_none,zipB_mx,isZ,opZip,zeroP,opAppendZ,opMakeMap,opLookup,mboxB,opUpdate,↓reduceIte,Nat.reduceSub,Nat.reduceEqDiff,Nat.reduceAdd,Nat.reduceMul,Nat.reduceLT,Nat.reduceLeDiff,Int.reduceToNat,Int.reduceLE,Int.reduceLT,Int.reduceNeg,reduceCtorEq,zzR,gos,Int.reduceAdd,Int.reduceSub,Int.reduceMul,Int.reduceEq])
        rfl
end Go.Proofs.Ytmalpmnmknpphaa.TM
namespace Go.Proofs.Ytmalpmnmknpphaa.TM
open Go Go.RowKit
attribute [local irreducible] K W WOps Effs Xg Xo Xr Xdg Xdo Xdr Xif CallsP CallR
theorem is_walk (p:Nat) (hp:p < 1048576):∃ b,CallsP Try.prog 12 [u64 p] (bl b) ∧ (b=true → Prm p):=by
  by_cases h2:p < 2
  · refine ⟨false,?_,fun h => by cases h⟩
    refine X_startP (n:=17) (m:=1) (rs:=[.tmp 2]) Try.func12 rfl rfl rfl rfl (by decide) fun base => ?_
    repeat (first|refine X_opc rfl ?_|refine X_dopc rfl ?_|refine ⟨(by show drawK _ _=true; kernel_rfl:drawX _ _ _),?_⟩|exact (by show drawK _ _=true; kernel_rfl:drawX _ _ _)|simp -dsimp (maxSteps:=20000000) (disch:=omega) only [simx,zzC,zzB,tys,ite_self,opnL,callB,callX,readsB,stepOp,nilCmp,ofVal,opBuiltin,opLen,PV.sk,scalBin,scalUn,intBin,opLoad,natOf,opConvert,opField,cellsP,oneP,Value.oneCell',opStore,toIV,scalT,scalA,scalC,boxesA,boxesC,zipB_none,zipB_mx,isZ,opZip,zeroP,opAppendZ,opMakeMap,opLookup,mboxB,opUpdate,↓reduceIte,Nat.reduceSub,Nat.reduceEqDiff,Nat.reduceAdd,Nat.reduceMul,Nat.reduceLT,Nat.reduceLeDiff,Int.reduceToNat,Int.reduceLE,Int.reduceLT,Int.reduceNeg,reduceCtorEq,zzR,gos,Int.reduceAdd,Int.reduceSub,Int.reduceMul,Int.reduceEq])
  obtain ⟨d0,⟨d2,dd⟩,dl⟩:=least (fun d => 2 ≤ d ∧ (p < d * d ∨ p % d=0)) p ⟨by omega,.inr (Nat.mod_self p)⟩
  have lo:∀ d,2 ≤ d → d < d0 → d * d ≤ p ∧ p % d ≠ 0:=fun d h1 h3 => by
    have:=dl d h3
    constructor
    · rcases Nat.lt_or_ge p (d * d) with h|h
      · exact absurd ⟨h1,.inl h⟩ this
      · exact h
    · intro h; exact this ⟨h1,.inr h⟩
  have dm:d0 ≤ 1024:=by
    rcases Nat.lt_or_ge 1024 d0 with h|h
    · have:=(lo 1024 (by omega) h).1; omega
    · exact h
  have sq:∀ j:Nat,j ≤ 1024 → j * j ≤ 1024 * 1024:=fun j h => Nat.mul_le_mul h h
  refine ⟨decide (p < d0 * d0),?_,fun h => prm_of (by omega) fun d h1 h3 => ?_⟩
  · refine X_startP (n:=17) (m:=1) (rs:=[.tmp 2]) Try.func12 rfl rfl rfl rfl (by decide) fun base => ?_
    repeat (first|refine X_opc rfl ?_|refine X_dopc rfl ?_|refine ⟨(by show drawK _ _=true; kernel_rfl:drawX _ _ _),?_⟩|exact (by show drawK _ _=true; kernel_rfl:drawX _ _ _)|simp -dsimp (maxSteps:=20000000) (disch:=omega) only [simx,zzC,zzB,tys,ite_self,opnL,callB,callX,readsB,stepOp,nilCmp,ofVal,opBuiltin,opLen,PV.sk,scalBin,scalUn,intBin,opLoad,natOf,opConvert,opField,cellsP,oneP,Value.oneCell',opStore,toIV,scalT,scalA,scalC,boxesA,boxesC,zipB_none,zipB_mx,isZ,opZip,zeroP,opAppendZ,opMakeMap,opLookup,mboxB,opUpdate,↓reduceIte,Nat.reduceSub,Nat.reduceEqDiff,Nat.reduceAdd,Nat.reduceMul,Nat.reduceLT,Nat.reduceLeDiff,Int.reduceToNat,Int.reduceLE,Int.reduceLT,Int.reduceNeg,reduceCtorEq,gos,Int.reduceAdd,Int.reduceSub,Int.reduceMul,Int.reduceEq])
    refine X_loopH [0,3] [] (0) (d0 - 2) (fun j => True) (fun j => [(3,u64 ((2 + j:Nat):Int))]) (fun j => Heap.none) ?_ ?_ ?_ ?_ ?_ (by decide) ?_
    · exact (fgt_nil)
    · ((simp -dsimp (disch:=omega) only [simx,zzB,tys,ite_self,opnL,callB,callX,readsB,stepOp,nilCmp,ofVal,opBuiltin,opLen,PV.sk,scalBin,scalUn,intBin,opLoad,natOf,opConvert,opField,cellsP,oneP,Value.oneCell',opStore,toIV,scalT,scalA,scalC,boxesA,boxesC,zipB_none,zipB_mx,isZ,opZip,zeroP,opAppendZ,opMakeMap,opLookup,mboxB,opUpdate,↓reduceIte,Nat.reduceSub,Nat.reduceEqDiff,Nat.reduceAdd,Nat.reduceMul,Nat.reduceLT,Nat.reduceLeDiff,Int.reduceToNat,Int.reduceLE,Int.reduceLT,Int.reduceNeg,reduceCtorEq,gos,Int.reduceAdd,Int.reduceSub,Int.reduceMul,Int.reduceEq]) <;> first|rfl|simp)
    · exact drop_nil _
    · omega
    · trivial
    · intro j hj _
      have s1:=sq (2 + j) (by omega)
      have e1:IntKind.u64.wrap (((2 + j:Nat):Int) * ((2 + j:Nat):Int))=(((2 + j) * (2 + j):Nat):Int):=by rw [← Int.natCast_mul]; exact uw_of (by omega) (by omega)
      by_cases cj:j < d0 - 2
      · obtain ⟨l1,l2⟩:=lo (2 + j) (by omega) (by omega)
        have e2:(((2 + j) * (2 + j):Nat):Int) ≤ (p:Int):=by omega
        have e3:¬ (p:Int) % ((2 + j:Nat):Int)=0:=by rw [← Int.natCast_emod]; omega
        have e4:IntKind.u64.wrap (((2 + j:Nat):Int) + 1)=((2 + (j + 1):Nat):Int):=by
          rw [show ((2 + j:Nat):Int) + 1=((2 + (j + 1):Nat):Int) by omega]
          exact uw_of (by omega) (by omega)
        have e5:¬ ((2 + j:Nat):Int)=0:=by omega
        generalize (((2 + j) * (2 + j):Nat):Int)=sq2 at *
        clear lo dl dd sq
        repeat (first|refine X_opc rfl ?_|refine X_dopc rfl ?_|refine ⟨(by show drawK _ _=true; kernel_rfl:drawX _ _ _),?_⟩|exact (by show drawK _ _=true; kernel_rfl:drawX _ _ _)|simp -dsimp (maxSteps:=20000000) (disch:=omega) only [simx,zzC,zzB,tys,ite_self,opnL,callB,callX,readsB,stepOp,nilCmp,ofVal,opBuiltin,opLen,PV.sk,scalBin,scalUn,intBin,opLoad,natOf,opConvert,opField,cellsP,oneP,Value.oneCell',opStore,toIV,scalT,scalA,scalC,boxesA,boxesC,zipB_none,zipB_mx,isZ,opZip,zeroP,opAppendZ,opMakeMap,opLookup,mboxB,opUpdate,↓reduceIte,Nat.reduceSub,Nat.reduceEqDiff,Nat.reduceAdd,Nat.reduceMul,Nat.reduceLT,Nat.reduceLeDiff,Int.reduceToNat,Int.reduceLE,Int.reduceLT,Int.reduceNeg,reduceCtorEq,gos,Int.reduceAdd,Int.reduceSub,Int.reduceMul,Int.reduceEq,e1,e2,e3,e4,e5])
        exact ⟨cj,(fgt_nil),by first|exact drop_nil _|exact ⟨rfl,drop_nil _⟩⟩
      · have hj':2 + j=d0:=by omega
        rw [hj'] at e1 s1 ⊢
        by_cases c:p < d0 * d0
        · rw [decide_eq_true c]
          have e2:¬ ((d0 * d0:Nat):Int) ≤ (p:Int):=by omega
          generalize ((d0 * d0:Nat):Int)=sq2 at *
          clear lo dl dd sq
          repeat (first|refine X_opc rfl ?_|refine X_dopc rfl ?_|refine ⟨(by show drawK _ _=true; kernel_rfl:drawX _ _ _),?_⟩|exact (by show drawK _ _=true; kernel_rfl:drawX _ _ _)|simp -dsimp (maxSteps:=20000000) (disch:=omega) only [simx,zzC,zzB,tys,ite_self,opnL,callB,callX,readsB,stepOp,nilCmp,ofVal,opBuiltin,opLen,PV.sk,scalBin,scalUn,intBin,opLoad,natOf,opConvert,opField,cellsP,oneP,Value.oneCell',opStore,toIV,scalT,scalA,scalC,boxesA,boxesC,zipB_none,zipB_mx,isZ,opZip,zeroP,opAppendZ,opMakeMap,opLookup,mboxB,opUpdate,↓reduceIte,Nat.reduceSub,Nat.reduceEqDiff,Nat.reduceAdd,Nat.reduceMul,Nat.reduceLT,Nat.reduceLeDiff,Int.reduceToNat,Int.reduceLE,Int.reduceLT,Int.reduceNeg,reduceCtorEq,zzR,gos,Int.reduceAdd,Int.reduceSub,Int.reduceMul,Int.reduceEq,e1,e2])
        · rw [decide_eq_false c]
          have e2:((d0 * d0:Nat):Int) ≤ (p:Int):=by omega
          have e3:(p:Int) % (d0:Int)=0:=by
            rcases dd with h|h
            · exact absurd h c
            · rw [← Int.natCast_emod]; omega
          have e5:¬ (d0:Int)=0:=by omega
          generalize ((d0 * d0:Nat):Int)=sq2 at *
          clear lo dl dd sq
          repeat (first|refine X_opc rfl ?_|refine X_dopc rfl ?_|refine ⟨(by show drawK _ _=true; kernel_rfl:drawX _ _ _),?_⟩|exact (by show drawK _ _=true; kernel_rfl:drawX _ _ _)|simp -dsimp (maxSteps:=20000000) (disch:=omega) only [simx,zzC,zzB,tys,ite_self,opnL,callB,callX,readsB,stepOp,nilCmp,ofVal,opBuiltin,opLen,PV.sk,scalBin,scalUn,intBin,opLoad,natOf,opConvert,opField,cellsP,oneP,Value.oneCell',opStore,toIV,scalT,scalA,scalC,boxesA,boxesC,zipB_none,zipB_mx,isZ,opZip,zeroP,opAppendZ,opMakeMap,opLookup,mboxB,opUpdate,↓reduceIte,Nat.reduceSub,Nat.reduceEqDiff,Nat.reduceAdd,Nat.reduceMul,Nat.reduceLT,Nat.reduceLeDiff,Int.reduceToNat,Int.reduceLE,Int.reduceLT,Int.reduceNeg,reduceCtorEq,zzR,gos,Int.reduceAdd,Int.reduceSub,Int.reduceMul,Int.reduceEq,e1,e2,e3,e5])
  · rw [decide_eq_true_eq] at h
    exact (lo d h1 (sq_lt (Nat.lt_of_le_of_lt h3 h))).2
def nzI:List Int → Nat → Int
  | [],_ => -1
  | a::l,k => if a=0 then nzI l (k + 1) else k
def zerB (l:List Int):Bool:=l.all (fun a => a == 0)
theorem nzI_zero:∀ (l:List Int) (k:Nat),decide (0 ≤ nzI l k)=!zerB l
  | [],k => rfl
  | a::l,k => by
    unfold zerB
    rw [nzI,List.all_cons]
    by_cases h:a=0
    · rw [if_pos h,nzI_zero l (k + 1)]; simp [h,zerB]
    · rw [if_neg h]; simp [h]
theorem equal_walk (a b:List Int) (hl:a.length ≤ maxLen):CallsP Try.prog 58 [lu a,lu b] (bl (decide (a=b))):=by
  rw [mx_len] at hl
  by_cases c0:(a.length:Int)=b.length
  case neg =>
    rw [decide_eq_false (by rintro rfl; exact c0 rfl)]
    refine X_startP (n:=26) (m:=2) (rs:=[.tmp 4]) Try.func58 rfl rfl rfl rfl (by decide) fun base => ?_
    repeat (first|refine X_opc rfl ?_|refine X_dopc rfl ?_|refine ⟨(by show drawK _ _=true; kernel_rfl:drawX _ _ _),?_⟩|exact (by show drawK _ _=true; kernel_rfl:drawX _ _ _)|simp -dsimp (maxSteps:=20000000) (disch:=omega) only [simx,zzC,zzB,tys,ite_self,opnL,callB,callX,readsB,stepOp,nilCmp,ofVal,opBuiltin,opLen,PV.sk,scalBin,scalUn,intBin,opLoad,natOf,opConvert,opField,cellsP,oneP,Value.oneCell',opStore,toIV,scalT,scalA,scalC,boxesA,boxesC,zipB_none,zipB_mx,isZ,opZip,zeroP,opAppendZ,opMakeMap,opLookup,mboxB,opUpdate,↓reduceIte,Nat.reduceSub,Nat.reduceEqDiff,Nat.reduceAdd,Nat.reduceMul,Nat.reduceLT,Nat.reduceLeDiff,Int.reduceToNat,Int.reduceLE,Int.reduceLT,Int.reduceNeg,reduceCtorEq,zzR,gos,Int.reduceAdd,Int.reduceSub,Int.reduceMul,Int.reduceEq])
  refine X_startP (n:=26) (m:=2) (rs:=[.tmp 4]) Try.func58 rfl rfl rfl rfl (by decide) fun base => ?_
  repeat (first|refine X_opc rfl ?_|refine X_dopc rfl ?_|refine ⟨(by show drawK _ _=true; kernel_rfl:drawX _ _ _),?_⟩|exact (by show drawK _ _=true; kernel_rfl:drawX _ _ _)|simp -dsimp (maxSteps:=20000000) (disch:=omega) only [simx,zzC,zzB,tys,ite_self,opnL,callB,callX,readsB,stepOp,nilCmp,ofVal,opBuiltin,opLen,PV.sk,scalBin,scalUn,intBin,opLoad,natOf,opConvert,opField,cellsP,oneP,Value.oneCell',opStore,toIV,scalT,scalA,scalC,boxesA,boxesC,zipB_none,zipB_mx,isZ,opZip,zeroP,opAppendZ,opMakeMap,opLookup,mboxB,opUpdate,↓reduceIte,Nat.reduceSub,Nat.reduceEqDiff,Nat.reduceAdd,Nat.reduceMul,Nat.reduceLT,Nat.reduceLeDiff,Int.reduceToNat,Int.reduceLE,Int.reduceLT,Int.reduceNeg,reduceCtorEq,gos,Int.reduceAdd,Int.reduceSub,Int.reduceMul,Int.reduceEq])
  refine X_loopH [0,1,12,13] [] (0) (a.length) (fun j => a.take j=b.take j) (fun j => [(13,i64 j)]) (fun j => Heap.none) ?_ ?_ ?_ ?_ ?_ (by decide) ?_
  · exact (fgt_nil)
  · ((simp -dsimp (disch:=omega) only [simx,zzB,tys,ite_self,opnL,callB,callX,readsB,stepOp,nilCmp,ofVal,opBuiltin,opLen,PV.sk,scalBin,scalUn,intBin,opLoad,natOf,opConvert,opField,cellsP,oneP,Value.oneCell',opStore,toIV,scalT,scalA,scalC,boxesA,boxesC,zipB_none,zipB_mx,isZ,opZip,zeroP,opAppendZ,opMakeMap,opLookup,mboxB,opUpdate,↓reduceIte,Nat.reduceSub,Nat.reduceEqDiff,Nat.reduceAdd,Nat.reduceMul,Nat.reduceLT,Nat.reduceLeDiff,Int.reduceToNat,Int.reduceLE,Int.reduceLT,Int.reduceNeg,reduceCtorEq,gos,Int.reduceAdd,Int.reduceSub,Int.reduceMul,Int.reduceEq]) <;> first|rfl|simp)
  · exact drop_nil _
  · omega
  · rfl
  · intro j hj hf
    by_cases c:j < a.length
    · have c':j < b.length:=by omega
      have g1:a[j]?=some a[j]:=List.getElem?_eq_getElem c
      have g2:b[j]?=some b[j]:=List.getElem?_eq_getElem c'
      by_cases e:a[j]=b[j]
      · have nx:=take_next c c' hf e
        rw [e] at g1
        generalize b[j]=y at g1 g2
        repeat (first|refine X_opc rfl ?_|refine X_dopc rfl ?_|refine ⟨(by show drawK _ _=true; kernel_rfl:drawX _ _ _),?_⟩|exact (by show drawK _ _=true; kernel_rfl:drawX _ _ _)|simp -dsimp (maxSteps:=20000000) (disch:=omega) only [simx,zzC,zzB,tys,ite_self,opnL,callB,callX,readsB,stepOp,nilCmp,ofVal,opBuiltin,opLen,PV.sk,scalBin,scalUn,intBin,opLoad,natOf,opConvert,opField,cellsP,oneP,Value.oneCell',opStore,toIV,scalT,scalA,scalC,boxesA,boxesC,zipB_none,zipB_mx,isZ,opZip,zeroP,opAppendZ,opMakeMap,opLookup,mboxB,opUpdate,↓reduceIte,Nat.reduceSub,Nat.reduceEqDiff,Nat.reduceAdd,Nat.reduceMul,Nat.reduceLT,Nat.reduceLeDiff,Int.reduceToNat,Int.reduceLE,Int.reduceLT,Int.reduceNeg,reduceCtorEq,gos,Int.reduceAdd,Int.reduceSub,Int.reduceMul,Int.reduceEq,c,c',g1,g2])
        exact ⟨c,(fgt_nil),nx,rfl,drop_nil _⟩
      · rw [decide_eq_false (by rintro rfl; exact e rfl)]
        generalize a[j]=x at g1 e
        generalize b[j]=y at g2 e
        repeat (first|refine X_opc rfl ?_|refine X_dopc rfl ?_|refine ⟨(by show drawK _ _=true; kernel_rfl:drawX _ _ _),?_⟩|exact (by show drawK _ _=true; kernel_rfl:drawX _ _ _)|simp -dsimp (maxSteps:=20000000) (disch:=omega) only [simx,zzC,zzB,tys,ite_self,opnL,callB,callX,readsB,stepOp,nilCmp,ofVal,opBuiltin,opLen,PV.sk,scalBin,scalUn,intBin,opLoad,natOf,opConvert,opField,cellsP,oneP,Value.oneCell',opStore,toIV,scalT,scalA,scalC,boxesA,boxesC,zipB_none,zipB_mx,isZ,opZip,zeroP,opAppendZ,opMakeMap,opLookup,mboxB,opUpdate,↓reduceIte,Nat.reduceSub,Nat.reduceEqDiff,Nat.reduceAdd,Nat.reduceMul,Nat.reduceLT,Nat.reduceLeDiff,Int.reduceToNat,Int.reduceLE,Int.reduceLT,Int.reduceNeg,reduceCtorEq,zzR,gos,Int.reduceAdd,Int.reduceSub,Int.reduceMul,Int.reduceEq,c,c',g1,g2])
    · have hj:j=a.length:=by omega
      subst hj
      rw [List.take_length,List.take_of_length_le (by omega)] at hf
      rw [decide_eq_true hf]
      repeat (first|refine X_opc rfl ?_|refine X_dopc rfl ?_|refine ⟨(by show drawK _ _=true; kernel_rfl:drawX _ _ _),?_⟩|exact (by show drawK _ _=true; kernel_rfl:drawX _ _ _)|simp -dsimp (maxSteps:=20000000) (disch:=omega) only [simx,zzC,zzB,tys,ite_self,opnL,callB,callX,readsB,stepOp,nilCmp,ofVal,opBuiltin,opLen,PV.sk,scalBin,scalUn,intBin,opLoad,natOf,opConvert,opField,cellsP,oneP,Value.oneCell',opStore,toIV,scalT,scalA,scalC,boxesA,boxesC,zipB_none,zipB_mx,isZ,opZip,zeroP,opAppendZ,opMakeMap,opLookup,mboxB,opUpdate,↓reduceIte,Nat.reduceSub,Nat.reduceEqDiff,Nat.reduceAdd,Nat.reduceMul,Nat.reduceLT,Nat.reduceLeDiff,Int.reduceToNat,Int.reduceLE,Int.reduceLT,Int.reduceNeg,reduceCtorEq,zzR,gos,Int.reduceAdd,Int.reduceSub,Int.reduceMul,Int.reduceEq])
end Go.Proofs.Ytmalpmnmknpphaa.TM
namespace Go.Proofs.Ytmalpmnmknpphaa.TM
open Go Go.RowKit
theorem dropE {α:Type} {l:List α} {j:Nat} (h:j < l.length):l.drop j=l[j]::l.drop (j + 1):=List.drop_eq_getElem_cons h
def risF:Int → List Int → Int → Bool
  | _,[],_ => true
  | last,c::l,most => if c ≤ last ∨ most ≤ c then false else risF c l most
end Go.Proofs.Ytmalpmnmknpphaa.TM
namespace Go.Proofs.Ytmalpmnmknpphaa.TM
open Go Go.RowKit
def sumN:Nat → (Nat → Int) → Int
  | 0,_ => 0
  | n + 1,f => sumN n f + f n
theorem sumN_congr {n:Nat} {f g:Nat → Int} (h:∀ i,i < n → f i=g i):sumN n f=sumN n g:=by
  induction n with
  | zero => rfl
  | succ n ih => rw [sumN,sumN,ih (fun i hi => h i (by omega)),h n (by omega)]
theorem sumN_add (n:Nat) (f g:Nat → Int):sumN n (fun i => f i + g i)=sumN n f + sumN n g:=by
  induction n with
  | zero => rfl
  | succ n ih => simp only [sumN,ih]; omega
theorem sumN_sub (n:Nat) (f g:Nat → Int):sumN n (fun i => f i - g i)=sumN n f - sumN n g:=by
  induction n with
  | zero => rfl
  | succ n ih => simp only [sumN,ih]; omega
theorem sumN_mul (n:Nat) (a:Int) (f:Nat → Int):sumN n (fun i => a * f i)=a * sumN n f:=by
  induction n with
  | zero => simp [sumN]
  | succ n ih => simp only [sumN,ih,Int.mul_add]
theorem sumN_mulr (n:Nat) (a:Int) (f:Nat → Int):sumN n (fun i => f i * a)=sumN n f * a:=by
  induction n with
  | zero => simp [sumN]
  | succ n ih => simp only [sumN,ih,Int.add_mul]
theorem sumN_zero (n:Nat):sumN n (fun _ => 0)=0:=by
  induction n with
  | zero => rfl
  | succ n ih => simp [sumN,ih]
theorem sumN_z {n:Nat} {f:Nat → Int} (h:∀ i,i < n → f i=0):sumN n f=0:=(sumN_congr h).trans (sumN_zero n)
theorem sumN_swap (m n:Nat) (f:Nat → Nat → Int):sumN m (fun i => sumN n (fun j => f i j))=sumN n (fun j => sumN m (fun i => f i j)):=by
  induction m with
  | zero => simp [sumN,sumN_zero]
  | succ m ih => simp only [sumN,ih,sumN_add]
theorem sumN_mod {p:Int} {n:Nat} {f g:Nat → Int} (h:∀ i,i < n → f i % p=g i % p):sumN n f % p=sumN n g % p:=by
  induction n with
  | zero => rfl
  | succ n ih => rw [sumN,sumN,Int.add_emod,ih (fun i hi => h i (by omega)),h n (by omega),← Int.add_emod]
theorem sumN_one {n i:Nat} (f:Nat → Int) (hi:i < n):sumN n (fun k => if k=i then f k else 0)=f i:=by
  induction n with
  | zero => omega
  | succ n ih =>
    rw [sumN]
    by_cases h:i=n
    · subst h
      rw [sumN_z (fun k hk => if_neg (by omega)),if_pos rfl,Int.zero_add]
    · rw [ih (by omega),if_neg (by omega),Int.add_zero]
theorem sumN_split (m n:Nat) (f:Nat → Int):sumN (m + n) f=sumN m f + sumN n (fun i => f (m + i)):=by
  induction n with
  | zero => simp [sumN]
  | succ n ih => rw [← Nat.add_assoc,sumN,ih,sumN]; omega
theorem dotI_eq:∀ (n:Nat) (a b:List Int),a.length=n → b.length=n → dotI a b=sumN n (fun k => a.getD k 0 * b.getD k 0)
  | 0,[],[],_,_ => rfl
  | n + 1,x::a,y::b,ha,hb => by
    rw [dotI,dotI_eq n a b (by simpa using ha) (by simpa using hb),Nat.add_comm,sumN_split 1 n]
    simp only [sumN,Int.zero_add]
    congr 1
    apply sumN_congr
    intro i _
    rw [Nat.add_comm 1 i]; simp
  | 0,_::_,_,h,_ => by simp at h
  | 0,[],_::_,_,h => by simp at h
  | n + 1,[],_,h,_ => by simp at h
  | n + 1,_::_,[],_,h => by simp at h
def cl (c:Nat) (l:List Int) (i k:Nat):Int:=l.getD (i * c + k) 0
theorem rowM_cl {r c i k:Nat} {l:List Int} (hl:l.length=r * c) (hi:i < r) (hk:k < c):(rowM c l i).getD k 0=cl c l i k:=by
  have b1:=ic_bd (c:=c) hi
  have e3:i * c + k < l.length:=by omega
  unfold cl rowM
  rw [List.getD_eq_getElem?_getD,List.getD_eq_getElem?_getD,List.getElem?_take,if_pos hk,List.getElem?_drop]
theorem cl_tbl {r c i k:Nat} (f:Nat → Int) (hi:i < r) (hk:k < c):cl c (tbl (r * c) f) i k=f (i * c + k):=by
  have b1:=ic_bd (c:=c) hi
  exact tbl_getD f (by omega)
theorem dc_div {c i k:Nat} (hk:k < c):(i * c + k) / c=i:=by
  rw [Nat.add_comm,Nat.add_mul_div_right _ _ (by omega),Nat.div_eq_of_lt hk,Nat.zero_add]
theorem dc_mod {c i k:Nat} (hk:k < c):(i * c + k) % c=k:=by
  rw [Nat.add_comm,Nat.add_mul_mod_self_right,Nat.mod_eq_of_lt hk]
theorem dotRow {r c i:Nat} {l x:List Int} (hl:l.length=r * c) (hi:i < r) (hx:x.length=c):dotI (rowM c l i) x=sumN c (fun k => cl c l i k * x.getD k 0):=by
  rw [dotI_eq c _ _ (rowM_len hl hi) hx]
  exact sumN_congr fun k hk => by rw [rowM_cl hl hi hk]
theorem timesM_tbl {p:Int} {r c:Nat} {l x:List Int} (hl:l.length=r * c) (hx:x.length=c):timesM p r c l x=tbl r (fun i => sumN c (fun k => cl c l i k * x.getD k 0) % p):=by
  unfold timesM tbl
  exact List.map_congr_left fun i hi => by rw [dotRow hl (List.mem_range.1 hi) hx]
theorem turn_cl {r c i k:Nat} (l:List Int) (hi:i < r) (hk:k < c):cl r (turnM r c l) k i=cl c l i k:=by
  have b1:=ic_bd (c:=r) hk
  unfold cl turnM
  rw [show (List.range (c * r)).map (fun q => l.getD (srcT r c q) 0)=tbl (c * r) (fun q => l.getD (srcT r c q) 0) from rfl,tbl_getD _ (by omega)]
  unfold srcT
  rw [dc_div hi,dc_mod hi]
end Go.Proofs.Ytmalpmnmknpphaa.TM
namespace Go.Proofs.Ytmalpmnmknpphaa.TM
open Go Go.RowKit
def pickRow (C:Nat) (l cols:List Int) (i:Int):List Int:=cols.map fun c => cl C l i.toNat c.toNat
def pickM (C:Nat) (l rows cols:List Int):List Int:=rows.flatMap (pickRow C l cols)
end Go.Proofs.Ytmalpmnmknpphaa.TM
namespace Go.Proofs.Ytmalpmnmknpphaa.TM
open Go Go.RowKit
attribute [local irreducible] K W WOps Effs Xg Xo Xr Xdg Xdo Xdr Xif CallsP CallR
theorem timesM_len (p:Int) (r c:Nat) (l x:List Int):(timesM p r c l x).length=r:=by simp [timesM]
end Go.Proofs.Ytmalpmnmknpphaa.TM
namespace Go.Proofs.Ytmalpmnmknpphaa.TM
open Go Go.RowKit
theorem timesM_get {p:Int} {r c:Nat} {l x:List Int} (hl:l.length=r * c) (hx:x.length=c) {i:Nat} (hi:i < r):(timesM p r c l x).getD i 0=sumN c (fun k => cl c l i k * x.getD k 0) % p:=by
  rw [timesM_tbl hl hx,tbl_getD _ hi]
def leftM (p:Int) (x:List Int) (r c:Nat) (l:List Int):List Int:=timesM p c r (turnM r c l) x
theorem leftM_len (p:Int) (x:List Int) (r c:Nat) (l:List Int):(leftM p x r c l).length=c:=timesM_len ..
theorem leftM_get {p:Int} {r c:Nat} {l x:List Int} (hx:x.length=r) {k:Nat} (hk:k < c):(leftM p x r c l).getD k 0=sumN r (fun i => x.getD i 0 * cl c l i k) % p:=by
  unfold leftM
  rw [timesM_get (turnM_len r c l) hx hk]
  congr 1
  apply sumN_congr
  intro i hi
  rw [turn_cl l hi hk,Int.mul_comm]
where pick_cell' (C:Nat) (l cols:List Int) {m:Nat} (hm:m < cols.length):∀ (rows:List Int) (j:Nat),j < rows.length → (pickM C l rows cols).getD (j * cols.length + m) 0=cl C l (rows.getD j 0).toNat (cols.getD m 0).toNat
  | [],j,h => by simp at h
  | i::rows,0,_ => by
    unfold pickM
    rw [List.flatMap_cons,List.getD_eq_getElem?_getD,List.getElem?_append_left (by simp [pickRow]; omega)]
    simp [pickRow,List.getElem?_eq_getElem hm]
  | i::rows,j + 1,h => by
    have ih:=pick_cell' C l cols hm rows j (by simpa using h)
    unfold pickM at ih ⊢
    rw [List.flatMap_cons,List.getD_eq_getElem?_getD,List.getElem?_append_right (by simp [pickRow,Nat.succ_mul]; omega)]
    rw [List.getD_eq_getElem?_getD] at ih
    rw [show (j + 1) * cols.length + m - (pickRow C l cols i).length=j * cols.length + m by simp [pickRow,Nat.succ_mul]; omega,ih]
    simp
theorem getD_mem {l:List Int} {i:Nat} (h:i < l.length):l.getD i 0 ∈ l:=by
  rw [List.getD_eq_getElem?_getD,List.getElem?_eq_getElem h]; exact List.getElem_mem h
end Go.Proofs.Ytmalpmnmknpphaa.TM
namespace Go.Proofs.Ytmalpmnmknpphaa.TM
open Go Go.RowKit
theorem zerB_iff (l:List Int):zerB l=true ↔ ∀ i,i < l.length → l.getD i 0=0:=by
  unfold zerB
  rw [List.all_eq_true]
  constructor
  · intro h i hi
    have:=h _ (getD_mem (l:=l) hi)
    simpa using this
  · intro h a ha
    obtain ⟨i,hi,rfl⟩:=List.mem_iff_getElem.1 ha
    have:=h i hi
    rw [List.getD_eq_getElem?_getD,List.getElem?_eq_getElem hi] at this
    simpa using this
end Go.Proofs.Ytmalpmnmknpphaa.TM
namespace Go.Proofs.Ytmalpmnmknpphaa.TM
open Go Go.RowKit
attribute [local irreducible] K W WOps Effs Xg Xo Xr Xdg Xdo Xdr Xif CallsP CallR
theorem side13_walk (n:Int):CallsP Try.prog 83 [i64 n] (bl (decide (1 ≤ n) && decide (n ≤ 64))):=by
  by_cases c1:1 ≤ n
  · rw [decide_eq_true c1]
    by_cases c2:n ≤ 64
    · rw [decide_eq_true c2]
      refine X_startP (n:=9) (m:=1) (rs:=[.tmp 2]) Try.func83 rfl rfl rfl rfl (by decide) fun base => ?_
      repeat (first|refine X_opc rfl ?_|refine X_dopc rfl ?_|refine ⟨(by show drawK _ _=true; kernel_rfl:drawX _ _ _),?_⟩|exact (by show drawK _ _=true; kernel_rfl:drawX _ _ _)|simp -dsimp (maxSteps:=20000000) (disch:=omega) only [simx,zzC,zzB,tys,ite_self,opnL,callB,callX,readsB,stepOp,nilCmp,ofVal,opBuiltin,opLen,PV.sk,scalBin,scalUn,intBin,opLoad,natOf,opConvert,opField,cellsP,oneP,Value.oneCell',opStore,toIV,scalT,scalA,scalC,boxesA,boxesC,zipB_none,zipB_mx,isZ,opZip,zeroP,opAppendZ,opMakeMap,opLookup,mboxB,opUpdate,↓reduceIte,Nat.reduceSub,Nat.reduceEqDiff,Nat.reduceAdd,Nat.reduceMul,Nat.reduceLT,Nat.reduceLeDiff,Int.reduceToNat,Int.reduceLE,Int.reduceLT,Int.reduceNeg,reduceCtorEq,zzR,gos,Int.reduceAdd,Int.reduceSub,Int.reduceMul,Int.reduceEq])
    · rw [decide_eq_false c2]
      refine X_startP (n:=9) (m:=1) (rs:=[.tmp 2]) Try.func83 rfl rfl rfl rfl (by decide) fun base => ?_
      repeat (first|refine X_opc rfl ?_|refine X_dopc rfl ?_|refine ⟨(by show drawK _ _=true; kernel_rfl:drawX _ _ _),?_⟩|exact (by show drawK _ _=true; kernel_rfl:drawX _ _ _)|simp -dsimp (maxSteps:=20000000) (disch:=omega) only [simx,zzC,zzB,tys,ite_self,opnL,callB,callX,readsB,stepOp,nilCmp,ofVal,opBuiltin,opLen,PV.sk,scalBin,scalUn,intBin,opLoad,natOf,opConvert,opField,cellsP,oneP,Value.oneCell',opStore,toIV,scalT,scalA,scalC,boxesA,boxesC,zipB_none,zipB_mx,isZ,opZip,zeroP,opAppendZ,opMakeMap,opLookup,mboxB,opUpdate,↓reduceIte,Nat.reduceSub,Nat.reduceEqDiff,Nat.reduceAdd,Nat.reduceMul,Nat.reduceLT,Nat.reduceLeDiff,Int.reduceToNat,Int.reduceLE,Int.reduceLT,Int.reduceNeg,reduceCtorEq,zzR,gos,Int.reduceAdd,Int.reduceSub,Int.reduceMul,Int.reduceEq])
  · rw [decide_eq_false c1]
    refine X_startP (n:=9) (m:=1) (rs:=[.tmp 2]) Try.func83 rfl rfl rfl rfl (by decide) fun base => ?_
    repeat (first|refine X_opc rfl ?_|refine X_dopc rfl ?_|refine ⟨(by show drawK _ _=true; kernel_rfl:drawX _ _ _),?_⟩|exact (by show drawK _ _=true; kernel_rfl:drawX _ _ _)|simp -dsimp (maxSteps:=20000000) (disch:=omega) only [simx,zzC,zzB,tys,ite_self,opnL,callB,callX,readsB,stepOp,nilCmp,ofVal,opBuiltin,opLen,PV.sk,scalBin,scalUn,intBin,opLoad,natOf,opConvert,opField,cellsP,oneP,Value.oneCell',opStore,toIV,scalT,scalA,scalC,boxesA,boxesC,zipB_none,zipB_mx,isZ,opZip,zeroP,opAppendZ,opMakeMap,opLookup,mboxB,opUpdate,↓reduceIte,Nat.reduceSub,Nat.reduceEqDiff,Nat.reduceAdd,Nat.reduceMul,Nat.reduceLT,Nat.reduceLeDiff,Int.reduceToNat,Int.reduceLE,Int.reduceLT,Int.reduceNeg,reduceCtorEq,zzR,gos,Int.reduceAdd,Int.reduceSub,Int.reduceMul,Int.reduceEq,c1])
theorem sized1_walk {b base:Name} {h:Heap} {each:Int} {x:List Int} (hb:h b=some (.var [i64 each])):CallR Try.prog base 119 [lu x,.ref b 0 1] h (bl (!decide ((x.length:Int)=each))) h:=by
  by_cases c1:(x.length:Int)=each
  · rw [decide_eq_true c1]
    refine X_startR (n:=8) (m:=2) (rs:=[.tmp 3]) Try.func119 rfl rfl rfl rfl (by decide) ?_
    repeat (first|refine X_opc rfl ?_|refine X_dopc rfl ?_|refine ⟨(by show drawK _ _=true; kernel_rfl:drawX _ _ _),?_⟩|exact (by show drawK _ _=true; kernel_rfl:drawX _ _ _)|simp -dsimp (maxSteps:=20000000) (disch:=omega) only [simx,zzC,zzB,tys,ite_self,opnL,callB,callX,readsB,stepOp,nilCmp,ofVal,opBuiltin,opLen,PV.sk,scalBin,scalUn,intBin,opLoad,natOf,opConvert,opField,cellsP,oneP,Value.oneCell',opStore,toIV,scalT,scalA,scalC,boxesA,boxesC,zipB_none,zipB_mx,isZ,opZip,zeroP,opAppendZ,opMakeMap,opLookup,mboxB,opUpdate,↓reduceIte,Nat.reduceSub,Nat.reduceEqDiff,Nat.reduceAdd,Nat.reduceMul,Nat.reduceLT,Nat.reduceLeDiff,Int.reduceToNat,Int.reduceLE,Int.reduceLT,Int.reduceNeg,reduceCtorEq,zzR,gos,Int.reduceAdd,Int.reduceSub,Int.reduceMul,Int.reduceEq,hb,c1,SK.len])
  · rw [decide_eq_false c1]
    refine X_startR (n:=8) (m:=2) (rs:=[.tmp 3]) Try.func119 rfl rfl rfl rfl (by decide) ?_
    repeat (first|refine X_opc rfl ?_|refine X_dopc rfl ?_|refine ⟨(by show drawK _ _=true; kernel_rfl:drawX _ _ _),?_⟩|exact (by show drawK _ _=true; kernel_rfl:drawX _ _ _)|simp -dsimp (maxSteps:=20000000) (disch:=omega) only [simx,zzC,zzB,tys,ite_self,opnL,callB,callX,readsB,stepOp,nilCmp,ofVal,opBuiltin,opLen,PV.sk,scalBin,scalUn,intBin,opLoad,natOf,opConvert,opField,cellsP,oneP,Value.oneCell',opStore,toIV,scalT,scalA,scalC,boxesA,boxesC,zipB_none,zipB_mx,isZ,opZip,zeroP,opAppendZ,opMakeMap,opLookup,mboxB,opUpdate,↓reduceIte,Nat.reduceSub,Nat.reduceEqDiff,Nat.reduceAdd,Nat.reduceMul,Nat.reduceLT,Nat.reduceLeDiff,Int.reduceToNat,Int.reduceLE,Int.reduceLT,Int.reduceNeg,reduceCtorEq,zzR,gos,Int.reduceAdd,Int.reduceSub,Int.reduceMul,Int.reduceEq,hb,c1,SK.len])
def badS (each:Int):List (List Int) → Nat → Int
  | [],_ => -1
  | a::l,k => if (a.length:Int)=each then badS each l (k + 1) else k
theorem badS_iff (each:Int):∀ (l:List (List Int)) (k:Nat),¬ 0 ≤ badS each l k ↔ ∀ u ∈ l,(u.length:Int)=each
  | [],k => by simp [badS]
  | a::l,k => by
    rw [badS]
    by_cases h:(a.length:Int)=each
    · rw [if_pos h,badS_iff each l (k + 1)]; simp [h]
    · rw [if_neg h]
      have hk:(0:Int) ≤ (k:Int):=by omega
      simp [h,hk]
theorem drop13 {α:Type} {l:List α} {j:Nat} (h:j < l.length):l.drop j=l[j]::l.drop (j + 1):=List.drop_eq_getElem_cons h
theorem indexS_walk {b base:Name} {h:Heap} {each:Int} {l:List (List Int)} (hl:l.length ≤ maxLen) (hb:h b=some (.var [i64 each])) :
    CallR Try.prog base 136 [llP l,.clo 119 [.ref b 0 1]] h (i64 (badS each l 0)) h:=by
  rw [mx_len] at hl
  refine X_startR (n:=19) (m:=2) (rs:=[.tmp 4]) Try.func136 rfl rfl rfl rfl (by decide) ?_
  repeat (first|refine X_opc rfl ?_|refine X_dopc rfl ?_|refine ⟨(by show drawK _ _=true; kernel_rfl:drawX _ _ _),?_⟩|exact (by show drawK _ _=true; kernel_rfl:drawX _ _ _)|simp -dsimp (maxSteps:=20000000) (disch:=omega) only [simx,zzC,zzB,tys,ite_self,opnL,callB,callX,readsB,stepOp,nilCmp,ofVal,opBuiltin,opLen,PV.sk,scalBin,scalUn,intBin,opLoad,natOf,opConvert,opField,cellsP,oneP,Value.oneCell',opStore,toIV,scalT,scalA,scalC,boxesA,boxesC,zipB_none,zipB_mx,isZ,opZip,zeroP,opAppendZ,opMakeMap,opLookup,mboxB,opUpdate,↓reduceIte,Nat.reduceSub,Nat.reduceEqDiff,Nat.reduceAdd,Nat.reduceMul,Nat.reduceLT,Nat.reduceLeDiff,Int.reduceToNat,Int.reduceLE,Int.reduceLT,Int.reduceNeg,reduceCtorEq,gos,Int.reduceAdd,Int.reduceSub,Int.reduceMul,Int.reduceEq])
  refine X_loopH [0,1,7,8] [] (0) (l.length) (fun j => badS each (l.drop j) j=badS each l 0) (fun j => [(8,i64 j)]) (fun j => h) ?_ ?_ ?_ ?_ ?_ (by decide) ?_
  · exact (fgt_nil)
  · ((simp -dsimp (disch:=omega) only [simx,zzB,tys,ite_self,opnL,callB,callX,readsB,stepOp,nilCmp,ofVal,opBuiltin,opLen,PV.sk,scalBin,scalUn,intBin,opLoad,natOf,opConvert,opField,cellsP,oneP,Value.oneCell',opStore,toIV,scalT,scalA,scalC,boxesA,boxesC,zipB_none,zipB_mx,isZ,opZip,zeroP,opAppendZ,opMakeMap,opLookup,mboxB,opUpdate,↓reduceIte,Nat.reduceSub,Nat.reduceEqDiff,Nat.reduceAdd,Nat.reduceMul,Nat.reduceLT,Nat.reduceLeDiff,Int.reduceToNat,Int.reduceLE,Int.reduceLT,Int.reduceNeg,reduceCtorEq,gos,Int.reduceAdd,Int.reduceSub,Int.reduceMul,Int.reduceEq]) <;> first|rfl|simp)
  · exact drop_nil _
  · omega
  · rfl
  · intro j hj hf
    by_cases c:j < l.length
    · have g1:(l.map fun u => IV.l u.length (u.map iu))[j]?=some (.l (l[j]).length ((l[j]).map iu)):=by rw [List.getElem?_map,List.getElem?_eq_getElem c]; rfl
      rw [drop13 c,badS] at hf
      generalize l[j]=u at g1 hf
      repeat (first|refine X_opc rfl ?_|refine X_dopc rfl ?_|refine ⟨(by show drawK _ _=true; kernel_rfl:drawX _ _ _),?_⟩|exact (by show drawK _ _=true; kernel_rfl:drawX _ _ _)|simp -dsimp (maxSteps:=20000000) (disch:=omega) only [simx,zzC,zzB,tys,ite_self,opnL,callB,callX,readsB,stepOp,nilCmp,ofVal,opBuiltin,opLen,PV.sk,scalBin,scalUn,intBin,opLoad,natOf,opConvert,opField,cellsP,oneP,Value.oneCell',opStore,toIV,scalT,scalA,scalC,boxesA,boxesC,zipB_none,zipB_mx,isZ,opZip,zeroP,opAppendZ,opMakeMap,opLookup,mboxB,opUpdate,↓reduceIte,Nat.reduceSub,Nat.reduceEqDiff,Nat.reduceAdd,Nat.reduceMul,Nat.reduceLT,Nat.reduceLeDiff,Int.reduceToNat,Int.reduceLE,Int.reduceLT,Int.reduceNeg,reduceCtorEq,gos,Int.reduceAdd,Int.reduceSub,Int.reduceMul,Int.reduceEq,c,g1])
      refine X_call_shared (sized1_walk (x:=u) hb) rfl (by simp -dsimp only [calleeOf,simx,zzB,tys,ite_self,opnL,callB,callX,readsB,stepOp,nilCmp,ofVal,opBuiltin,opLen,PV.sk,scalBin,scalUn,intBin,opLoad,natOf,opConvert,opField,cellsP,oneP,Value.oneCell',opStore,toIV,scalT,scalA,scalC,boxesA,boxesC,zipB_none,zipB_mx,isZ,opZip,zeroP,opAppendZ,opMakeMap,opLookup,mboxB,opUpdate,↓reduceIte,Nat.reduceSub,Nat.reduceEqDiff,Nat.reduceAdd,Nat.reduceMul,Nat.reduceLT,Nat.reduceLeDiff,Int.reduceToNat,Int.reduceLE,Int.reduceLT,Int.reduceNeg,reduceCtorEq,gos,Int.reduceAdd,Int.reduceSub,Int.reduceMul,Int.reduceEq]) (by simp only [tys]) ?_
      by_cases e:(u.length:Int)=each
      · rw [if_pos e] at hf
        rw [decide_eq_true e]
        repeat (first|refine X_opc rfl ?_|refine X_dopc rfl ?_|refine ⟨(by show drawK _ _=true; kernel_rfl:drawX _ _ _),?_⟩|exact (by show drawK _ _=true; kernel_rfl:drawX _ _ _)|simp -dsimp (maxSteps:=20000000) (disch:=omega) only [simx,zzC,zzB,tys,ite_self,opnL,callB,callX,readsB,stepOp,nilCmp,ofVal,opBuiltin,opLen,PV.sk,scalBin,scalUn,intBin,opLoad,natOf,opConvert,opField,cellsP,oneP,Value.oneCell',opStore,toIV,scalT,scalA,scalC,boxesA,boxesC,zipB_none,zipB_mx,isZ,opZip,zeroP,opAppendZ,opMakeMap,opLookup,mboxB,opUpdate,↓reduceIte,Nat.reduceSub,Nat.reduceEqDiff,Nat.reduceAdd,Nat.reduceMul,Nat.reduceLT,Nat.reduceLeDiff,Int.reduceToNat,Int.reduceLE,Int.reduceLT,Int.reduceNeg,reduceCtorEq,gos,Int.reduceAdd,Int.reduceSub,Int.reduceMul,Int.reduceEq])
        exact ⟨c,(fgt_nil),hf,rfl,drop_nil _⟩
      · rw [if_neg e] at hf
        rw [decide_eq_false e,← show (j:Int)=badS each l 0 from hf]
        repeat (first|refine X_opc rfl ?_|refine X_dopc rfl ?_|refine ⟨(by show drawK _ _=true; kernel_rfl:drawX _ _ _),?_⟩|exact (by show drawK _ _=true; kernel_rfl:drawX _ _ _)|simp -dsimp (maxSteps:=20000000) (disch:=omega) only [simx,zzC,zzB,tys,ite_self,opnL,callB,callX,readsB,stepOp,nilCmp,ofVal,opBuiltin,opLen,PV.sk,scalBin,scalUn,intBin,opLoad,natOf,opConvert,opField,cellsP,oneP,Value.oneCell',opStore,toIV,scalT,scalA,scalC,boxesA,boxesC,zipB_none,zipB_mx,isZ,opZip,zeroP,opAppendZ,opMakeMap,opLookup,mboxB,opUpdate,↓reduceIte,Nat.reduceSub,Nat.reduceEqDiff,Nat.reduceAdd,Nat.reduceMul,Nat.reduceLT,Nat.reduceLeDiff,Int.reduceToNat,Int.reduceLE,Int.reduceLT,Int.reduceNeg,reduceCtorEq,zzR,gos,Int.reduceAdd,Int.reduceSub,Int.reduceMul,Int.reduceEq])
    · have hj:j=l.length:=by omega
      subst hj
      rw [List.drop_length,badS] at hf
      rw [← hf]
      repeat (first|refine X_opc rfl ?_|refine X_dopc rfl ?_|refine ⟨(by show drawK _ _=true; kernel_rfl:drawX _ _ _),?_⟩|exact (by show drawK _ _=true; kernel_rfl:drawX _ _ _)|simp -dsimp (maxSteps:=20000000) (disch:=omega) only [simx,zzC,zzB,tys,ite_self,opnL,callB,callX,readsB,stepOp,nilCmp,ofVal,opBuiltin,opLen,PV.sk,scalBin,scalUn,intBin,opLoad,natOf,opConvert,opField,cellsP,oneP,Value.oneCell',opStore,toIV,scalT,scalA,scalC,boxesA,boxesC,zipB_none,zipB_mx,isZ,opZip,zeroP,opAppendZ,opMakeMap,opLookup,mboxB,opUpdate,↓reduceIte,Nat.reduceSub,Nat.reduceEqDiff,Nat.reduceAdd,Nat.reduceMul,Nat.reduceLT,Nat.reduceLeDiff,Int.reduceToNat,Int.reduceLE,Int.reduceLT,Int.reduceNeg,reduceCtorEq,zzR,gos,Int.reduceAdd,Int.reduceSub,Int.reduceMul,Int.reduceEq])
theorem containsS_walk {b base:Name} {h:Heap} {each:Int} {l:List (List Int)} (hl:l.length ≤ maxLen) (hb:h b=some (.var [i64 each])) :
    CallR Try.prog base 118 [llP l,.clo 119 [.ref b 0 1]] h (bl (decide (0 ≤ badS each l 0))) h:=by
  have q:=fun bs => indexS_walk (base:=bs) hl hb
  generalize badS each l 0=i at q
  by_cases c:0 ≤ i
  · rw [decide_eq_true c]
    refine X_startR (n:=9) (m:=2) (rs:=[.tmp 4]) Try.func118 rfl rfl rfl rfl (by decide) ?_
    repeat (first|refine X_opc rfl ?_|refine X_dopc rfl ?_|refine ⟨(by show drawK _ _=true; kernel_rfl:drawX _ _ _),?_⟩|exact (by show drawK _ _=true; kernel_rfl:drawX _ _ _)|simp -dsimp (maxSteps:=20000000) (disch:=omega) only [simx,zzC,zzB,tys,ite_self,opnL,callB,callX,readsB,stepOp,nilCmp,ofVal,opBuiltin,opLen,PV.sk,scalBin,scalUn,intBin,opLoad,natOf,opConvert,opField,cellsP,oneP,Value.oneCell',opStore,toIV,scalT,scalA,scalC,boxesA,boxesC,zipB_none,zipB_mx,isZ,opZip,zeroP,opAppendZ,opMakeMap,opLookup,mboxB,opUpdate,↓reduceIte,Nat.reduceSub,Nat.reduceEqDiff,Nat.reduceAdd,Nat.reduceMul,Nat.reduceLT,Nat.reduceLeDiff,Int.reduceToNat,Int.reduceLE,Int.reduceLT,Int.reduceNeg,reduceCtorEq,gos,Int.reduceAdd,Int.reduceSub,Int.reduceMul,Int.reduceEq])
    refine X_call_shared (q _) rfl (by simp -dsimp only [callee_fn,simx,zzB,tys,ite_self,opnL,callB,callX,readsB,stepOp,nilCmp,ofVal,opBuiltin,opLen,PV.sk,scalBin,scalUn,intBin,opLoad,natOf,opConvert,opField,cellsP,oneP,Value.oneCell',opStore,toIV,scalT,scalA,scalC,boxesA,boxesC,zipB_none,zipB_mx,isZ,opZip,zeroP,opAppendZ,opMakeMap,opLookup,mboxB,opUpdate,↓reduceIte,Nat.reduceSub,Nat.reduceEqDiff,Nat.reduceAdd,Nat.reduceMul,Nat.reduceLT,Nat.reduceLeDiff,Int.reduceToNat,Int.reduceLE,Int.reduceLT,Int.reduceNeg,reduceCtorEq,gos,Int.reduceAdd,Int.reduceSub,Int.reduceMul,Int.reduceEq]) (by simp only [tys]) ?_
    repeat (first|refine X_opc rfl ?_|refine X_dopc rfl ?_|refine ⟨(by show drawK _ _=true; kernel_rfl:drawX _ _ _),?_⟩|exact (by show drawK _ _=true; kernel_rfl:drawX _ _ _)|simp -dsimp (maxSteps:=20000000) (disch:=omega) only [simx,zzC,zzB,tys,ite_self,opnL,callB,callX,readsB,stepOp,nilCmp,ofVal,opBuiltin,opLen,PV.sk,scalBin,scalUn,intBin,opLoad,natOf,opConvert,opField,cellsP,oneP,Value.oneCell',opStore,toIV,scalT,scalA,scalC,boxesA,boxesC,zipB_none,zipB_mx,isZ,opZip,zeroP,opAppendZ,opMakeMap,opLookup,mboxB,opUpdate,↓reduceIte,Nat.reduceSub,Nat.reduceEqDiff,Nat.reduceAdd,Nat.reduceMul,Nat.reduceLT,Nat.reduceLeDiff,Int.reduceToNat,Int.reduceLE,Int.reduceLT,Int.reduceNeg,reduceCtorEq,zzR,gos,Int.reduceAdd,Int.reduceSub,Int.reduceMul,Int.reduceEq])
  · rw [decide_eq_false c]
    refine X_startR (n:=9) (m:=2) (rs:=[.tmp 4]) Try.func118 rfl rfl rfl rfl (by decide) ?_
    repeat (first|refine X_opc rfl ?_|refine X_dopc rfl ?_|refine ⟨(by show drawK _ _=true; kernel_rfl:drawX _ _ _),?_⟩|exact (by show drawK _ _=true; kernel_rfl:drawX _ _ _)|simp -dsimp (maxSteps:=20000000) (disch:=omega) only [simx,zzC,zzB,tys,ite_self,opnL,callB,callX,readsB,stepOp,nilCmp,ofVal,opBuiltin,opLen,PV.sk,scalBin,scalUn,intBin,opLoad,natOf,opConvert,opField,cellsP,oneP,Value.oneCell',opStore,toIV,scalT,scalA,scalC,boxesA,boxesC,zipB_none,zipB_mx,isZ,opZip,zeroP,opAppendZ,opMakeMap,opLookup,mboxB,opUpdate,↓reduceIte,Nat.reduceSub,Nat.reduceEqDiff,Nat.reduceAdd,Nat.reduceMul,Nat.reduceLT,Nat.reduceLeDiff,Int.reduceToNat,Int.reduceLE,Int.reduceLT,Int.reduceNeg,reduceCtorEq,gos,Int.reduceAdd,Int.reduceSub,Int.reduceMul,Int.reduceEq])
    refine X_call_shared (q _) rfl (by simp -dsimp only [callee_fn,simx,zzB,tys,ite_self,opnL,callB,callX,readsB,stepOp,nilCmp,ofVal,opBuiltin,opLen,PV.sk,scalBin,scalUn,intBin,opLoad,natOf,opConvert,opField,cellsP,oneP,Value.oneCell',opStore,toIV,scalT,scalA,scalC,boxesA,boxesC,zipB_none,zipB_mx,isZ,opZip,zeroP,opAppendZ,opMakeMap,opLookup,mboxB,opUpdate,↓reduceIte,Nat.reduceSub,Nat.reduceEqDiff,Nat.reduceAdd,Nat.reduceMul,Nat.reduceLT,Nat.reduceLeDiff,Int.reduceToNat,Int.reduceLE,Int.reduceLT,Int.reduceNeg,reduceCtorEq,gos,Int.reduceAdd,Int.reduceSub,Int.reduceMul,Int.reduceEq]) (by simp only [tys]) ?_
    repeat (first|refine X_opc rfl ?_|refine X_dopc rfl ?_|refine ⟨(by show drawK _ _=true; kernel_rfl:drawX _ _ _),?_⟩|exact (by show drawK _ _=true; kernel_rfl:drawX _ _ _)|simp -dsimp (maxSteps:=20000000) (disch:=omega) only [simx,zzC,zzB,tys,ite_self,opnL,callB,callX,readsB,stepOp,nilCmp,ofVal,opBuiltin,opLen,PV.sk,scalBin,scalUn,intBin,opLoad,natOf,opConvert,opField,cellsP,oneP,Value.oneCell',opStore,toIV,scalT,scalA,scalC,boxesA,boxesC,zipB_none,zipB_mx,isZ,opZip,zeroP,opAppendZ,opMakeMap,opLookup,mboxB,opUpdate,↓reduceIte,Nat.reduceSub,Nat.reduceEqDiff,Nat.reduceAdd,Nat.reduceMul,Nat.reduceLT,Nat.reduceLeDiff,Int.reduceToNat,Int.reduceLE,Int.reduceLT,Int.reduceNeg,reduceCtorEq,zzR,gos,Int.reduceAdd,Int.reduceSub,Int.reduceMul,Int.reduceEq])
def sizedB (l:List (List Int)) (many each:Int):Bool:=decide ((l.length:Int)=many) && !decide (0 ≤ badS each l 0)
theorem sizedB_iff (l:List (List Int)) (many each:Int):sizedB l many each=true ↔ (l.length:Int)=many ∧ ∀ u ∈ l,(u.length:Int)=each:=by
  unfold sizedB
  rw [Bool.and_eq_true,decide_eq_true_eq,Bool.not_eq_true',decide_eq_false_iff_not,badS_iff]
theorem sized_walk {l:List (List Int)} (many each:Int) (hl:l.length ≤ maxLen):CallsP Try.prog 85 [llP l,i64 many,i64 each] (bl (sizedB l many each)):=by
  unfold sizedB
  by_cases c1:(l.length:Int)=many
  · rw [decide_eq_true c1]
    refine X_startP (n:=17) (m:=3) (rs:=[.tmp 6]) Try.func85 rfl rfl rfl rfl (by decide) fun base => ?_
    repeat (first|refine X_opc rfl ?_|refine X_dopc rfl ?_|refine ⟨(by show drawK _ _=true; kernel_rfl:drawX _ _ _),?_⟩|exact (by show drawK _ _=true; kernel_rfl:drawX _ _ _)|simp -dsimp (maxSteps:=20000000) (disch:=omega) only [simx,zzC,zzB,tys,ite_self,opnL,callB,callX,readsB,stepOp,nilCmp,ofVal,opBuiltin,opLen,PV.sk,scalBin,scalUn,intBin,opLoad,natOf,opConvert,opField,cellsP,oneP,Value.oneCell',opStore,toIV,scalT,scalA,scalC,boxesA,boxesC,zipB_none,zipB_mx,isZ,opZip,zeroP,opAppendZ,opMakeMap,opLookup,mboxB,opUpdate,↓reduceIte,Nat.reduceSub,Nat.reduceEqDiff,Nat.reduceAdd,Nat.reduceMul,Nat.reduceLT,Nat.reduceLeDiff,Int.reduceToNat,Int.reduceLE,Int.reduceLT,Int.reduceNeg,reduceCtorEq,gos,Int.reduceAdd,Int.reduceSub,Int.reduceMul,Int.reduceEq,c1,SK.len])
    refine X_call_shared (containsS_walk (b:=(0,0)::base) (each:=each) hl (by simp [Heap.put_at])) rfl (by simp -dsimp only [callee_fn,simx,zzB,tys,ite_self,opnL,callB,callX,readsB,stepOp,nilCmp,ofVal,opBuiltin,opLen,PV.sk,scalBin,scalUn,intBin,opLoad,natOf,opConvert,opField,cellsP,oneP,Value.oneCell',opStore,toIV,scalT,scalA,scalC,boxesA,boxesC,zipB_none,zipB_mx,isZ,opZip,zeroP,opAppendZ,opMakeMap,opLookup,mboxB,opUpdate,↓reduceIte,Nat.reduceSub,Nat.reduceEqDiff,Nat.reduceAdd,Nat.reduceMul,Nat.reduceLT,Nat.reduceLeDiff,Int.reduceToNat,Int.reduceLE,Int.reduceLT,Int.reduceNeg,reduceCtorEq,gos,Int.reduceAdd,Int.reduceSub,Int.reduceMul,Int.reduceEq]) (by simp only [tys]) ?_
    generalize decide (0 ≤ badS each l 0)=o
    repeat (first|refine X_opc rfl ?_|refine X_dopc rfl ?_|refine ⟨(by show drawK _ _=true; kernel_rfl:drawX _ _ _),?_⟩|exact (by show drawK _ _=true; kernel_rfl:drawX _ _ _)|simp -dsimp (maxSteps:=20000000) (disch:=omega) only [simx,zzC,zzB,tys,ite_self,opnL,callB,callX,readsB,stepOp,nilCmp,ofVal,opBuiltin,opLen,PV.sk,scalBin,scalUn,intBin,opLoad,natOf,opConvert,opField,cellsP,oneP,Value.oneCell',opStore,toIV,scalT,scalA,scalC,boxesA,boxesC,zipB_none,zipB_mx,isZ,opZip,zeroP,opAppendZ,opMakeMap,opLookup,mboxB,opUpdate,↓reduceIte,Nat.reduceSub,Nat.reduceEqDiff,Nat.reduceAdd,Nat.reduceMul,Nat.reduceLT,Nat.reduceLeDiff,Int.reduceToNat,Int.reduceLE,Int.reduceLT,Int.reduceNeg,reduceCtorEq,zzR,gos,Int.reduceAdd,Int.reduceSub,Int.reduceMul,Int.reduceEq])
    try rfl
  · rw [decide_eq_false c1]
    refine X_startP (n:=17) (m:=3) (rs:=[.tmp 6]) Try.func85 rfl rfl rfl rfl (by decide) fun base => ?_
    repeat (first|refine X_opc rfl ?_|refine X_dopc rfl ?_|refine ⟨(by show drawK _ _=true; kernel_rfl:drawX _ _ _),?_⟩|exact (by show drawK _ _=true; kernel_rfl:drawX _ _ _)|simp -dsimp (maxSteps:=20000000) (disch:=omega) only [simx,zzC,zzB,tys,ite_self,opnL,callB,callX,readsB,stepOp,nilCmp,ofVal,opBuiltin,opLen,PV.sk,scalBin,scalUn,intBin,opLoad,natOf,opConvert,opField,cellsP,oneP,Value.oneCell',opStore,toIV,scalT,scalA,scalC,boxesA,boxesC,zipB_none,zipB_mx,isZ,opZip,zeroP,opAppendZ,opMakeMap,opLookup,mboxB,opUpdate,↓reduceIte,Nat.reduceSub,Nat.reduceEqDiff,Nat.reduceAdd,Nat.reduceMul,Nat.reduceLT,Nat.reduceLeDiff,Int.reduceToNat,Int.reduceLE,Int.reduceLT,Int.reduceNeg,reduceCtorEq,zzR,gos,Int.reduceAdd,Int.reduceSub,Int.reduceMul,Int.reduceEq,c1,SK.len])
    try rfl
theorem rest1_walk (a:Int):CallsP Try.prog 121 [u64 a] (bl (a != 0)):=by
  refine X_startP (n:=5) (m:=1) (rs:=[.tmp 2]) Try.func121 rfl rfl rfl rfl (by decide) fun base => ?_
  repeat (first|refine X_opc rfl ?_|refine X_dopc rfl ?_|refine ⟨(by show drawK _ _=true; kernel_rfl:drawX _ _ _),?_⟩|exact (by show drawK _ _=true; kernel_rfl:drawX _ _ _)|simp -dsimp (maxSteps:=20000000) (disch:=omega) only [simx,zzC,zzB,tys,ite_self,opnL,callB,callX,readsB,stepOp,nilCmp,ofVal,opBuiltin,opLen,PV.sk,scalBin,scalUn,intBin,opLoad,natOf,opConvert,opField,cellsP,oneP,Value.oneCell',opStore,toIV,scalT,scalA,scalC,boxesA,boxesC,zipB_none,zipB_mx,isZ,opZip,zeroP,opAppendZ,opMakeMap,opLookup,mboxB,opUpdate,↓reduceIte,Nat.reduceSub,Nat.reduceEqDiff,Nat.reduceAdd,Nat.reduceMul,Nat.reduceLT,Nat.reduceLeDiff,Int.reduceToNat,Int.reduceLE,Int.reduceLT,Int.reduceNeg,reduceCtorEq,zzR,gos,Int.reduceAdd,Int.reduceSub,Int.reduceMul,Int.reduceEq])
theorem indexR_walk {l:List Int} (hl:l.length ≤ maxLen):CallsP Try.prog 130 [lu l,fnc 121] (i64 (nzI l 0)):=by
  rw [mx_len] at hl
  refine X_startP (n:=19) (m:=2) (rs:=[.tmp 4]) Try.func130 rfl rfl rfl rfl (by decide) fun base => ?_
  repeat (first|refine X_opc rfl ?_|refine X_dopc rfl ?_|refine ⟨(by show drawK _ _=true; kernel_rfl:drawX _ _ _),?_⟩|exact (by show drawK _ _=true; kernel_rfl:drawX _ _ _)|simp -dsimp (maxSteps:=20000000) (disch:=omega) only [simx,zzC,zzB,tys,ite_self,opnL,callB,callX,readsB,stepOp,nilCmp,ofVal,opBuiltin,opLen,PV.sk,scalBin,scalUn,intBin,opLoad,natOf,opConvert,opField,cellsP,oneP,Value.oneCell',opStore,toIV,scalT,scalA,scalC,boxesA,boxesC,zipB_none,zipB_mx,isZ,opZip,zeroP,opAppendZ,opMakeMap,opLookup,mboxB,opUpdate,↓reduceIte,Nat.reduceSub,Nat.reduceEqDiff,Nat.reduceAdd,Nat.reduceMul,Nat.reduceLT,Nat.reduceLeDiff,Int.reduceToNat,Int.reduceLE,Int.reduceLT,Int.reduceNeg,reduceCtorEq,gos,Int.reduceAdd,Int.reduceSub,Int.reduceMul,Int.reduceEq])
  refine X_loopH [0,1,7,8] [] (0) (l.length) (fun j => nzI (l.drop j) j=nzI l 0) (fun j => [(8,i64 j)]) (fun j => Heap.none) ?_ ?_ ?_ ?_ ?_ (by decide) ?_
  · exact (fgt_nil)
  · ((simp -dsimp (disch:=omega) only [simx,zzB,tys,ite_self,opnL,callB,callX,readsB,stepOp,nilCmp,ofVal,opBuiltin,opLen,PV.sk,scalBin,scalUn,intBin,opLoad,natOf,opConvert,opField,cellsP,oneP,Value.oneCell',opStore,toIV,scalT,scalA,scalC,boxesA,boxesC,zipB_none,zipB_mx,isZ,opZip,zeroP,opAppendZ,opMakeMap,opLookup,mboxB,opUpdate,↓reduceIte,Nat.reduceSub,Nat.reduceEqDiff,Nat.reduceAdd,Nat.reduceMul,Nat.reduceLT,Nat.reduceLeDiff,Int.reduceToNat,Int.reduceLE,Int.reduceLT,Int.reduceNeg,reduceCtorEq,gos,Int.reduceAdd,Int.reduceSub,Int.reduceMul,Int.reduceEq]) <;> first|rfl|simp)
  · exact drop_nil _
  · omega
  · rfl
  · intro j hj hf
    by_cases c:j < l.length
    · have g1:l[j]?=some l[j]:=List.getElem?_eq_getElem c
      have d:=rest1_walk l[j]
      rw [List.drop_eq_getElem_cons c,nzI] at hf
      generalize l[j]=a at g1 d hf
      by_cases e:a=0
      · rw [if_pos e] at hf
        subst e
        rw [show ((0:Int) != 0)=false from rfl] at d
        repeat (first|((first|refine X_call_fn2 rfl (by simp only [tys]) ?_|refine X_dcall_fn2 rfl (by simp only [tys]) ?_); apply Exists.intro; apply And.intro; (focus (simp -dsimp only [simx,zzC,zzB,tys,ite_self,opnL,callB,callX,readsB,stepOp,nilCmp,ofVal,opBuiltin,opLen,PV.sk,scalBin,scalUn,intBin,opLoad,natOf,opConvert,opField,cellsP,oneP,Value.oneCell',opStore,toIV,scalT,scalA,scalC,boxesA,boxesC,zipB_none,zipB_mx,isZ,opZip,zeroP,opAppendZ,opMakeMap,opLookup,mboxB,opUpdate,↓reduceIte,Nat.reduceSub,Nat.reduceEqDiff,Nat.reduceAdd,Nat.reduceMul,Nat.reduceLT,Nat.reduceLeDiff,Int.reduceToNat,Int.reduceLE,Int.reduceLT,Int.reduceNeg,reduceCtorEq,zzL,if_true,if_false] <;> rfl)); apply Exists.intro; apply And.intro; (focus (first|exact d)))|(refine X_call_val2 rfl ?_; apply Exists.intro; apply And.intro; (focus (simp -dsimp only [simx,zzC,zzB,tys,ite_self,opnL,callB,callX,readsB,stepOp,nilCmp,ofVal,opBuiltin,opLen,PV.sk,scalBin,scalUn,intBin,opLoad,natOf,opConvert,opField,cellsP,oneP,Value.oneCell',opStore,toIV,scalT,scalA,scalC,boxesA,boxesC,zipB_none,zipB_mx,isZ,opZip,zeroP,opAppendZ,opMakeMap,opLookup,mboxB,opUpdate,↓reduceIte,Nat.reduceSub,Nat.reduceEqDiff,Nat.reduceAdd,Nat.reduceMul,Nat.reduceLT,Nat.reduceLeDiff,Int.reduceToNat,Int.reduceLE,Int.reduceLT,Int.reduceNeg,reduceCtorEq,zzL,if_true,if_false] <;> rfl)); apply And.intro; (focus (first|simp only [tys]|exact such_enter _)); apply Exists.intro; apply And.intro; (focus (simp -dsimp only [simx,zzC,zzB,tys,ite_self,opnL,callB,callX,readsB,stepOp,nilCmp,ofVal,opBuiltin,opLen,PV.sk,scalBin,scalUn,intBin,opLoad,natOf,opConvert,opField,cellsP,oneP,Value.oneCell',opStore,toIV,scalT,scalA,scalC,boxesA,boxesC,zipB_none,zipB_mx,isZ,opZip,zeroP,opAppendZ,opMakeMap,opLookup,mboxB,opUpdate,↓reduceIte,Nat.reduceSub,Nat.reduceEqDiff,Nat.reduceAdd,Nat.reduceMul,Nat.reduceLT,Nat.reduceLeDiff,Int.reduceToNat,Int.reduceLE,Int.reduceLT,Int.reduceNeg,reduceCtorEq,zzL,if_true,if_false] <;> rfl)); apply Exists.intro; apply And.intro; (focus (first|exact d)))|refine X_opc rfl ?_|refine X_dopc rfl ?_|refine ⟨(by show drawK _ _=true; kernel_rfl:drawX _ _ _),?_⟩|exact (by show drawK _ _=true; kernel_rfl:drawX _ _ _)|simp -dsimp (maxSteps:=20000000) (disch:=omega) only [simx,zzC,zzB,tys,ite_self,opnL,callB,callX,readsB,stepOp,nilCmp,ofVal,opBuiltin,opLen,PV.sk,scalBin,scalUn,intBin,opLoad,natOf,opConvert,opField,cellsP,oneP,Value.oneCell',opStore,toIV,scalT,scalA,scalC,boxesA,boxesC,zipB_none,zipB_mx,isZ,opZip,zeroP,opAppendZ,opMakeMap,opLookup,mboxB,opUpdate,↓reduceIte,Nat.reduceSub,Nat.reduceEqDiff,Nat.reduceAdd,Nat.reduceMul,Nat.reduceLT,Nat.reduceLeDiff,Int.reduceToNat,Int.reduceLE,Int.reduceLT,Int.reduceNeg,reduceCtorEq,zzR,gos,Int.reduceAdd,Int.reduceSub,Int.reduceMul,Int.reduceEq,c,g1])
        exact ⟨c,(fgt_nil),hf,rfl,drop_nil _⟩
      · rw [if_neg e] at hf
        rw [← hf]
        rw [bne_tt e] at d
        repeat (first|((first|refine X_call_fn2 rfl (by simp only [tys]) ?_|refine X_dcall_fn2 rfl (by simp only [tys]) ?_); apply Exists.intro; apply And.intro; (focus (simp -dsimp only [simx,zzC,zzB,tys,ite_self,opnL,callB,callX,readsB,stepOp,nilCmp,ofVal,opBuiltin,opLen,PV.sk,scalBin,scalUn,intBin,opLoad,natOf,opConvert,opField,cellsP,oneP,Value.oneCell',opStore,toIV,scalT,scalA,scalC,boxesA,boxesC,zipB_none,zipB_mx,isZ,opZip,zeroP,opAppendZ,opMakeMap,opLookup,mboxB,opUpdate,↓reduceIte,Nat.reduceSub,Nat.reduceEqDiff,Nat.reduceAdd,Nat.reduceMul,Nat.reduceLT,Nat.reduceLeDiff,Int.reduceToNat,Int.reduceLE,Int.reduceLT,Int.reduceNeg,reduceCtorEq,zzL,if_true,if_false] <;> rfl)); apply Exists.intro; apply And.intro; (focus (first|exact d)))|(refine X_call_val2 rfl ?_; apply Exists.intro; apply And.intro; (focus (simp -dsimp only [simx,zzC,zzB,tys,ite_self,opnL,callB,callX,readsB,stepOp,nilCmp,ofVal,opBuiltin,opLen,PV.sk,scalBin,scalUn,intBin,opLoad,natOf,opConvert,opField,cellsP,oneP,Value.oneCell',opStore,toIV,scalT,scalA,scalC,boxesA,boxesC,zipB_none,zipB_mx,isZ,opZip,zeroP,opAppendZ,opMakeMap,opLookup,mboxB,opUpdate,↓reduceIte,Nat.reduceSub,Nat.reduceEqDiff,Nat.reduceAdd,Nat.reduceMul,Nat.reduceLT,Nat.reduceLeDiff,Int.reduceToNat,Int.reduceLE,Int.reduceLT,Int.reduceNeg,reduceCtorEq,zzL,if_true,if_false] <;> rfl)); apply And.intro; (focus (first|simp only [tys]|exact such_enter _)); apply Exists.intro; apply And.intro; (focus (simp -dsimp only [simx,zzC,zzB,tys,ite_self,opnL,callB,callX,readsB,stepOp,nilCmp,ofVal,opBuiltin,opLen,PV.sk,scalBin,scalUn,intBin,opLoad,natOf,opConvert,opField,cellsP,oneP,Value.oneCell',opStore,toIV,scalT,scalA,scalC,boxesA,boxesC,zipB_none,zipB_mx,isZ,opZip,zeroP,opAppendZ,opMakeMap,opLookup,mboxB,opUpdate,↓reduceIte,Nat.reduceSub,Nat.reduceEqDiff,Nat.reduceAdd,Nat.reduceMul,Nat.reduceLT,Nat.reduceLeDiff,Int.reduceToNat,Int.reduceLE,Int.reduceLT,Int.reduceNeg,reduceCtorEq,zzL,if_true,if_false] <;> rfl)); apply Exists.intro; apply And.intro; (focus (first|exact d)))|refine X_opc rfl ?_|refine X_dopc rfl ?_|refine ⟨(by show drawK _ _=true; kernel_rfl:drawX _ _ _),?_⟩|exact (by show drawK _ _=true; kernel_rfl:drawX _ _ _)|simp -dsimp (maxSteps:=20000000) (disch:=omega) only [simx,zzC,zzB,tys,ite_self,opnL,callB,callX,readsB,stepOp,nilCmp,ofVal,opBuiltin,opLen,PV.sk,scalBin,scalUn,intBin,opLoad,natOf,opConvert,opField,cellsP,oneP,Value.oneCell',opStore,toIV,scalT,scalA,scalC,boxesA,boxesC,zipB_none,zipB_mx,isZ,opZip,zeroP,opAppendZ,opMakeMap,opLookup,mboxB,opUpdate,↓reduceIte,Nat.reduceSub,Nat.reduceEqDiff,Nat.reduceAdd,Nat.reduceMul,Nat.reduceLT,Nat.reduceLeDiff,Int.reduceToNat,Int.reduceLE,Int.reduceLT,Int.reduceNeg,reduceCtorEq,zzR,gos,Int.reduceAdd,Int.reduceSub,Int.reduceMul,Int.reduceEq,c,g1])
    · have hj:j=l.length:=by omega
      subst hj
      rw [List.drop_length,nzI] at hf
      rw [← hf]
      repeat (first|refine X_opc rfl ?_|refine X_dopc rfl ?_|refine ⟨(by show drawK _ _=true; kernel_rfl:drawX _ _ _),?_⟩|exact (by show drawK _ _=true; kernel_rfl:drawX _ _ _)|simp -dsimp (maxSteps:=20000000) (disch:=omega) only [simx,zzC,zzB,tys,ite_self,opnL,callB,callX,readsB,stepOp,nilCmp,ofVal,opBuiltin,opLen,PV.sk,scalBin,scalUn,intBin,opLoad,natOf,opConvert,opField,cellsP,oneP,Value.oneCell',opStore,toIV,scalT,scalA,scalC,boxesA,boxesC,zipB_none,zipB_mx,isZ,opZip,zeroP,opAppendZ,opMakeMap,opLookup,mboxB,opUpdate,↓reduceIte,Nat.reduceSub,Nat.reduceEqDiff,Nat.reduceAdd,Nat.reduceMul,Nat.reduceLT,Nat.reduceLeDiff,Int.reduceToNat,Int.reduceLE,Int.reduceLT,Int.reduceNeg,reduceCtorEq,zzR,gos,Int.reduceAdd,Int.reduceSub,Int.reduceMul,Int.reduceEq])
theorem containsR_walk {l:List Int} (hl:l.length ≤ maxLen):CallsP Try.prog 107 [lu l,fnc 121] (bl (!zerB l)):=by
  have q:=indexR_walk hl
  rw [← nzI_zero l 0]
  generalize nzI l 0=i at q
  by_cases c:0 ≤ i
  · rw [decide_eq_true c]
    refine X_startP (n:=9) (m:=2) (rs:=[.tmp 4]) Try.func107 rfl rfl rfl rfl (by decide) fun base => ?_
    repeat (first|((first|refine X_call_fn2 rfl (by simp only [tys]) ?_|refine X_dcall_fn2 rfl (by simp only [tys]) ?_); apply Exists.intro; apply And.intro; (focus (simp -dsimp only [simx,zzC,zzB,tys,ite_self,opnL,callB,callX,readsB,stepOp,nilCmp,ofVal,opBuiltin,opLen,PV.sk,scalBin,scalUn,intBin,opLoad,natOf,opConvert,opField,cellsP,oneP,Value.oneCell',opStore,toIV,scalT,scalA,scalC,boxesA,boxesC,zipB_none,zipB_mx,isZ,opZip,zeroP,opAppendZ,opMakeMap,opLookup,mboxB,opUpdate,↓reduceIte,Nat.reduceSub,Nat.reduceEqDiff,Nat.reduceAdd,Nat.reduceMul,Nat.reduceLT,Nat.reduceLeDiff,Int.reduceToNat,Int.reduceLE,Int.reduceLT,Int.reduceNeg,reduceCtorEq,zzL,if_true,if_false] <;> rfl)); apply Exists.intro; apply And.intro; (focus (first|exact q)))|refine X_opc rfl ?_|refine X_dopc rfl ?_|refine ⟨(by show drawK _ _=true; kernel_rfl:drawX _ _ _),?_⟩|exact (by show drawK _ _=true; kernel_rfl:drawX _ _ _)|simp -dsimp (maxSteps:=20000000) (disch:=omega) only [simx,zzC,zzB,tys,ite_self,opnL,callB,callX,readsB,stepOp,nilCmp,ofVal,opBuiltin,opLen,PV.sk,scalBin,scalUn,intBin,opLoad,natOf,opConvert,opField,cellsP,oneP,Value.oneCell',opStore,toIV,scalT,scalA,scalC,boxesA,boxesC,zipB_none,zipB_mx,isZ,opZip,zeroP,opAppendZ,opMakeMap,opLookup,mboxB,opUpdate,↓reduceIte,Nat.reduceSub,Nat.reduceEqDiff,Nat.reduceAdd,Nat.reduceMul,Nat.reduceLT,Nat.reduceLeDiff,Int.reduceToNat,Int.reduceLE,Int.reduceLT,Int.reduceNeg,reduceCtorEq,zzR,gos,Int.reduceAdd,Int.reduceSub,Int.reduceMul,Int.reduceEq])
  · rw [decide_eq_false c]
    refine X_startP (n:=9) (m:=2) (rs:=[.tmp 4]) Try.func107 rfl rfl rfl rfl (by decide) fun base => ?_
    repeat (first|((first|refine X_call_fn2 rfl (by simp only [tys]) ?_|refine X_dcall_fn2 rfl (by simp only [tys]) ?_); apply Exists.intro; apply And.intro; (focus (simp -dsimp only [simx,zzC,zzB,tys,ite_self,opnL,callB,callX,readsB,stepOp,nilCmp,ofVal,opBuiltin,opLen,PV.sk,scalBin,scalUn,intBin,opLoad,natOf,opConvert,opField,cellsP,oneP,Value.oneCell',opStore,toIV,scalT,scalA,scalC,boxesA,boxesC,zipB_none,zipB_mx,isZ,opZip,zeroP,opAppendZ,opMakeMap,opLookup,mboxB,opUpdate,↓reduceIte,Nat.reduceSub,Nat.reduceEqDiff,Nat.reduceAdd,Nat.reduceMul,Nat.reduceLT,Nat.reduceLeDiff,Int.reduceToNat,Int.reduceLE,Int.reduceLT,Int.reduceNeg,reduceCtorEq,zzL,if_true,if_false] <;> rfl)); apply Exists.intro; apply And.intro; (focus (first|exact q)))|refine X_opc rfl ?_|refine X_dopc rfl ?_|refine ⟨(by show drawK _ _=true; kernel_rfl:drawX _ _ _),?_⟩|exact (by show drawK _ _=true; kernel_rfl:drawX _ _ _)|simp -dsimp (maxSteps:=20000000) (disch:=omega) only [simx,zzC,zzB,tys,ite_self,opnL,callB,callX,readsB,stepOp,nilCmp,ofVal,opBuiltin,opLen,PV.sk,scalBin,scalUn,intBin,opLoad,natOf,opConvert,opField,cellsP,oneP,Value.oneCell',opStore,toIV,scalT,scalA,scalC,boxesA,boxesC,zipB_none,zipB_mx,isZ,opZip,zeroP,opAppendZ,opMakeMap,opLookup,mboxB,opUpdate,↓reduceIte,Nat.reduceSub,Nat.reduceEqDiff,Nat.reduceAdd,Nat.reduceMul,Nat.reduceLT,Nat.reduceLeDiff,Int.reduceToNat,Int.reduceLE,Int.reduceLT,Int.reduceNeg,reduceCtorEq,zzR,gos,Int.reduceAdd,Int.reduceSub,Int.reduceMul,Int.reduceEq])
theorem rest2_walk {b base:Name} {h:Heap} {u:List Int} {q:Nat} (hb:h b=some (.var [lu u])) (hq:q < u.length):CallR Try.prog base 123 [i64 q,.ref b 0 1] h (bl (!decide (u.getD q 0=0))) h:=by
  have g:(u.map iu)[q]?=some (iu (u.getD q 0)):=by rw [List.getElem?_map,getD_some rfl hq]; rfl
  generalize u.getD q 0=x at g
  by_cases c:x=0
  · subst c
    refine X_startR (n:=9) (m:=2) (rs:=[.tmp 3]) Try.func123 rfl rfl rfl rfl (by decide) ?_
    repeat (first|refine X_opc rfl ?_|refine X_dopc rfl ?_|refine ⟨(by show drawK _ _=true; kernel_rfl:drawX _ _ _),?_⟩|exact (by show drawK _ _=true; kernel_rfl:drawX _ _ _)|simp -dsimp (maxSteps:=20000000) (disch:=omega) only [simx,zzC,zzB,tys,ite_self,opnL,callB,callX,readsB,stepOp,nilCmp,ofVal,opBuiltin,opLen,PV.sk,scalBin,scalUn,intBin,opLoad,natOf,opConvert,opField,cellsP,oneP,Value.oneCell',opStore,toIV,scalT,scalA,scalC,boxesA,boxesC,zipB_none,zipB_mx,isZ,opZip,zeroP,opAppendZ,opMakeMap,opLookup,mboxB,opUpdate,↓reduceIte,Nat.reduceSub,Nat.reduceEqDiff,Nat.reduceAdd,Nat.reduceMul,Nat.reduceLT,Nat.reduceLeDiff,Int.reduceToNat,Int.reduceLE,Int.reduceLT,Int.reduceNeg,reduceCtorEq,zzR,gos,Int.reduceAdd,Int.reduceSub,Int.reduceMul,Int.reduceEq,hb,g,hq,List.length_map,SK.len])
  · rw [decide_eq_false c]
    refine X_startR (n:=9) (m:=2) (rs:=[.tmp 3]) Try.func123 rfl rfl rfl rfl (by decide) ?_
    repeat (first|refine X_opc rfl ?_|refine X_dopc rfl ?_|refine ⟨(by show drawK _ _=true; kernel_rfl:drawX _ _ _),?_⟩|exact (by show drawK _ _=true; kernel_rfl:drawX _ _ _)|simp -dsimp (maxSteps:=20000000) (disch:=omega) only [simx,zzC,zzB,tys,ite_self,opnL,callB,callX,readsB,stepOp,nilCmp,ofVal,opBuiltin,opLen,PV.sk,scalBin,scalUn,intBin,opLoad,natOf,opConvert,opField,cellsP,oneP,Value.oneCell',opStore,toIV,scalT,scalA,scalC,boxesA,boxesC,zipB_none,zipB_mx,isZ,opZip,zeroP,opAppendZ,opMakeMap,opLookup,mboxB,opUpdate,↓reduceIte,Nat.reduceSub,Nat.reduceEqDiff,Nat.reduceAdd,Nat.reduceMul,Nat.reduceLT,Nat.reduceLeDiff,Int.reduceToNat,Int.reduceLE,Int.reduceLT,Int.reduceNeg,reduceCtorEq,zzR,gos,Int.reduceAdd,Int.reduceSub,Int.reduceMul,Int.reduceEq,hb,g,hq,c,List.length_map,SK.len])
def badC (u:List Int):List Int → Nat → Int
  | [],_ => -1
  | a::l,k => if u.getD a.toNat 0=0 then badC u l (k + 1) else k
theorem badC_iff (u:List Int):∀ (l:List Int) (k:Nat),¬ 0 ≤ badC u l k ↔ ∀ a ∈ l,u.getD a.toNat 0=0
  | [],k => by simp [badC]
  | a::l,k => by
    rw [badC]
    by_cases h:u.getD a.toNat 0=0
    · rw [if_pos h,badC_iff u l (k + 1),List.forall_mem_cons]; exact ⟨fun h' => ⟨h,h'⟩,fun h' => h'.2⟩
    · rw [if_neg h]
      have hk:(0:Int) ≤ (k:Int):=by omega
      exact ⟨fun h' => absurd hk h',fun h' => absurd (h' a (by simp)) h⟩
theorem indexC_walk {b base:Name} {h:Heap} {u l:List Int} (hl:l.length ≤ maxLen) (hb:h b=some (.var [lu u])) (hq:∀ a ∈ l,0 ≤ a ∧ a < u.length) :
    CallR Try.prog base 137 [li l,.clo 123 [.ref b 0 1]] h (i64 (badC u l 0)) h:=by
  rw [mx_len] at hl
  refine X_startR (n:=19) (m:=2) (rs:=[.tmp 4]) Try.func137 rfl rfl rfl rfl (by decide) ?_
  repeat (first|refine X_opc rfl ?_|refine X_dopc rfl ?_|refine ⟨(by show drawK _ _=true; kernel_rfl:drawX _ _ _),?_⟩|exact (by show drawK _ _=true; kernel_rfl:drawX _ _ _)|simp -dsimp (maxSteps:=20000000) (disch:=omega) only [simx,zzC,zzB,tys,ite_self,opnL,callB,callX,readsB,stepOp,nilCmp,ofVal,opBuiltin,opLen,PV.sk,scalBin,scalUn,intBin,opLoad,natOf,opConvert,opField,cellsP,oneP,Value.oneCell',opStore,toIV,scalT,scalA,scalC,boxesA,boxesC,zipB_none,zipB_mx,isZ,opZip,zeroP,opAppendZ,opMakeMap,opLookup,mboxB,opUpdate,↓reduceIte,Nat.reduceSub,Nat.reduceEqDiff,Nat.reduceAdd,Nat.reduceMul,Nat.reduceLT,Nat.reduceLeDiff,Int.reduceToNat,Int.reduceLE,Int.reduceLT,Int.reduceNeg,reduceCtorEq,gos,Int.reduceAdd,Int.reduceSub,Int.reduceMul,Int.reduceEq])
  refine X_loopH [0,1,7,8] [] (0) (l.length) (fun j => badC u (l.drop j) j=badC u l 0) (fun j => [(8,i64 j)]) (fun j => h) ?_ ?_ ?_ ?_ ?_ (by decide) ?_
  · exact (fgt_nil)
  · ((simp -dsimp (disch:=omega) only [simx,zzB,tys,ite_self,opnL,callB,callX,readsB,stepOp,nilCmp,ofVal,opBuiltin,opLen,PV.sk,scalBin,scalUn,intBin,opLoad,natOf,opConvert,opField,cellsP,oneP,Value.oneCell',opStore,toIV,scalT,scalA,scalC,boxesA,boxesC,zipB_none,zipB_mx,isZ,opZip,zeroP,opAppendZ,opMakeMap,opLookup,mboxB,opUpdate,↓reduceIte,Nat.reduceSub,Nat.reduceEqDiff,Nat.reduceAdd,Nat.reduceMul,Nat.reduceLT,Nat.reduceLeDiff,Int.reduceToNat,Int.reduceLE,Int.reduceLT,Int.reduceNeg,reduceCtorEq,gos,Int.reduceAdd,Int.reduceSub,Int.reduceMul,Int.reduceEq]) <;> first|rfl|simp)
  · exact drop_nil _
  · omega
  · rfl
  · intro j hj hf
    by_cases c:j < l.length
    · have g1:l[j]?=some l[j]:=List.getElem?_eq_getElem c
      obtain ⟨h0,h1⟩:=hq l[j] (List.getElem_mem c)
      rw [drop13 c,badC] at hf
      obtain ⟨q,hqe⟩:∃ q:Nat,l[j]=q:=⟨(l[j]).toNat,by omega⟩
      rw [hqe] at g1 hf h1
      rw [Int.toNat_natCast] at hf
      have q2:q < u.length:=by omega
      repeat (first|refine X_opc rfl ?_|refine X_dopc rfl ?_|refine ⟨(by show drawK _ _=true; kernel_rfl:drawX _ _ _),?_⟩|exact (by show drawK _ _=true; kernel_rfl:drawX _ _ _)|simp -dsimp (maxSteps:=20000000) (disch:=omega) only [simx,zzC,zzB,tys,ite_self,opnL,callB,callX,readsB,stepOp,nilCmp,ofVal,opBuiltin,opLen,PV.sk,scalBin,scalUn,intBin,opLoad,natOf,opConvert,opField,cellsP,oneP,Value.oneCell',opStore,toIV,scalT,scalA,scalC,boxesA,boxesC,zipB_none,zipB_mx,isZ,opZip,zeroP,opAppendZ,opMakeMap,opLookup,mboxB,opUpdate,↓reduceIte,Nat.reduceSub,Nat.reduceEqDiff,Nat.reduceAdd,Nat.reduceMul,Nat.reduceLT,Nat.reduceLeDiff,Int.reduceToNat,Int.reduceLE,Int.reduceLT,Int.reduceNeg,reduceCtorEq,gos,Int.reduceAdd,Int.reduceSub,Int.reduceMul,Int.reduceEq,c,g1])
      refine X_call_shared (rest2_walk (q:=q) hb q2) rfl (by simp -dsimp only [calleeOf,simx,zzB,tys,ite_self,opnL,callB,callX,readsB,stepOp,nilCmp,ofVal,opBuiltin,opLen,PV.sk,scalBin,scalUn,intBin,opLoad,natOf,opConvert,opField,cellsP,oneP,Value.oneCell',opStore,toIV,scalT,scalA,scalC,boxesA,boxesC,zipB_none,zipB_mx,isZ,opZip,zeroP,opAppendZ,opMakeMap,opLookup,mboxB,opUpdate,↓reduceIte,Nat.reduceSub,Nat.reduceEqDiff,Nat.reduceAdd,Nat.reduceMul,Nat.reduceLT,Nat.reduceLeDiff,Int.reduceToNat,Int.reduceLE,Int.reduceLT,Int.reduceNeg,reduceCtorEq,gos,Int.reduceAdd,Int.reduceSub,Int.reduceMul,Int.reduceEq]) (by simp only [tys]) ?_
      generalize u.getD q 0=x at hf ⊢
      by_cases e:x=0
      · rw [if_pos e] at hf
        rw [decide_eq_true e]
        repeat (first|refine X_opc rfl ?_|refine X_dopc rfl ?_|refine ⟨(by show drawK _ _=true; kernel_rfl:drawX _ _ _),?_⟩|exact (by show drawK _ _=true; kernel_rfl:drawX _ _ _)|simp -dsimp (maxSteps:=20000000) (disch:=omega) only [simx,zzC,zzB,tys,ite_self,opnL,callB,callX,readsB,stepOp,nilCmp,ofVal,opBuiltin,opLen,PV.sk,scalBin,scalUn,intBin,opLoad,natOf,opConvert,opField,cellsP,oneP,Value.oneCell',opStore,toIV,scalT,scalA,scalC,boxesA,boxesC,zipB_none,zipB_mx,isZ,opZip,zeroP,opAppendZ,opMakeMap,opLookup,mboxB,opUpdate,↓reduceIte,Nat.reduceSub,Nat.reduceEqDiff,Nat.reduceAdd,Nat.reduceMul,Nat.reduceLT,Nat.reduceLeDiff,Int.reduceToNat,Int.reduceLE,Int.reduceLT,Int.reduceNeg,reduceCtorEq,gos,Int.reduceAdd,Int.reduceSub,Int.reduceMul,Int.reduceEq])
        exact ⟨c,(fgt_nil),hf,rfl,drop_nil _⟩
      · rw [if_neg e] at hf
        rw [decide_eq_false e,← show (j:Int)=badC u l 0 from hf]
        repeat (first|refine X_opc rfl ?_|refine X_dopc rfl ?_|refine ⟨(by show drawK _ _=true; kernel_rfl:drawX _ _ _),?_⟩|exact (by show drawK _ _=true; kernel_rfl:drawX _ _ _)|simp -dsimp (maxSteps:=20000000) (disch:=omega) only [simx,zzC,zzB,tys,ite_self,opnL,callB,callX,readsB,stepOp,nilCmp,ofVal,opBuiltin,opLen,PV.sk,scalBin,scalUn,intBin,opLoad,natOf,opConvert,opField,cellsP,oneP,Value.oneCell',opStore,toIV,scalT,scalA,scalC,boxesA,boxesC,zipB_none,zipB_mx,isZ,opZip,zeroP,opAppendZ,opMakeMap,opLookup,mboxB,opUpdate,↓reduceIte,Nat.reduceSub,Nat.reduceEqDiff,Nat.reduceAdd,Nat.reduceMul,Nat.reduceLT,Nat.reduceLeDiff,Int.reduceToNat,Int.reduceLE,Int.reduceLT,Int.reduceNeg,reduceCtorEq,zzR,gos,Int.reduceAdd,Int.reduceSub,Int.reduceMul,Int.reduceEq])
    · have hj:j=l.length:=by omega
      subst hj
      rw [List.drop_length,badC] at hf
      rw [← hf]
      repeat (first|refine X_opc rfl ?_|refine X_dopc rfl ?_|refine ⟨(by show drawK _ _=true; kernel_rfl:drawX _ _ _),?_⟩|exact (by show drawK _ _=true; kernel_rfl:drawX _ _ _)|simp -dsimp (maxSteps:=20000000) (disch:=omega) only [simx,zzC,zzB,tys,ite_self,opnL,callB,callX,readsB,stepOp,nilCmp,ofVal,opBuiltin,opLen,PV.sk,scalBin,scalUn,intBin,opLoad,natOf,opConvert,opField,cellsP,oneP,Value.oneCell',opStore,toIV,scalT,scalA,scalC,boxesA,boxesC,zipB_none,zipB_mx,isZ,opZip,zeroP,opAppendZ,opMakeMap,opLookup,mboxB,opUpdate,↓reduceIte,Nat.reduceSub,Nat.reduceEqDiff,Nat.reduceAdd,Nat.reduceMul,Nat.reduceLT,Nat.reduceLeDiff,Int.reduceToNat,Int.reduceLE,Int.reduceLT,Int.reduceNeg,reduceCtorEq,zzR,gos,Int.reduceAdd,Int.reduceSub,Int.reduceMul,Int.reduceEq])
theorem containsC_walk {b base:Name} {h:Heap} {u l:List Int} (hl:l.length ≤ maxLen) (hb:h b=some (.var [lu u])) (hq:∀ a ∈ l,0 ≤ a ∧ a < u.length) :
    CallR Try.prog base 122 [li l,.clo 123 [.ref b 0 1]] h (bl (decide (0 ≤ badC u l 0))) h:=by
  have q:=fun bs => indexC_walk (base:=bs) hl hb hq
  generalize badC u l 0=i at q
  by_cases c:0 ≤ i
  · rw [decide_eq_true c]
    refine X_startR (n:=9) (m:=2) (rs:=[.tmp 4]) Try.func122 rfl rfl rfl rfl (by decide) ?_
    repeat (first|refine X_opc rfl ?_|refine X_dopc rfl ?_|refine ⟨(by show drawK _ _=true; kernel_rfl:drawX _ _ _),?_⟩|exact (by show drawK _ _=true; kernel_rfl:drawX _ _ _)|simp -dsimp (maxSteps:=20000000) (disch:=omega) only [simx,zzC,zzB,tys,ite_self,opnL,callB,callX,readsB,stepOp,nilCmp,ofVal,opBuiltin,opLen,PV.sk,scalBin,scalUn,intBin,opLoad,natOf,opConvert,opField,cellsP,oneP,Value.oneCell',opStore,toIV,scalT,scalA,scalC,boxesA,boxesC,zipB_none,zipB_mx,isZ,opZip,zeroP,opAppendZ,opMakeMap,opLookup,mboxB,opUpdate,↓reduceIte,Nat.reduceSub,Nat.reduceEqDiff,Nat.reduceAdd,Nat.reduceMul,Nat.reduceLT,Nat.reduceLeDiff,Int.reduceToNat,Int.reduceLE,Int.reduceLT,Int.reduceNeg,reduceCtorEq,gos,Int.reduceAdd,Int.reduceSub,Int.reduceMul,Int.reduceEq])
    refine X_call_shared (q _) rfl (by simp -dsimp only [callee_fn,simx,zzB,tys,ite_self,opnL,callB,callX,readsB,stepOp,nilCmp,ofVal,opBuiltin,opLen,PV.sk,scalBin,scalUn,intBin,opLoad,natOf,opConvert,opField,cellsP,oneP,Value.oneCell',opStore,toIV,scalT,scalA,scalC,boxesA,boxesC,zipB_none,zipB_mx,isZ,opZip,zeroP,opAppendZ,opMakeMap,opLookup,mboxB,opUpdate,↓reduceIte,Nat.reduceSub,Nat.reduceEqDiff,Nat.reduceAdd,Nat.reduceMul,Nat.reduceLT,Nat.reduceLeDiff,Int.reduceToNat,Int.reduceLE,Int.reduceLT,Int.reduceNeg,reduceCtorEq,gos,Int.reduceAdd,Int.reduceSub,Int.reduceMul,Int.reduceEq]) (by simp only [tys]) ?_
    repeat (first|refine X_opc rfl ?_|refine X_dopc rfl ?_|refine ⟨(by show drawK _ _=true; kernel_rfl:drawX _ _ _),?_⟩|exact (by show drawK _ _=true; kernel_rfl:drawX _ _ _)|simp -dsimp (maxSteps:=20000000) (disch:=omega) only [simx,zzC,zzB,tys,ite_self,opnL,callB,callX,readsB,stepOp,nilCmp,ofVal,opBuiltin,opLen,PV.sk,scalBin,scalUn,intBin,opLoad,natOf,opConvert,opField,cellsP,oneP,Value.oneCell',opStore,toIV,scalT,scalA,scalC,boxesA,boxesC,zipB_none,zipB_mx,isZ,opZip,zeroP,opAppendZ,opMakeMap,opLookup,mboxB,opUpdate,↓reduceIte,Nat.reduceSub,Nat.reduceEqDiff,Nat.reduceAdd,Nat.reduceMul,Nat.reduceLT,Nat.reduceLeDiff,Int.reduceToNat,Int.reduceLE,Int.reduceLT,Int.reduceNeg,reduceCtorEq,zzR,gos,Int.reduceAdd,Int.reduceSub,Int.reduceMul,Int.reduceEq])
  · rw [decide_eq_false c]
    refine X_startR (n:=9) (m:=2) (rs:=[.tmp 4]) Try.func122 rfl rfl rfl rfl (by decide) ?_
    repeat (first|refine X_opc rfl ?_|refine X_dopc rfl ?_|refine ⟨(by show drawK _ _=true; kernel_rfl:drawX _ _ _),?_⟩|exact (by show drawK _ _=true; kernel_rfl:drawX _ _ _)|simp -dsimp (maxSteps:=20000000) (disch:=omega) only [simx,zzC,zzB,tys,ite_self,opnL,callB,callX,readsB,stepOp,nilCmp,ofVal,opBuiltin,opLen,PV.sk,scalBin,scalUn,intBin,opLoad,natOf,opConvert,opField,cellsP,oneP,Value.oneCell',opStore,toIV,scalT,scalA,scalC,boxesA,boxesC,zipB_none,zipB_mx,isZ,opZip,zeroP,opAppendZ,opMakeMap,opLookup,mboxB,opUpdate,↓reduceIte,Nat.reduceSub,Nat.reduceEqDiff,Nat.reduceAdd,Nat.reduceMul,Nat.reduceLT,Nat.reduceLeDiff,Int.reduceToNat,Int.reduceLE,Int.reduceLT,Int.reduceNeg,reduceCtorEq,gos,Int.reduceAdd,Int.reduceSub,Int.reduceMul,Int.reduceEq])
    refine X_call_shared (q _) rfl (by simp -dsimp only [callee_fn,simx,zzB,tys,ite_self,opnL,callB,callX,readsB,stepOp,nilCmp,ofVal,opBuiltin,opLen,PV.sk,scalBin,scalUn,intBin,opLoad,natOf,opConvert,opField,cellsP,oneP,Value.oneCell',opStore,toIV,scalT,scalA,scalC,boxesA,boxesC,zipB_none,zipB_mx,isZ,opZip,zeroP,opAppendZ,opMakeMap,opLookup,mboxB,opUpdate,↓reduceIte,Nat.reduceSub,Nat.reduceEqDiff,Nat.reduceAdd,Nat.reduceMul,Nat.reduceLT,Nat.reduceLeDiff,Int.reduceToNat,Int.reduceLE,Int.reduceLT,Int.reduceNeg,reduceCtorEq,gos,Int.reduceAdd,Int.reduceSub,Int.reduceMul,Int.reduceEq]) (by simp only [tys]) ?_
    repeat (first|refine X_opc rfl ?_|refine X_dopc rfl ?_|refine ⟨(by show drawK _ _=true; kernel_rfl:drawX _ _ _),?_⟩|exact (by show drawK _ _=true; kernel_rfl:drawX _ _ _)|simp -dsimp (maxSteps:=20000000) (disch:=omega) only [simx,zzC,zzB,tys,ite_self,opnL,callB,callX,readsB,stepOp,nilCmp,ofVal,opBuiltin,opLen,PV.sk,scalBin,scalUn,intBin,opLoad,natOf,opConvert,opField,cellsP,oneP,Value.oneCell',opStore,toIV,scalT,scalA,scalC,boxesA,boxesC,zipB_none,zipB_mx,isZ,opZip,zeroP,opAppendZ,opMakeMap,opLookup,mboxB,opUpdate,↓reduceIte,Nat.reduceSub,Nat.reduceEqDiff,Nat.reduceAdd,Nat.reduceMul,Nat.reduceLT,Nat.reduceLeDiff,Int.reduceToNat,Int.reduceLE,Int.reduceLT,Int.reduceNeg,reduceCtorEq,zzR,gos,Int.reduceAdd,Int.reduceSub,Int.reduceMul,Int.reduceEq])
def restB (u cols:List Int) (k q:Nat):Bool:=zerB (u.take q) && (!decide (0 ≤ badC u (cols.take k) 0) && !decide (u.getD q 0=0))
theorem rest_walk {rw0 cw:List Int} {cc uu:List (List Int)} {k q:Nat} {u:List Int} (h1:uu[k]?=some u) (h2:cw[k]?=some (q:Int)) (hu:u.length ≤ 64) (hq:q < u.length) (hk:k ≤ 64) (hc:∀ a ∈ cw.take k,0 ≤ a ∧ a < u.length) :
    CallsP Try.prog 87 [cupQ (rw0,cw,cc,uu),i64 k] (bl (restB u cw k q)):=by
  have g1:(uu.map fun u => IV.l u.length (u.map iu))[k]?=some (.l u.length (u.map iu)):=by rw [List.getElem?_map,h1]; rfl
  have g2:(cw.map ii)[k]?=some (ii (q:Int)):=by rw [List.getElem?_map,h2]; rfl
  have g3:(u.map iu)[q]?=some (iu (u.getD q 0)):=by rw [List.getElem?_map,getD_some rfl hq]; rfl
  have k1:k < uu.length:=by
    rcases Nat.lt_or_ge k uu.length with h|h
    · exact h
    · rw [List.getElem?_eq_none h] at h1; cases h1
  have k2:k < cw.length:=by
    rcases Nat.lt_or_ge k cw.length with h|h
    · exact h
    · rw [List.getElem?_eq_none h] at h2; cases h2
  have e1:(u.map iu).take q=(u.take q).map iu:=List.map_take.symm
  have e2:(cw.map ii).take k=(cw.take k).map ii:=List.map_take.symm
  have l1:(u.take q).length=q:=by rw [List.length_take]; omega
  have l2:(cw.take k).length=k:=by rw [List.length_take]; omega
  have q1:=containsR_walk (l:=u.take q) (by rw [mx_len]; omega)
  rw [show lu (u.take q)=.i (.l q ((u.take q).map iu)) by rw [lu,l1]] at q1
  have q2:=fun (base:Name) (h:Heap) (b:Name) (hb:h b=some (.var [lu u])) => containsC_walk (base:=base) (l:=cw.take k) (u:=u) (by rw [mx_len]; omega) hb hc
  rw [show li (cw.take k)=.i (.l k ((cw.take k).map ii)) by rw [li,l2]] at q2
  have kq1:k ≤ cw.length:=by omega
  have kq2:q ≤ u.length:=by omega
  unfold restB
  generalize zerB (u.take q)=z at q1 ⊢
  generalize decide (0 ≤ badC u (cw.take k) 0)=o at q2 ⊢
  generalize u.getD q 0=x at g3 ⊢
  have hx:∀ y:Bool,y=decide (x=0) → (x=0 ∧ y=true) ∨ (¬ x=0 ∧ y=false):=fun y hy => by
    by_cases h:x=0
    · exact .inl ⟨h,by rw [hy,decide_eq_true h]⟩
    · exact .inr ⟨h,by rw [hy,decide_eq_false h]⟩
  rcases hx _ rfl with ⟨hx0,hx1⟩|⟨hx0,hx1⟩ <;> rw [hx1] <;> clear hx hx1 <;> cases z <;> cases o <;> (
    refine X_startP (n:=42) (m:=2) (rs:=[.tmp 4]) Try.func87 rfl rfl rfl rfl (by decide) fun base => ?_
    repeat (first|((first|refine X_call_fn2 rfl (by simp only [tys]) ?_|refine X_dcall_fn2 rfl (by simp only [tys]) ?_); apply Exists.intro; apply And.intro; (focus (simp -dsimp only [simx,zzC,zzB,tys,ite_self,opnL,callB,callX,readsB,stepOp,nilCmp,ofVal,opBuiltin,opLen,PV.sk,scalBin,scalUn,intBin,opLoad,natOf,opConvert,opField,cellsP,oneP,Value.oneCell',opStore,toIV,scalT,scalA,scalC,boxesA,boxesC,zipB_none,zipB_mx,isZ,opZip,zeroP,opAppendZ,opMakeMap,opLookup,mboxB,opUpdate,↓reduceIte,Nat.reduceSub,Nat.reduceEqDiff,Nat.reduceAdd,Nat.reduceMul,Nat.reduceLT,Nat.reduceLeDiff,Int.reduceToNat,Int.reduceLE,Int.reduceLT,Int.reduceNeg,reduceCtorEq,zzL,if_true,if_false,e1,e2] <;> rfl)); apply Exists.intro; apply And.intro; (focus (first|exact q1)))|refine X_opc rfl ?_|refine X_dopc rfl ?_|refine ⟨(by show drawK _ _=true; kernel_rfl:drawX _ _ _),?_⟩|exact (by show drawK _ _=true; kernel_rfl:drawX _ _ _)|simp -dsimp (maxSteps:=20000000) (disch:=omega) only [simx,zzC,zzB,tys,ite_self,opnL,callB,callX,readsB,stepOp,nilCmp,ofVal,opBuiltin,opLen,PV.sk,scalBin,scalUn,intBin,opLoad,natOf,opConvert,opField,cellsP,oneP,Value.oneCell',opStore,toIV,scalT,scalA,scalC,boxesA,boxesC,zipB_none,zipB_mx,isZ,opZip,zeroP,opAppendZ,opMakeMap,opLookup,mboxB,opUpdate,↓reduceIte,Nat.reduceSub,Nat.reduceEqDiff,Nat.reduceAdd,Nat.reduceMul,Nat.reduceLT,Nat.reduceLeDiff,Int.reduceToNat,Int.reduceLE,Int.reduceLT,Int.reduceNeg,reduceCtorEq,gos,Int.reduceAdd,Int.reduceSub,Int.reduceMul,Int.reduceEq,g1,g2,e1,e2,k1,k2,kq1,kq2,Nat.zero_le,Nat.sub_zero,List.length_map])
    refine X_call_shared (q2 _ _ ((1,10)::base) (by simp [Heap.put_at])) rfl (by simp -dsimp only [callee_fn,simx,zzB,tys,ite_self,opnL,callB,callX,readsB,stepOp,nilCmp,ofVal,opBuiltin,opLen,PV.sk,scalBin,scalUn,intBin,opLoad,natOf,opConvert,opField,cellsP,oneP,Value.oneCell',opStore,toIV,scalT,scalA,scalC,boxesA,boxesC,zipB_none,zipB_mx,isZ,opZip,zeroP,opAppendZ,opMakeMap,opLookup,mboxB,opUpdate,↓reduceIte,Nat.reduceSub,Nat.reduceEqDiff,Nat.reduceAdd,Nat.reduceMul,Nat.reduceLT,Nat.reduceLeDiff,Int.reduceToNat,Int.reduceLE,Int.reduceLT,Int.reduceNeg,reduceCtorEq,gos,Int.reduceAdd,Int.reduceSub,Int.reduceMul,Int.reduceEq]) (by simp only [tys]) ?_
    repeat (first|refine X_opc rfl ?_|refine X_dopc rfl ?_|refine ⟨(by show drawK _ _=true; kernel_rfl:drawX _ _ _),?_⟩|exact (by show drawK _ _=true; kernel_rfl:drawX _ _ _)|simp -dsimp (maxSteps:=20000000) (disch:=omega) only [simx,zzC,zzB,tys,ite_self,opnL,callB,callX,readsB,stepOp,nilCmp,ofVal,opBuiltin,opLen,PV.sk,scalBin,scalUn,intBin,opLoad,natOf,opConvert,opField,cellsP,oneP,Value.oneCell',opStore,toIV,scalT,scalA,scalC,boxesA,boxesC,zipB_none,zipB_mx,isZ,opZip,zeroP,opAppendZ,opMakeMap,opLookup,mboxB,opUpdate,↓reduceIte,Nat.reduceSub,Nat.reduceEqDiff,Nat.reduceAdd,Nat.reduceMul,Nat.reduceLT,Nat.reduceLeDiff,Int.reduceToNat,Int.reduceLE,Int.reduceLT,Int.reduceNeg,reduceCtorEq,zzR,gos,Int.reduceAdd,Int.reduceSub,Int.reduceMul,Int.reduceEq,g3,hq,hx0,List.length_map,SK.len])
    try rfl)
end Go.Proofs.Ytmalpmnmknpphaa.TM
namespace Go.Proofs.Ytmalpmnmknpphaa.TM
open Go Go.RowKit
theorem CallsP.get {P:Program} {g:FuncId} {args:List PV} {v:PV} (h:CallsP P g args v) (base:Name):∃ u hu,CallR P base g args Heap.none u hu ∧ lowerT hu u=some v:=h base
end Go.Proofs.Ytmalpmnmknpphaa.TM
namespace Go.Proofs.Ytmalpmnmknpphaa.TM
open Go Go.RowKit
def part (cs:List IV) (q k:Nat):IV:=.l q ((cs.drop (k * q)).take q)
end Go.Proofs.Ytmalpmnmknpphaa.TM
