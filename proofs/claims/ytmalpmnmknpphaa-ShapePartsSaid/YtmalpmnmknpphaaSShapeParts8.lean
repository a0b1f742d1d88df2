/- What is proved of functions, and plain facts, part 8. Conditions: none. -/
import Derived.Test.YtmalpmnmknpphaaSShapeParts7
set_option linter.defProp false
set_option linter.unusedSectionVars false
set_option linter.unusedSimpArgs false
set_option linter.unusedVariables false
namespace Go.Proofs.Ytmalpmnmknpphaa.TM
open Go Go.RowKit
def rtH (base:Name) (R C i:Nat) (l:List Int) (T:Tk) (f:Nat → List Int):Heap :=
  rowH (rowH (rowH (rowsH base f i (fun c => if c=(1,0)::base then some (.var [rowP ((28,4)::base) 1 T.us.length (T.rows.map ii),rowP ((29,4)::base) 1 T.us.length (T.cols.map ii),clmP ((31,4)::base) i,rowP ((30,4)::base) 1 T.us.length (T.us.map (lv C))])
    else if c=(0,0)::base then some (mtB R C l) else if c=(0,1)::base then some (.var [nilP,nilP,nilP,nilP]) else if c=(31,4)::base then clmB i (crowsL base f i) else none))
    ((28,4)::base) T.us.length (T.rows.map ii)) ((29,4)::base) T.us.length (T.cols.map ii)) ((30,4)::base) T.us.length (T.us.map (lv C))
def junkT (base:Name):List Name:=[(5,0)::base,(17,18)::base,(19,2)::base,(27,1)::base,(28,3)::base,(29,3)::base,(30,3)::base,(31,3)::base] ++ (List.range 70).map fun m => (901,m)::base
theorem mem_junkT {base c:Name}:c ∈ junkT base ↔ c ∈ [(5,0)::base,(17,18)::base,(19,2)::base,(27,1)::base,(28,3)::base,(29,3)::base,(30,3)::base,(31,3)::base] ∨ ∃ m,m < 70 ∧ c=(901,m)::base:=by
  unfold junkT
  rw [List.mem_append]
  refine or_congr Iff.rfl ?_
  rw [List.mem_map]
  constructor
  · rintro ⟨m,h1,rfl⟩; exact ⟨m,List.mem_range.1 h1,rfl⟩
  · rintro ⟨m,h1,rfl⟩; exact ⟨m,List.mem_range.2 h1,rfl⟩
section
variable {base:Name} {R C i:Nat} {l:List Int} {T:Tk} {f:Nat → List Int}
theorem rtH_c:rtH base R C i l T f ((1,0)::base)=some (.var [rowP ((28,4)::base) 1 T.us.length (T.rows.map ii),rowP ((29,4)::base) 1 T.us.length (T.cols.map ii),clmP ((31,4)::base) i,rowP ((30,4)::base) 1 T.us.length (T.us.map (lv C))]):=by
  have ne1:∀ x:Nat × Nat,base ≠ x::base:=base_ne base
  have ne2:∀ x:Nat × Nat,x::base ≠ base:=fun x h => base_ne base x h.symm
  simp [rtH,rowH_app,rowsH,rowsX,ne1,ne2]
theorem rtH_m:rtH base R C i l T f ((0,0)::base)=some (.var [i64 R,i64 C,lu l]):=by
  have ne1:∀ x:Nat × Nat,base ≠ x::base:=base_ne base
  have ne2:∀ x:Nat × Nat,x::base ≠ base:=fun x h => base_ne base x h.symm
  simp [rtH,rowH_app,rowsH,rowsX,ne1,ne2,mtB]
theorem rtH_r:rtH base R C i l T f ((0,1)::base)=some (.var [nilP,nilP,nilP,nilP]):=by
  have ne1:∀ x:Nat × Nat,base ≠ x::base:=base_ne base
  have ne2:∀ x:Nat × Nat,x::base ≠ base:=fun x h => base_ne base x h.symm
  simp [rtH,rowH_app,rowsH,rowsX,ne1,ne2,mtB]
theorem rtH_rows:rtH base R C i l T f ((28,4)::base)=if T.us.length=0 then none else some (.row false (T.rows.map ii)):=by
  have ne1:∀ x:Nat × Nat,base ≠ x::base:=base_ne base
  have ne2:∀ x:Nat × Nat,x::base ≠ base:=fun x h => base_ne base x h.symm
  simp [rtH,rowH_app,rowsH,rowsX,ne1,ne2,mtB]
theorem rtH_cols:rtH base R C i l T f ((29,4)::base)=if T.us.length=0 then none else some (.row false (T.cols.map ii)):=by
  have ne1:∀ x:Nat × Nat,base ≠ x::base:=base_ne base
  have ne2:∀ x:Nat × Nat,x::base ≠ base:=fun x h => base_ne base x h.symm
  simp [rtH,rowH_app,rowsH,rowsX,ne1,ne2,mtB]
theorem rtH_us:rtH base R C i l T f ((30,4)::base)=if T.us.length=0 then none else some (.row false (T.us.map (lv C))):=by
  have ne1:∀ x:Nat × Nat,base ≠ x::base:=base_ne base
  have ne2:∀ x:Nat × Nat,x::base ≠ base:=fun x h => base_ne base x h.symm
  simp [rtH,rowH_app,rowsH,rowsX,ne1,ne2,mtB]
theorem rtH_col:rtH base R C i l T f ((31,4)::base)=clmB i (crowsL base f i):=by
  have ne1:∀ x:Nat × Nat,base ≠ x::base:=base_ne base
  have ne2:∀ x:Nat × Nat,x::base ≠ base:=fun x h => base_ne base x h.symm
  simp [rtH,rowH_app,rowsH,rowsX,ne1,ne2,mtB]
theorem rtH_none {a b:Nat} (h:(a=5 ∨ a=17 ∨ a=19 ∨ a=27 ∨ a=901) ∨ ((a=28 ∨ a=29 ∨ a=30 ∨ a=31) ∧ b=3)):rtH base R C i l T f ((a,b)::base)=none:=by
  have ne1:∀ x:Nat × Nat,base ≠ x::base:=base_ne base
  have ne2:∀ x:Nat × Nat,x::base ≠ base:=fun x h => base_ne base x h.symm
  rcases h with (rfl|rfl|rfl|rfl|rfl)|⟨rfl|rfl|rfl|rfl,rfl⟩ <;> simp [rtH,rowH_app,rowsH,rowsX,ne1,ne2,mtB]
theorem rtH_new:rtH base R C i l T f ((900,i)::base)=none:=by
  have ne1:∀ x:Nat × Nat,base ≠ x::base:=base_ne base
  have ne2:∀ x:Nat × Nat,x::base ≠ base:=fun x h => base_ne base x h.symm
  have h:rowsX base f i ((900,i)::base)=none:=rowsX_out (Nat.le_refl _)
  simp [rtH,rowH_app,rowsH,h,ne1,ne2,mtB]
theorem nv_rt {b:Name} (hb9:∀ k,b ≠ (900,k)::base) (n1:b ≠ (28,4)::base) (n2:b ≠ (29,4)::base) (n3:b ≠ (30,4)::base) (n4:b ≠ (31,4)::base):noVar b (rtH base R C i l T f):=by
  unfold rtH
  refine noVar_rowH (noVar_rowH (noVar_rowH (noVar_rowsH ?_)))
  intro c cs hc
  simp only [mtB] at hc
  split at hc
  · cases hc
    simp only [refsL,refsP,List.mem_append,mem_refs_rowP,mem_refs_clmP,List.not_mem_nil,or_false,not_or]
    simp [n1,n2,n3,n4]
  · split at hc
    · cases hc; simp [refsL,refsP]
    · split at hc
      · cases hc; simp [refsL,refsP,nilP]
      · split at hc
        · unfold clmB at hc
          split at hc
          · cases hc
          · cases hc
            intro h
            obtain ⟨k,hk⟩:=mem_rowsL h
            exact hb9 k hk
        · cases hc
end
def restH (base:Name) (H:Heap) (P:Int) (T:Tk) (row:List Int):Nat → Heap
  | 0 => H.put ((901,1)::base) (.row false (row.map iu))
  | k + 1 => (restH base H P T row k).put ((901,k + 2)::base) (.row false ((elR P T row (k + 1)).map iu))
section
variable {base:Name} {H:Heap} {P:Int} {T:Tk} {row:List Int}
theorem restH_ne {c:Name} (h:∀ m,c ≠ (901,m)::base):∀ k,restH base H P T row k c=H c
  | 0 => by rw [restH,Heap.put_at,if_neg (h 1)]
  | k + 1 => by rw [restH,Heap.put_at,if_neg (h _),restH_ne h k]
theorem restH_at:∀ k,restH base H P T row k ((901,k + 1)::base)=some (.row false ((elR P T row k).map iu))
  | 0 => by rw [restH,Heap.put_at,if_pos rfl]; rfl
  | k + 1 => by rw [restH,Heap.put_at,if_pos rfl]
theorem restH_none (h:∀ m,H ((901,m)::base)=none):∀ k m,k + 1 < m → restH base H P T row k ((901,m)::base)=none
  | 0,m,hm => by rw [restH,Heap.put_at,if_neg (by simp; omega)]; exact h m
  | k + 1,m,hm => by rw [restH,Heap.put_at,if_neg (by simp; omega)]; exact restH_none h k m (by omega)
theorem noVar_restH {b:Name} (h:noVar b H):∀ k,noVar b (restH base H P T row k)
  | 0 => noVar_row h
  | k + 1 => noVar_row (noVar_restH h k)
end
theorem rt_step {base : Name} {R C i : Nat} {l : List Int} {T T' : Tk} {f f' : Nat → List Int} {H : Heap} (hf : ∀ k, k < i → f' k = f k)
    (h1:H ((1,0)::base)=some (.var [rowP ((28,4)::base) 1 T'.us.length (T'.rows.map ii),rowP ((29,4)::base) 1 T'.us.length (T'.cols.map ii),clmP ((31,4)::base) (i + 1),rowP ((30,4)::base) 1 T'.us.length (T'.us.map (lv C))]))
    (h2:H ((28,4)::base)=if T'.us.length=0 then none else some (.row false (T'.rows.map ii))) (h3:H ((29,4)::base)=if T'.us.length=0 then none else some (.row false (T'.cols.map ii))) (h4:H ((30,4)::base)=if T'.us.length=0 then none else some (.row false (T'.us.map (lv C))))
    (h5:H ((31,4)::base)=some (.var (crowsL base f' (i + 1)))) (h6:H ((900,i)::base)=if (f' i).length=0 then none else some (.row false ((f' i).map iu)))
    (h7:∀ c,c ∉ junkT base → c ≠ (1,0)::base → c ≠ (28,4)::base → c ≠ (29,4)::base → c ≠ (30,4)::base → c ≠ (31,4)::base → c ≠ (900,i)::base → H c=rtH base R C i l T f c) :
    H.drop (junkT base)=rtH base R C (i + 1) l T' f':=by
  have ne1:∀ x:Nat × Nat,base ≠ x::base:=base_ne base
  have ne2:∀ x:Nat × Nat,x::base ≠ base:=fun x h => base_ne base x h.symm
  funext c
  rw [Heap.drop_at]
  split
  · rename_i hc
    rcases mem_junkT.1 hc with hc|⟨m,_,rfl⟩
    · simp only [List.mem_cons,List.not_mem_nil,or_false] at hc
      rcases hc with rfl|rfl|rfl|rfl|rfl|rfl|rfl|rfl <;> exact (rtH_none (by simp)).symm
    · exact (rtH_none (by simp)).symm
  · rename_i hc
    by_cases e1:c=(1,0)::base
    · subst e1; rw [h1,rtH_c]
    by_cases e2:c=(28,4)::base
    · subst e2; rw [h2,rtH_rows]
    by_cases e3:c=(29,4)::base
    · subst e3; rw [h3,rtH_cols]
    by_cases e4:c=(30,4)::base
    · subst e4; rw [h4,rtH_us]
    by_cases e5:c=(31,4)::base
    · subst e5; rw [h5,rtH_col]; rfl
    by_cases e6:c=(900,i)::base
    · subst e6
      rw [h6]
      by_cases hl:(f' i).length=0
      · rw [if_pos hl]
        simp [rtH,rowH_app,rowsH,rowsX_nil hl,ne1,ne2]
      · rw [if_neg hl]
        simp [rtH,rowH_app,rowsH,rowsX_at (Nat.lt_succ_self i) hl]
    · rw [h7 c hc e1 e2 e3 e4 e5 e6]
      unfold rtH
      simp only [rowH_app,rowsH,e1,e2,e3,e4,e5,if_false,ite_self]
      rw [show rowsX base f i c=rowsX base f' (i + 1) c by
        unfold rowsX
        split
        · rename_i k d
          by_cases hd:d=base
          · subst hd
            have hki:k ≠ i:=fun h => e6 (by rw [h])
            by_cases hk:k < i
            · rw [hf k hk]
              have:k < i + 1:=by omega
              simp only [hk,this]
            · rw [if_neg (by omega),if_neg (by omega)]
          · rw [if_neg (fun h => hd h.1),if_neg (fun h => hd h.1)]
        · rfl]
theorem restH_out {base:Name} {H:Heap} {P:Int} {T:Tk} {row:List Int} {c:Name} (h:c ∉ junkT base):∀ {k:Nat},k ≤ 64 → restH base H P T row k c=H c
  | 0,_ => by
    rw [restH,Heap.put_at,if_neg]
    rintro rfl
    exact h (mem_junkT.2 (.inr ⟨1,by omega,rfl⟩))
  | k + 1,hk => by
    rw [restH,Heap.put_at,if_neg,restH_out h (by omega)]
    rintro rfl
    exact h (mem_junkT.2 (.inr ⟨k + 2,by omega,rfl⟩))
theorem rtH_upd {base:Name} {R C i:Nat} {l:List Int} {T:Tk} {f g:Nat → List Int} (hi:i < R) (hg:∀ m,m ≠ i → g m=f m) (hx:(g i).length ≠ 0) :
    ((rtH base R C R l T f).put ((900,i)::base) (.row false ((g i).map iu))).put ((31,4)::base) (.var (crowsL base g R))=rtH base R C R l T g:=by
  have ne1:∀ x:Nat × Nat,base ≠ x::base:=base_ne base
  have ne2:∀ x:Nat × Nat,x::base ≠ base:=fun x h => base_ne base x h.symm
  funext c
  unfold rtH
  simp only [Heap.put_at,rowH_app,rowsH]
  by_cases e1:c=(31,4)::base
  · subst e1
    simp [rowsX,clmB,mtB,ne1,ne2]; omega
  by_cases e2:c=(900,i)::base
  · subst e2
    rw [rowsX_at hi hx]
    simp
  simp only [e1,e2,if_false]
  rw [rowsX_ne (i:=i) (g:=g) (m:=R) e2 (fun k hk => (hg k hk).symm) (fun _ _ => Iff.rfl)]
structure RtHp (h:Heap) (base:Name) (R C:Nat) (T:Tk):Prop where
  r:T.us.length ≠ 0 → h ((28,4)::base)=some (.row false (T.rows.map ii))
  q:T.us.length ≠ 0 → h ((29,4)::base)=some (.row false (T.cols.map ii))
  u:T.us.length ≠ 0 → h ((30,4)::base)=some (.row false (T.us.map (lv C)))
  c:h ((31,4)::base)=some (.var (crowsL base (fP T R 0) R))
  f:∀ k,k < R → (fP T R 0 k).length ≠ 0 → h ((900,k)::base)=some (.row false ((fP T R 0 k).map iu))
end Go.Proofs.Ytmalpmnmknpphaa.TM
namespace Go.Proofs.Ytmalpmnmknpphaa.TM
open Go Go.RowKit
attribute [local irreducible] K W WOps Effs Xg Xo Xr Xdg Xdo Xdr Xif CallsP CallR
theorem rtH_zero {base:Name} {R C:Nat} {l:List Int} {f:Nat → List Int}:((Heap.none.put ((0,0)::base) (.var [i64 R,i64 C,lu l])).put ((0,1)::base) (.var [nilP,nilP,nilP,nilP])).put ((1,0)::base) (.var [nilP,nilP,nilP,nilP])=rtH base R C 0 l ⟨[],[],[],[],[]⟩ f:=by
  have ne1:∀ x:Nat × Nat,base ≠ x::base:=base_ne base
  have ne2:∀ x:Nat × Nat,x::base ≠ base:=fun x h => base_ne base x h.symm
  funext c
  have hz:rowsX base f 0 c=none:=rowsX_zero _ _ _
  simp only [rtH,rowH_app,rowsH,hz,Heap.put_at,Heap.none_at,List.length_nil,if_true,rowP_zero,clmP_zero,mtB,clmB]
  by_cases e0:c=(1,0)::base
  · simp [e0]
  by_cases e1:c=(0,0)::base
  · subst e1; simp
  by_cases e2:c=(0,1)::base
  · subst e2; simp
  simp [e0,e1,e2]
theorem Inv1_in {P:Nat} (hP:Prm P) (hp:Md P) {a:Int} (h:In P a) (h0:a ≠ 0):CallsP Try.prog 90 [u64 P,u64 a] (.tup [u64 (finvC P a),i64 0]):=by
  obtain ⟨r,hr,hc⟩:=rinv_walk P a hp h
  rw [invR,if_pos (prm_gcd hP h h0)] at hr
  subst hr
  rw [← finv_c]
  exact hc
theorem nzA_at {l:List Int} {j:Nat} (h:j < l.length) (h0:l.getD j 0 ≠ 0) (hz:∀ q,q < j → l.getD q 0=0):nzA l 0=(j:Int):=by
  rcases nzA_spec l 0 with ⟨_,h2⟩|⟨n,h1,h2,h3,h4⟩
  · exact absurd (h2 _ (getD_mm h)) h0
  · have:n=j:=by
      by_cases a:n < j
      · exact absurd (hz n a) h3
      · by_cases b:j < n
        · exact absurd (h4 j b) h0
        · omega
    rw [h1,this]; simp
theorem nzA_no {l:List Int} (hz:∀ q,q < l.length → l.getD q 0=0):nzA l 0 < 0:=by
  rcases nzA_spec l 0 with ⟨h1,_⟩|⟨n,h1,h2,h3,h4⟩
  · omega
  · exact absurd (hz n h2) h3
theorem junkT_ne {base c:Name} (h:c ∉ junkT base):c ≠ (27,1)::base ∧ c ≠ (28,3)::base ∧ c ≠ (29,3)::base ∧ c ≠ (30,3)::base ∧ c ≠ (31,3)::base :=
  ⟨fun e => h (e ▸ mem_junkT.2 (.inl (by simp))),fun e => h (e ▸ mem_junkT.2 (.inl (by simp))),fun e => h (e ▸ mem_junkT.2 (.inl (by simp))),fun e => h (e ▸ mem_junkT.2 (.inl (by simp))),fun e => h (e ▸ mem_junkT.2 (.inl (by simp)))⟩
set_option maxHeartbeats 16000000 in
theorem rtake_run {P R C:Nat} {l:List Int} (hP:Prm P) (M:Mt P R C l) (hin:∀ a ∈ l,In P a) (base:Name):∃ hu,CallR Try.prog base 41 [u64 P,matP R C l] Heap.none (.tup [.agg [rowP ((28,4)::base) 1 (tkN P C l R).us.length ((tkN P C l R).rows.map ii),rowP ((29,4)::base) 1 (tkN P C l R).us.length ((tkN P C l R).cols.map ii),clmP ((31,4)::base) R,rowP ((30,4)::base) 1 (tkN P C l R).us.length ((tkN P C l R).us.map (lv C))],i64 0]) hu ∧ RtHp hu base R C (tkN P C l R):=by
  have r1:=M.r1
  have r2:=M.r2
  have c1:=M.c1
  have c2:=M.c2
  have ml:=M.len
  refine X_startE (n:=189) (m:=2) (rs:=[.cell 4 55,.tmp 5]) Try.func41 rfl rfl rfl rfl (by decide) ?_
  have ne1:∀ x:Nat × Nat,base ≠ x::base:=base_ne base
  have ne2:∀ x:Nat × Nat,x::base ≠ base:=fun x h => base_ne base x h.symm
  repeat (first|refine X_opc rfl ?_|refine X_dopc rfl ?_|refine ⟨(by show drawK _ _=true; kernel_rfl:drawX _ _ _),?_⟩|exact (by show drawK _ _=true; kernel_rfl:drawX _ _ _)|simp -dsimp (maxSteps:=20000000) (disch:=omega) only [simx,zzC,zzB,tys,ite_self,opnL,callB,callX,readsB,stepOp,nilCmp,ofVal,opBuiltin,opLen,PV.sk,scalBin,scalUn,intBin,opLoad,natOf,opConvert,opField,cellsP,oneP,Value.oneCell',opStore,toIV,scalT,scalA,scalC,boxesA,boxesC,zipB_none,zipB_mx,isZ,opZip,zeroP,opAppendZ,opMakeMap,opLookup,mboxB,opUpdate,↓reduceIte,Nat.reduceSub,Nat.reduceEqDiff,Nat.reduceAdd,Nat.reduceMul,Nat.reduceLT,Nat.reduceLeDiff,Int.reduceToNat,Int.reduceLE,Int.reduceLT,Int.reduceNeg,reduceCtorEq,gos,Int.reduceAdd,Int.reduceSub,Int.reduceMul,Int.reduceEq])
  refine X_loopH [0,3,4,6,7] (junkT base) 0 R (fun _ => True) (fun j => [(7,i64 j)]) (fun j => rtH base R C j l (tkN P C l j) (csF (tkN P C l j))) ?_ ?_ ?_ ?_ ?_ (by decide) ?_
  · refine fgt_mk (h':=rtH base R C 0 l (tkN P C l 0) (csF (tkN P C l 0))) ?_ (fun b _ => rfl) ?_ ?_
    · rw [show tkN (P:Int) C l 0=⟨[],[],[],[],[]⟩ from rfl,← rtH_zero]
      funext c
      rw [Heap.drop_at]
      split
      · rename_i hc
        rcases mem_junkT.1 hc with hc|⟨m,_,rfl⟩
        · simp only [List.mem_cons,List.not_mem_nil,or_false] at hc
          rcases hc with rfl|rfl|rfl|rfl|rfl|rfl|rfl|rfl <;> simp [Heap.put_at,Heap.none_at]
        · simp [Heap.put_at,Heap.none_at]
      · rfl
    · intro b hb
      rcases mem_junkT.1 hb with hb|⟨m,_,rfl⟩
      · simp only [List.mem_cons,List.not_mem_nil,or_false] at hb
        rcases hb with rfl|rfl|rfl|rfl|rfl|rfl|rfl|rfl <;> (simp -dsimp only [zzB,tys,ite_self,opnL,callB,callX,readsB,stepOp,nilCmp,ofVal,opBuiltin,opLen,PV.sk,scalBin,scalUn,intBin,opLoad,natOf,opConvert,opField,cellsP,oneP,Value.oneCell',opStore,toIV,scalT,scalA,scalC,boxesA,boxesC,zipB_none,zipB_mx,isZ,opZip,zeroP,opAppendZ,opMakeMap,opLookup,mboxB,opUpdate,↓reduceIte,Nat.reduceSub,Nat.reduceEqDiff,Nat.reduceAdd,Nat.reduceMul,Nat.reduceLT,Nat.reduceLeDiff,Int.reduceToNat,Int.reduceLE,Int.reduceLT,Int.reduceNeg,reduceCtorEq,gos,Int.reduceAdd,Int.reduceSub,Int.reduceMul,Int.reduceEq,simx,notIn_cons,notIn_nil]; simp [refsP,ne1,ne2])
      · simp -dsimp only [zzB,tys,ite_self,opnL,callB,callX,readsB,stepOp,nilCmp,ofVal,opBuiltin,opLen,PV.sk,scalBin,scalUn,intBin,opLoad,natOf,opConvert,opField,cellsP,oneP,Value.oneCell',opStore,toIV,scalT,scalA,scalC,boxesA,boxesC,zipB_none,zipB_mx,isZ,opZip,zeroP,opAppendZ,opMakeMap,opLookup,mboxB,opUpdate,↓reduceIte,Nat.reduceSub,Nat.reduceEqDiff,Nat.reduceAdd,Nat.reduceMul,Nat.reduceLT,Nat.reduceLeDiff,Int.reduceToNat,Int.reduceLE,Int.reduceLT,Int.reduceNeg,reduceCtorEq,gos,Int.reduceAdd,Int.reduceSub,Int.reduceMul,Int.reduceEq,simx,notIn_cons,notIn_nil]; simp [refsP,ne1,ne2]
    · intro b hb
      rcases mem_junkT.1 hb with hb|⟨m,_,rfl⟩
      · simp only [List.mem_cons,List.not_mem_nil,or_false] at hb
        rcases hb with rfl|rfl|rfl|rfl|rfl|rfl|rfl|rfl <;> exact nv_rt (by simp [ne1,ne2]) (by simp [ne1,ne2]) (by simp [ne1,ne2]) (by simp [ne1,ne2]) (by simp [ne1,ne2])
      · exact nv_rt (by simp [ne1,ne2]) (by simp [ne1,ne2]) (by simp [ne1,ne2]) (by simp [ne1,ne2]) (by simp [ne1,ne2])
  · ((simp -dsimp (disch:=omega) only [simx,zzB,tys,ite_self,opnL,callB,callX,readsB,stepOp,nilCmp,ofVal,opBuiltin,opLen,PV.sk,scalBin,scalUn,intBin,opLoad,natOf,opConvert,opField,cellsP,oneP,Value.oneCell',opStore,toIV,scalT,scalA,scalC,boxesA,boxesC,zipB_none,zipB_mx,isZ,opZip,zeroP,opAppendZ,opMakeMap,opLookup,mboxB,opUpdate,↓reduceIte,Nat.reduceSub,Nat.reduceEqDiff,Nat.reduceAdd,Nat.reduceMul,Nat.reduceLT,Nat.reduceLeDiff,Int.reduceToNat,Int.reduceLE,Int.reduceLT,Int.reduceNeg,reduceCtorEq,gos,Int.reduceAdd,Int.reduceSub,Int.reduceMul,Int.reduceEq]) <;> first|rfl|simp)
  · rw [show tkN (P:Int) C l 0=⟨[],[],[],[],[]⟩ from rfl,← rtH_zero]
    funext c
    rw [Heap.drop_at]
    split
    · rename_i hc
      rcases mem_junkT.1 hc with hc|⟨m,_,rfl⟩
      · simp only [List.mem_cons,List.not_mem_nil,or_false] at hc
        rcases hc with rfl|rfl|rfl|rfl|rfl|rfl|rfl|rfl <;> simp [Heap.put_at,Heap.none_at]
      · simp [Heap.put_at,Heap.none_at]
    · rfl
  · omega
  · trivial
  · intro i hi _
    have I:=tkN_I hP M hin i hi
    have TC:=tkN_C hP M.hp M.len hin i hi
    have hp:=M.hp
    by_cases ci:i < R
    · have b1:=ic_bd (c:=C) ci
      have b2:=rc_bd r2 c2
      have rl:=rowM_len M.len ci
      have m1:(i + 1) * C=i * C + C:=Nat.succ_mul i C
      have f1:IntKind.i64.wrap ((i:Int) * (C:Int))=((i * C:Nat):Int):=by rw [← Int.natCast_mul]; exact iw_of (by omega) (by omega)
      have f2:IntKind.i64.wrap (((i:Int) + 1) * (C:Int))=((i * C + C:Nat):Int):=by
        rw [show ((i:Int) + 1) * (C:Int)=((i * C + C:Nat):Int) by rw [← m1]; push_cast; rfl]; exact iw_of (by omega) (by omega)
      have f3:i * C + C - i * C=C:=by omega
      have f4:((l.map iu).drop (i * C)).take C=(rowM C l i).map iu:=by unfold rowM; rw [List.map_take,List.map_drop]
      have f5:i * C ≤ i * C + C:=by omega
      have f6:i * C + C ≤ l.length:=by omega
      have rin:∀ a ∈ rowM C l i,In P a:=fun a ha => hin a (rowM_mem ha)
      have tn:tkN (P:Int) C l (i + 1)=tkRow P (tkN P C l i) i (rowM C l i):=rfl
      have k0:=rtH_m (base:=base) (R:=R) (C:=C) (i:=i) (l:=l) (T:=tkN P C l i) (f:=csF (tkN P C l i))
      have kc:=rtH_c (base:=base) (R:=R) (C:=C) (i:=i) (l:=l) (T:=tkN P C l i) (f:=csF (tkN P C l i))
      have kn:∀ m,rtH base R C i l (tkN P C l i) (csF (tkN P C l i)) ((901,m)::base)=none:=fun m => rtH_none (by simp)
      have kt:∀ a b,((a=5 ∨ a=17 ∨ a=19 ∨ a=27 ∨ a=901) ∨ ((a=28 ∨ a=29 ∨ a=30 ∨ a=31) ∧ b=3)) → rtH base R C i l (tkN P C l i) (csF (tkN P C l i)) ((a,b)::base)=none:=fun a b h => rtH_none h
      have kQ:=rtH_cols (base:=base) (R:=R) (C:=C) (i:=i) (l:=l) (T:=tkN P C l i) (f:=csF (tkN P C l i))
      have kU:=rtH_us (base:=base) (R:=R) (C:=C) (i:=i) (l:=l) (T:=tkN P C l i) (f:=csF (tkN P C l i))
      have kR:=rtH_rows (base:=base) (R:=R) (C:=C) (i:=i) (l:=l) (T:=tkN P C l i) (f:=csF (tkN P C l i))
      have kC:=rtH_col (base:=base) (R:=R) (C:=C) (i:=i) (l:=l) (T:=tkN P C l i) (f:=csF (tkN P C l i))
      have kr:=rtH_r (base:=base) (R:=R) (C:=C) (i:=i) (l:=l) (T:=tkN P C l i) (f:=csF (tkN P C l i))
      have k9:=rtH_new (base:=base) (R:=R) (C:=C) (i:=i) (l:=l) (T:=tkN P C l i) (f:=csF (tkN P C l i))
      have nvH:∀ x:Nat × Nat,x.1 ≠ 900 → x ≠ (28,4) → x ≠ (29,4) → x ≠ (30,4) → x ≠ (31,4) → noVar (x::base) (rtH base R C i l (tkN P C l i) (csF (tkN P C l i))):=fun x h1 h2 h3 h4 h5 => nv_rt (fun k e => h1 (by simp at e; rw [e])) (by simpa using h2) (by simpa using h3) (by simpa using h4) (by simpa using h5)
      generalize hT:tkN (P:Int) C l i=T at *
      generalize hrow:rowM C l i=row at *
      generalize hHi:rtH base R C i l T (csF T)=H at k0 kc kn kt kQ kU kR kC kr k9 nvH ⊢
      repeat (first|refine ⟨(by show drawK _ _=true; kernel_rfl:drawX _ _ _),?_⟩|exact (by show drawK _ _=true; kernel_rfl:drawX _ _ _)|simp -dsimp (maxSteps:=20000000) (disch:=omega) only [simx,zzC,zzB,tys,ite_self,opnL,callB,callX,readsB,stepOp,nilCmp,ofVal,opBuiltin,opLen,PV.sk,scalBin,scalUn,intBin,opLoad,natOf,opConvert,opField,cellsP,oneP,Value.oneCell',opStore,toIV,scalT,scalA,scalC,boxesA,boxesC,zipB_none,zipB_mx,isZ,opZip,zeroP,opAppendZ,opMakeMap,opLookup,mboxB,opUpdate,↓reduceIte,Nat.reduceSub,Nat.reduceEqDiff,Nat.reduceAdd,Nat.reduceMul,Nat.reduceLT,Nat.reduceLeDiff,Int.reduceToNat,Int.reduceLE,Int.reduceLT,Int.reduceNeg,reduceCtorEq,gos,Int.reduceAdd,Int.reduceSub,Int.reduceMul,Int.reduceEq,ci,k0,f1,f2,f3,f4,f5,f6,List.length_map,SK.len])
      refine X_opn ((901,1)::base) rfl ?_
      repeat (first|refine ⟨(by show drawK _ _=true; kernel_rfl:drawX _ _ _),?_⟩|exact (by show drawK _ _=true; kernel_rfl:drawX _ _ _)|simp -dsimp (maxSteps:=20000000) (disch:=omega) only [simx,zzC,zzB,tys,ite_self,opnL,callB,callX,readsB,stepOp,nilCmp,ofVal,opBuiltin,opLen,PV.sk,scalBin,scalUn,intBin,opLoad,natOf,opConvert,opField,cellsP,oneP,Value.oneCell',opStore,toIV,scalT,scalA,scalC,boxesA,boxesC,zipB_none,zipB_mx,isZ,opZip,zeroP,opAppendZ,opMakeMap,opLookup,mboxB,opUpdate,↓reduceIte,Nat.reduceSub,Nat.reduceEqDiff,Nat.reduceAdd,Nat.reduceMul,Nat.reduceLT,Nat.reduceLeDiff,Int.reduceToNat,Int.reduceLE,Int.reduceLT,Int.reduceNeg,reduceCtorEq,gos,Int.reduceAdd,Int.reduceSub,Int.reduceMul,Int.reduceEq,ci,kn,k0,f1,f2,f3,f4,f5,f6,List.length_map,SK.len])
      refine X_opc rfl ?_
      repeat (first|refine ⟨(by show drawK _ _=true; kernel_rfl:drawX _ _ _),?_⟩|exact (by show drawK _ _=true; kernel_rfl:drawX _ _ _)|simp -dsimp (maxSteps:=20000000) (disch:=omega) only [simx,zzC,zzB,tys,ite_self,opnL,callB,callX,readsB,stepOp,nilCmp,ofVal,opBuiltin,opLen,PV.sk,scalBin,scalUn,intBin,opLoad,natOf,opConvert,opField,cellsP,oneP,Value.oneCell',opStore,toIV,scalT,scalA,scalC,boxesA,boxesC,zipB_none,zipB_mx,isZ,opZip,zeroP,opAppendZ,opMakeMap,opLookup,mboxB,opUpdate,↓reduceIte,Nat.reduceSub,Nat.reduceEqDiff,Nat.reduceAdd,Nat.reduceMul,Nat.reduceLT,Nat.reduceLeDiff,Int.reduceToNat,Int.reduceLE,Int.reduceLT,Int.reduceNeg,reduceCtorEq,gos,Int.reduceAdd,Int.reduceSub,Int.reduceMul,Int.reduceEq])
      refine X_app_full (cs:=[]) 22 [.int .u64 0] (row.map iu) (by simp only [tys]) (by simp only [tys]) rfl (by simp [Heap.put_at]) rfl (by omega) (by rw [List.length_map,rl]) (by simp only [tys]; omega) (by rw [mx_len]; omega) ?_
      repeat (first|refine X_opc rfl ?_|refine X_dopc rfl ?_|refine ⟨(by show drawK _ _=true; kernel_rfl:drawX _ _ _),?_⟩|exact (by show drawK _ _=true; kernel_rfl:drawX _ _ _)|simp -dsimp (maxSteps:=20000000) (disch:=omega) only [simx,zzC,zzB,tys,ite_self,opnL,callB,callX,readsB,stepOp,nilCmp,ofVal,opBuiltin,opLen,PV.sk,scalBin,scalUn,intBin,opLoad,natOf,opConvert,opField,cellsP,oneP,Value.oneCell',opStore,toIV,scalT,scalA,scalC,boxesA,boxesC,zipB_none,zipB_mx,isZ,opZip,zeroP,opAppendZ,opMakeMap,opLookup,mboxB,opUpdate,↓reduceIte,Nat.reduceSub,Nat.reduceEqDiff,Nat.reduceAdd,Nat.reduceMul,Nat.reduceLT,Nat.reduceLeDiff,Int.reduceToNat,Int.reduceLE,Int.reduceLT,Int.reduceNeg,reduceCtorEq,gos,Int.reduceAdd,Int.reduceSub,Int.reduceMul,Int.reduceEq,Nat.zero_add,List.nil_append])
      have rb:T.us.length ≤ 64:=by have:=I.ri; omega
      refine X_loopH [0,3,4,6,7,8,9,10] [(17,18)::base,(19,2)::base] 0 T.us.length (fun _ => True) (fun k => [(8,.view ((901,k + 1)::base) 0 1 C C),(9,rowP ((900,i)::base) 1 k ((tbl k (elX P T row)).map iu)),(10,i64 k)]) (fun k => rowH (restH base H P T row k) ((900,i)::base) k ((tbl k (elX P T row)).map iu)) ?_ ?_ ?_ ?_ ?_ (by decide) ?_
      · exact fgt_cons rfl (by simp -dsimp only [zzB,tys,ite_self,opnL,callB,callX,readsB,stepOp,nilCmp,ofVal,opBuiltin,opLen,PV.sk,scalBin,scalUn,intBin,opLoad,natOf,opConvert,opField,cellsP,oneP,Value.oneCell',opStore,toIV,scalT,scalA,scalC,boxesA,boxesC,zipB_none,zipB_mx,isZ,opZip,zeroP,opAppendZ,opMakeMap,opLookup,mboxB,opUpdate,↓reduceIte,Nat.reduceSub,Nat.reduceEqDiff,Nat.reduceAdd,Nat.reduceMul,Nat.reduceLT,Nat.reduceLeDiff,Int.reduceToNat,Int.reduceLE,Int.reduceLT,Int.reduceNeg,reduceCtorEq,gos,Int.reduceAdd,Int.reduceSub,Int.reduceMul,Int.reduceEq,simx,notIn_cons,notIn_nil]; simp [refsP,ne1,ne2]) (noVar_row (noVar_row (nvH _ (by decide) (by decide) (by decide) (by decide) (by decide)))) (fgt_cons rfl (by simp -dsimp only [zzB,tys,ite_self,opnL,callB,callX,readsB,stepOp,nilCmp,ofVal,opBuiltin,opLen,PV.sk,scalBin,scalUn,intBin,opLoad,natOf,opConvert,opField,cellsP,oneP,Value.oneCell',opStore,toIV,scalT,scalA,scalC,boxesA,boxesC,zipB_none,zipB_mx,isZ,opZip,zeroP,opAppendZ,opMakeMap,opLookup,mboxB,opUpdate,↓reduceIte,Nat.reduceSub,Nat.reduceEqDiff,Nat.reduceAdd,Nat.reduceMul,Nat.reduceLT,Nat.reduceLeDiff,Int.reduceToNat,Int.reduceLE,Int.reduceLT,Int.reduceNeg,reduceCtorEq,gos,Int.reduceAdd,Int.reduceSub,Int.reduceMul,Int.reduceEq,simx,notIn_cons,notIn_nil]; simp [refsP,ne1,ne2]) (noVar_row (noVar_row (nvH _ (by decide) (by decide) (by decide) (by decide) (by decide)))) fgt_nil)
      · ((simp -dsimp (disch:=omega) only [simx,zzB,tys,ite_self,opnL,callB,callX,readsB,stepOp,nilCmp,ofVal,opBuiltin,opLen,PV.sk,scalBin,scalUn,intBin,opLoad,natOf,opConvert,opField,cellsP,oneP,Value.oneCell',opStore,toIV,scalT,scalA,scalC,boxesA,boxesC,zipB_none,zipB_mx,isZ,opZip,zeroP,opAppendZ,opMakeMap,opLookup,mboxB,opUpdate,↓reduceIte,Nat.reduceSub,Nat.reduceEqDiff,Nat.reduceAdd,Nat.reduceMul,Nat.reduceLT,Nat.reduceLeDiff,Int.reduceToNat,Int.reduceLE,Int.reduceLT,Int.reduceNeg,reduceCtorEq,gos,Int.reduceAdd,Int.reduceSub,Int.reduceMul,Int.reduceEq]) <;> first|rfl|simp [rowP_zero])
      · have t1:=kt 17 18 (by simp)
        have t2:=kt 19 2 (by simp)
        rw [rowH_zero,restH]
        funext c
        simp (maxSteps:=20000000) only [Heap.drop_at,rowH_app,Heap.put_at,Heap.none_at,List.mem_cons,List.not_mem_nil,or_false]
        by_cases e0:c=(17,18)::base
        · subst e0; simp [t1,t2]
        by_cases e1:c=(19,2)::base
        · subst e1; simp [t1,t2]
        by_cases e2:c=(901,1)::base
        · subst e2; simp [t1,t2]
        simp [e0,e1,e2,t1,t2]
      · omega
      · trivial
      · intro k hk _
        by_cases ck:k < T.us.length
        · have ql:=I.ql
          have hq:=I.qb (T.cols.getD k 0) (getD_mm (by omega))
          obtain ⟨q,hqe⟩:∃ q:Nat,T.cols.getD k 0=q:=⟨(T.cols.getD k 0).toNat,by omega⟩
          have qC:q < C:=by omega
          obtain ⟨u1,u2⟩:=I.ul (T.us.getD k []) (getD_mm ck)
          have el:=elR_len P T row k
          rw [rl] at el
          have ei:=elR_in hp T rin k
          have r0:¬ T.us.length=0:=by omega
          have iv:=TC.inv k ck
          have xk:elX P T row k=(elR P T row k).getD q 0 * T.vs.getD k 0 % P:=by unfold elX; rw [hqe,Int.toNat_natCast]
          have uq:uF T k (cwF T k)=(T.us.getD k []).getD q 0:=by unfold uF cwF; rw [hqe,Int.toNat_natCast]
          rw [uq] at iv
          have vi:In P (vF T k):=getD_of I.vb (by rw [I.vl]; exact ck)
          have u0:(T.us.getD k []).getD q 0 ≠ 0:=fun e => by rw [e,Int.zero_mul,Int.zero_emod] at iv; cases iv
          have n1:=Inv1_in hP hp (getD_of u2 (i:=q) (by omega)) u0
          rw [← finv_c,finv_spec vi iv,show vF T k=T.vs.getD k 0 from rfl] at n1
          have n2:=rmul_walk' P ((elR P T row k).getD q 0) (T.vs.getD k 0) hp (getD_of ei (by omega)) (in_w64 hp vi)
          rw [← xk] at n2
          have g1:(T.us.map (lv C))[k]?=some (.l C ((T.us.getD k []).map iu)):=by rw [List.getElem?_map,getD_at' (d:=[]) ck]; rfl
          have g2:(T.cols.map ii)[k]?=some (ii (q:Int)):=by rw [List.getElem?_map,getD_at' (d:=0) (by omega),Option.map_some,hqe]
          have g3:((T.us.getD k []).map iu)[q]?=some (iu ((T.us.getD k []).getD q 0)):=by rw [List.getElem?_map,getD_some u1 qC]; rfl
          have g4:((elR P T row k).map iu)[q]?=some (iu ((elR P T row k).getD q 0)):=by rw [List.getElem?_map,getD_some el qC]; rfl
          have kQ':=kQ
          have kU':=kU
          rw [if_neg r0] at kQ' kU'
          have rpQ:rowP ((29,4)::base) 1 T.us.length (T.cols.map ii)=.view ((29,4)::base) 0 1 T.us.length T.us.length:=by unfold rowP; rw [if_neg r0,List.length_map,ql]
          have rpU:rowP ((30,4)::base) 1 T.us.length (T.us.map (lv C))=.view ((30,4)::base) 0 1 T.us.length T.us.length:=by unfold rowP; rw [if_neg r0,List.length_map]
          have kc':=kc
          rw [rpQ,rpU] at kc'
          have at':∀ a b,a ≠ 901 → (a,b) ≠ (900,i) → rowH (restH base H P T row k) ((900,i)::base) k ((tbl k (elX P T row)).map iu) ((a,b)::base)=H ((a,b)::base):=fun a b h1 h2 => by
            rw [rowH_ne _ _ _ (by simpa using h2),restH_ne (fun m => by simp [h1])]
          have e1:=(at' 1 0 (by decide) (by simp)).trans kc'
          have e2:=(at' 0 0 (by decide) (by simp)).trans k0
          have e3:=(at' 29 4 (by decide) (by simp)).trans kQ'
          have e4:=(at' 30 4 (by decide) (by simp)).trans kU'
          have e5:=(at' 17 18 (by decide) (by simp)).trans (kt 17 18 (by simp))
          have e6:=(at' 19 2 (by decide) (by simp)).trans (kt 19 2 (by simp))
          have e7:rowH (restH base H P T row k) ((900,i)::base) k ((tbl k (elX P T row)).map iu) ((901,k + 1)::base)=some (.row false ((elR P T row k).map iu)):=by
            rw [rowH_ne _ _ _ (by simp),restH_at]
          have e8:rowH (restH base H P T row k) ((900,i)::base) k ((tbl k (elX P T row)).map iu) ((901,k + 2)::base)=none:=by
            rw [rowH_ne _ _ _ (by simp),restH_none kn k _ (by omega)]
          have e9:restH base H P T row k ((900,i)::base)=none:=by rw [restH_ne (by simp)]; exact k9
          have e10:rowH (restH base H P T row k) ((900,i)::base) k ((tbl k (elX P T row)).map iu) ((900,i)::base)=if k=0 then none else some (.row false ((tbl k (elX P T row)).map iu)):=by rw [rowH_app,e9]; simp
          have nv1:noVar ((17,18)::base) (rowH (restH base H P T row k) ((900,i)::base) k ((tbl k (elX P T row)).map iu)):=noVar_rowH (noVar_restH (nvH _ (by decide) (by decide) (by decide) (by decide) (by decide)) k)
          have nv2:noVar ((19,2)::base) (rowH (restH base H P T row k) ((900,i)::base) k ((tbl k (elX P T row)).map iu)):=noVar_rowH (noVar_restH (nvH _ (by decide) (by decide) (by decide) (by decide) (by decide)) k)
          generalize hHH:rowH (restH base H P T row k) ((900,i)::base) k ((tbl k (elX P T row)).map iu)=HH at e1 e2 e3 e4 e5 e6 e7 e8 e10 nv1 nv2 ⊢
          repeat (first|((first|refine X_call_fn2 rfl (by simp only [tys]) ?_|refine X_dcall_fn2 rfl (by simp only [tys]) ?_); apply Exists.intro; apply And.intro; (focus (simp -dsimp only [simx,zzC,zzB,tys,ite_self,opnL,callB,callX,readsB,stepOp,nilCmp,ofVal,opBuiltin,opLen,PV.sk,scalBin,scalUn,intBin,opLoad,natOf,opConvert,opField,cellsP,oneP,Value.oneCell',opStore,toIV,scalT,scalA,scalC,boxesA,boxesC,zipB_none,zipB_mx,isZ,opZip,zeroP,opAppendZ,opMakeMap,opLookup,mboxB,opUpdate,↓reduceIte,Nat.reduceSub,Nat.reduceEqDiff,Nat.reduceAdd,Nat.reduceMul,Nat.reduceLT,Nat.reduceLeDiff,Int.reduceToNat,Int.reduceLE,Int.reduceLT,Int.reduceNeg,reduceCtorEq,zzL,if_true,if_false] <;> rfl)); apply Exists.intro; apply And.intro; (focus (first|exact n1|exact n2)))|refine X_opc rfl ?_|refine X_dopc rfl ?_|refine ⟨(by show drawK _ _=true; kernel_rfl:drawX _ _ _),?_⟩|exact (by show drawK _ _=true; kernel_rfl:drawX _ _ _)|simp -dsimp (maxSteps:=20000000) (disch:=omega) only [simx,zzC,zzB,tys,ite_self,opnL,callB,callX,readsB,stepOp,nilCmp,ofVal,opBuiltin,opLen,PV.sk,scalBin,scalUn,intBin,opLoad,natOf,opConvert,opField,cellsP,oneP,Value.oneCell',opStore,toIV,scalT,scalA,scalC,boxesA,boxesC,zipB_none,zipB_mx,isZ,opZip,zeroP,opAppendZ,opMakeMap,opLookup,mboxB,opUpdate,↓reduceIte,Nat.reduceSub,Nat.reduceEqDiff,Nat.reduceAdd,Nat.reduceMul,Nat.reduceLT,Nat.reduceLeDiff,Int.reduceToNat,Int.reduceLE,Int.reduceLT,Int.reduceNeg,reduceCtorEq,gos,Int.reduceAdd,Int.reduceSub,Int.reduceMul,Int.reduceEq,ck,e1,e2,e3,e4,e7,g1,g2,g3,g4,qC,el,ql,List.length_map,SK.len])
          obtain ⟨F,hF⟩:∃ F:Nat → Int,F=fun j => ((elR P T row k).getD j 0 - elX P T row k * (T.us.getD k []).getD j 0 % P) % P:=⟨_,rfl⟩
          have FT:tbl C F=elR P T row (k + 1):=by rw [elR_succ,lessV,el,hF]
          have Fj:∀ j,((elR P T row k).getD j 0 - elX P T row k * (T.us.getD k []).getD j 0 % P) % P=F j:=fun j => by rw [hF]
          have xin:=elX_in hp T row k
          have kk:(k + 1=k + 2)=False:=eq_false (by omega)
          clear hF
          refine X_loopH [0,3,4,6,7,8,9,10,14,15,16] [(17,18)::base] 0 C (fun _ => True) (fun j => [(15,rowP ((901,k + 2)::base) 1 j ((tbl j F).map iu)),(16,i64 j)]) (fun j => rowH HH ((901,k + 2)::base) j ((tbl j F).map iu)) ?_ ?_ ?_ ?_ ?_ (by decide) ?_
          · exact fgt_cons rfl (by simp -dsimp only [zzB,tys,ite_self,opnL,callB,callX,readsB,stepOp,nilCmp,ofVal,opBuiltin,opLen,PV.sk,scalBin,scalUn,intBin,opLoad,natOf,opConvert,opField,cellsP,oneP,Value.oneCell',opStore,toIV,scalT,scalA,scalC,boxesA,boxesC,zipB_none,zipB_mx,isZ,opZip,zeroP,opAppendZ,opMakeMap,opLookup,mboxB,opUpdate,↓reduceIte,Nat.reduceSub,Nat.reduceEqDiff,Nat.reduceAdd,Nat.reduceMul,Nat.reduceLT,Nat.reduceLeDiff,Int.reduceToNat,Int.reduceLE,Int.reduceLT,Int.reduceNeg,reduceCtorEq,gos,Int.reduceAdd,Int.reduceSub,Int.reduceMul,Int.reduceEq,simx,notIn_cons,notIn_nil]; simp [refsP,mem_refs_rowP,ne1,ne2]) nv1 fgt_nil
          · ((simp -dsimp (disch:=omega) only [simx,zzB,tys,ite_self,opnL,callB,callX,readsB,stepOp,nilCmp,ofVal,opBuiltin,opLen,PV.sk,scalBin,scalUn,intBin,opLoad,natOf,opConvert,opField,cellsP,oneP,Value.oneCell',opStore,toIV,scalT,scalA,scalC,boxesA,boxesC,zipB_none,zipB_mx,isZ,opZip,zeroP,opAppendZ,opMakeMap,opLookup,mboxB,opUpdate,↓reduceIte,Nat.reduceSub,Nat.reduceEqDiff,Nat.reduceAdd,Nat.reduceMul,Nat.reduceLT,Nat.reduceLeDiff,Int.reduceToNat,Int.reduceLE,Int.reduceLT,Int.reduceNeg,reduceCtorEq,gos,Int.reduceAdd,Int.reduceSub,Int.reduceMul,Int.reduceEq]) <;> first|rfl|simp [rowP_zero])
          · rw [rowH_zero]
            funext c
            simp (maxSteps:=20000000) only [Heap.drop_at,rowH_app,Heap.put_at,Heap.none_at,List.mem_cons,List.not_mem_nil,or_false]
            by_cases e0:c=(17,18)::base
            · subst e0; simp [e5]
            simp [e0,e5]
          · omega
          · trivial
          · intro j hj _
            by_cases cj:j < C
            · have g5:((elR P T row k).map iu)[j]?=some (iu ((elR P T row k).getD j 0)):=by rw [List.getElem?_map,getD_some el cj]; rfl
              have g6:((T.us.getD k []).map iu)[j]?=some (iu ((T.us.getD k []).getD j 0)):=by rw [List.getElem?_map,getD_some u1 cj]; rfl
              have n3:=rmul_walk' P (elX P T row k) ((T.us.getD k []).getD j 0) hp xin (in_w64 hp (getD_of u2 (i:=j) (by omega)))
              have n4:=rsub_walk P ((elR P T row k).getD j 0) (elX P T row k * (T.us.getD k []).getD j 0 % P) hp (getD_of ei (by omega)) (in_emod hp _)
              rw [Fj j] at n4
              have t1:=tbl_succ j F
              have l1:=tbl_len j F
              have e7':∀ (n:Nat) (cs:List IV),rowH HH ((901,k + 2)::base) n cs ((901,k + 1)::base)=some (.row false ((elR P T row k).map iu)):=fun n cs => by rw [rowH_ne _ _ _ (by simp)]; exact e7
              clear Fj FT n1 n2 g3 g4 xin iv u0
              generalize F j=s at n4 t1
              generalize elX P T row k * (T.us.getD k []).getD j 0 % (P:Int)=w at n3 n4
              generalize (T.us.getD k []).getD j 0=uj at g6 n3
              generalize (elR P T row k).getD j 0=rj at g5 n4
              cases j with
              | zero =>
                repeat (first|((first|refine X_call_fn2 rfl (by simp only [tys]) ?_|refine X_dcall_fn2 rfl (by simp only [tys]) ?_); apply Exists.intro; apply And.intro; (focus (simp -dsimp only [simx,zzC,zzB,tys,ite_self,opnL,callB,callX,readsB,stepOp,nilCmp,ofVal,opBuiltin,opLen,PV.sk,scalBin,scalUn,intBin,opLoad,natOf,opConvert,opField,cellsP,oneP,Value.oneCell',opStore,toIV,scalT,scalA,scalC,boxesA,boxesC,zipB_none,zipB_mx,isZ,opZip,zeroP,opAppendZ,opMakeMap,opLookup,mboxB,opUpdate,↓reduceIte,Nat.reduceSub,Nat.reduceEqDiff,Nat.reduceAdd,Nat.reduceMul,Nat.reduceLT,Nat.reduceLeDiff,Int.reduceToNat,Int.reduceLE,Int.reduceLT,Int.reduceNeg,reduceCtorEq,zzL,if_true,if_false] <;> rfl)); apply Exists.intro; apply And.intro; (focus (first|exact n3|exact n4)))|refine ⟨(by show drawK _ _=true; kernel_rfl:drawX _ _ _),?_⟩|exact (by show drawK _ _=true; kernel_rfl:drawX _ _ _)|simp -dsimp (maxSteps:=20000000) (disch:=omega) only [simx,zzC,zzB,tys,ite_self,opnL,callB,callX,readsB,stepOp,nilCmp,ofVal,opBuiltin,opLen,PV.sk,scalBin,scalUn,intBin,opLoad,natOf,opConvert,opField,cellsP,oneP,Value.oneCell',opStore,toIV,scalT,scalA,scalC,boxesA,boxesC,zipB_none,zipB_mx,isZ,opZip,zeroP,opAppendZ,opMakeMap,opLookup,mboxB,opUpdate,↓reduceIte,Nat.reduceSub,Nat.reduceEqDiff,Nat.reduceAdd,Nat.reduceMul,Nat.reduceLT,Nat.reduceLeDiff,Int.reduceToNat,Int.reduceLE,Int.reduceLT,Int.reduceNeg,reduceCtorEq,gos,Int.reduceAdd,Int.reduceSub,Int.reduceMul,Int.reduceEq,cj,ck,e1,e2,e4,e5,e7,kk,g1,g5,g6,el,u1,List.length_map,SK.len,ite_self,rowH_zero,rowP_zero])
                refine X_dopc rfl ?_
                repeat (first|refine ⟨(by show drawK _ _=true; kernel_rfl:drawX _ _ _),?_⟩|exact (by show drawK _ _=true; kernel_rfl:drawX _ _ _)|simp -dsimp (maxSteps:=20000000) (disch:=omega) only [simx,zzC,zzB,tys,ite_self,opnL,callB,callX,readsB,stepOp,nilCmp,ofVal,opBuiltin,opLen,PV.sk,scalBin,scalUn,intBin,opLoad,natOf,opConvert,opField,cellsP,oneP,Value.oneCell',opStore,toIV,scalT,scalA,scalC,boxesA,boxesC,zipB_none,zipB_mx,isZ,opZip,zeroP,opAppendZ,opMakeMap,opLookup,mboxB,opUpdate,↓reduceIte,Nat.reduceSub,Nat.reduceEqDiff,Nat.reduceAdd,Nat.reduceMul,Nat.reduceLT,Nat.reduceLeDiff,Int.reduceToNat,Int.reduceLE,Int.reduceLT,Int.reduceNeg,reduceCtorEq,gos,Int.reduceAdd,Int.reduceSub,Int.reduceMul,Int.reduceEq,e5,ite_self,rowH_zero])
                refine X_dopn ((901,k + 2)::base) rfl ?_
                repeat (first|refine ⟨(by show drawK _ _=true; kernel_rfl:drawX _ _ _),?_⟩|exact (by show drawK _ _=true; kernel_rfl:drawX _ _ _)|simp -dsimp (maxSteps:=20000000) (disch:=omega) only [simx,zzC,zzB,tys,ite_self,opnL,callB,callX,readsB,stepOp,nilCmp,ofVal,opBuiltin,opLen,PV.sk,scalBin,scalUn,intBin,opLoad,natOf,opConvert,opField,cellsP,oneP,Value.oneCell',opStore,toIV,scalT,scalA,scalC,boxesA,boxesC,zipB_none,zipB_mx,isZ,opZip,zeroP,opAppendZ,opMakeMap,opLookup,mboxB,opUpdate,↓reduceIte,Nat.reduceSub,Nat.reduceEqDiff,Nat.reduceAdd,Nat.reduceMul,Nat.reduceLT,Nat.reduceLeDiff,Int.reduceToNat,Int.reduceLE,Int.reduceLT,Int.reduceNeg,reduceCtorEq,gos,Int.reduceAdd,Int.reduceSub,Int.reduceMul,Int.reduceEq])
                refine X_dappend_one (s:=(901,k + 2)::base) (n:=0) (z:=1) (cs:=[]) 22 [.int .u64 0] [iu s] (by simp only [tys]) (by simp only [tys]) rfl (by decide) rfl (by simp [Heap.put_at]; exact e8) (by simp [Heap.put_at]; rfl) rfl (by simp only [tys]; omega) (by rw [mx_len]; omega) ?_
                repeat (first|refine ⟨(by show drawK _ _=true; kernel_rfl:drawX _ _ _),?_⟩|exact (by show drawK _ _=true; kernel_rfl:drawX _ _ _)|simp -dsimp (maxSteps:=20000000) (disch:=omega) only [simx,zzC,zzB,tys,ite_self,opnL,callB,callX,readsB,stepOp,nilCmp,ofVal,opBuiltin,opLen,PV.sk,scalBin,scalUn,intBin,opLoad,natOf,opConvert,opField,cellsP,oneP,Value.oneCell',opStore,toIV,scalT,scalA,scalC,boxesA,boxesC,zipB_none,zipB_mx,isZ,opZip,zeroP,opAppendZ,opMakeMap,opLookup,mboxB,opUpdate,↓reduceIte,Nat.reduceSub,Nat.reduceEqDiff,Nat.reduceAdd,Nat.reduceMul,Nat.reduceLT,Nat.reduceLeDiff,Int.reduceToNat,Int.reduceLE,Int.reduceLT,Int.reduceNeg,reduceCtorEq,gos,Int.reduceAdd,Int.reduceSub,Int.reduceMul,Int.reduceEq,cj,keysL_row0,keysL_rowS,rowP_succ])
                refine ⟨cj,fgt_cons rfl (by simp -dsimp only [zzB,tys,ite_self,opnL,callB,callX,readsB,stepOp,nilCmp,ofVal,opBuiltin,opLen,PV.sk,scalBin,scalUn,intBin,opLoad,natOf,opConvert,opField,cellsP,oneP,Value.oneCell',opStore,toIV,scalT,scalA,scalC,boxesA,boxesC,zipB_none,zipB_mx,isZ,opZip,zeroP,opAppendZ,opMakeMap,opLookup,mboxB,opUpdate,↓reduceIte,Nat.reduceSub,Nat.reduceEqDiff,Nat.reduceAdd,Nat.reduceMul,Nat.reduceLT,Nat.reduceLeDiff,Int.reduceToNat,Int.reduceLE,Int.reduceLT,Int.reduceNeg,reduceCtorEq,gos,Int.reduceAdd,Int.reduceSub,Int.reduceMul,Int.reduceEq,simx,notIn_cons,notIn_nil]; simp [refsP,mem_refs_rowP,ne1,ne2]) (by repeat (first|exact nv1|refine noVar_row ?_)) fgt_nil,?_,?_⟩
                · rw [t1]; simp [tbl,rowP_succ]
                · funext c
                  simp (maxSteps:=20000000) only [Heap.drop_at,rowH_app,Heap.put_at,Heap.none_at,List.mem_cons,List.not_mem_nil,or_false]
                  by_cases e0:c=(17,18)::base
                  · subst e0; simp [t1,e5,show tbl 0 F=[] from rfl]
                  by_cases e1:c=(901,k + 2)::base
                  · subst e1; simp [t1,e5,show tbl 0 F=[] from rfl]
                  simp [e0,e1,t1,e5,show tbl 0 F=[] from rfl]
              | succ j =>
                repeat (first|((first|refine X_call_fn2 rfl (by simp only [tys]) ?_|refine X_dcall_fn2 rfl (by simp only [tys]) ?_); apply Exists.intro; apply And.intro; (focus (simp -dsimp only [simx,zzC,zzB,tys,ite_self,opnL,callB,callX,readsB,stepOp,nilCmp,ofVal,opBuiltin,opLen,PV.sk,scalBin,scalUn,intBin,opLoad,natOf,opConvert,opField,cellsP,oneP,Value.oneCell',opStore,toIV,scalT,scalA,scalC,boxesA,boxesC,zipB_none,zipB_mx,isZ,opZip,zeroP,opAppendZ,opMakeMap,opLookup,mboxB,opUpdate,↓reduceIte,Nat.reduceSub,Nat.reduceEqDiff,Nat.reduceAdd,Nat.reduceMul,Nat.reduceLT,Nat.reduceLeDiff,Int.reduceToNat,Int.reduceLE,Int.reduceLT,Int.reduceNeg,reduceCtorEq,zzL,if_true,if_false] <;> rfl)); apply Exists.intro; apply And.intro; (focus (first|exact n3|exact n4)))|refine ⟨(by show drawK _ _=true; kernel_rfl:drawX _ _ _),?_⟩|exact (by show drawK _ _=true; kernel_rfl:drawX _ _ _)|simp -dsimp (maxSteps:=20000000) (disch:=omega) only [simx,zzC,zzB,tys,ite_self,opnL,callB,callX,readsB,stepOp,nilCmp,ofVal,opBuiltin,opLen,PV.sk,scalBin,scalUn,intBin,opLoad,natOf,opConvert,opField,cellsP,oneP,Value.oneCell',opStore,toIV,scalT,scalA,scalC,boxesA,boxesC,zipB_none,zipB_mx,isZ,opZip,zeroP,opAppendZ,opMakeMap,opLookup,mboxB,opUpdate,↓reduceIte,Nat.reduceSub,Nat.reduceEqDiff,Nat.reduceAdd,Nat.reduceMul,Nat.reduceLT,Nat.reduceLeDiff,Int.reduceToNat,Int.reduceLE,Int.reduceLT,Int.reduceNeg,reduceCtorEq,gos,Int.reduceAdd,Int.reduceSub,Int.reduceMul,Int.reduceEq,cj,ck,e1,e2,e4,e5,e7,kk,g1,g5,g6,el,u1,List.length_map,SK.len,ite_self,rowH_succ,rowP_succ])
                refine X_dopc rfl ?_
                repeat (first|refine ⟨(by show drawK _ _=true; kernel_rfl:drawX _ _ _),?_⟩|exact (by show drawK _ _=true; kernel_rfl:drawX _ _ _)|simp -dsimp (maxSteps:=20000000) (disch:=omega) only [simx,zzC,zzB,tys,ite_self,opnL,callB,callX,readsB,stepOp,nilCmp,ofVal,opBuiltin,opLen,PV.sk,scalBin,scalUn,intBin,opLoad,natOf,opConvert,opField,cellsP,oneP,Value.oneCell',opStore,toIV,scalT,scalA,scalC,boxesA,boxesC,zipB_none,zipB_mx,isZ,opZip,zeroP,opAppendZ,opMakeMap,opLookup,mboxB,opUpdate,↓reduceIte,Nat.reduceSub,Nat.reduceEqDiff,Nat.reduceAdd,Nat.reduceMul,Nat.reduceLT,Nat.reduceLeDiff,Int.reduceToNat,Int.reduceLE,Int.reduceLT,Int.reduceNeg,reduceCtorEq,gos,Int.reduceAdd,Int.reduceSub,Int.reduceMul,Int.reduceEq,e5,ite_self,rowH_succ])
                refine X_dopc rfl ?_
                repeat (first|refine ⟨(by show drawK _ _=true; kernel_rfl:drawX _ _ _),?_⟩|exact (by show drawK _ _=true; kernel_rfl:drawX _ _ _)|simp -dsimp (maxSteps:=20000000) (disch:=omega) only [simx,zzC,zzB,tys,ite_self,opnL,callB,callX,readsB,stepOp,nilCmp,ofVal,opBuiltin,opLen,PV.sk,scalBin,scalUn,intBin,opLoad,natOf,opConvert,opField,cellsP,oneP,Value.oneCell',opStore,toIV,scalT,scalA,scalC,boxesA,boxesC,zipB_none,zipB_mx,isZ,opZip,zeroP,opAppendZ,opMakeMap,opLookup,mboxB,opUpdate,↓reduceIte,Nat.reduceSub,Nat.reduceEqDiff,Nat.reduceAdd,Nat.reduceMul,Nat.reduceLT,Nat.reduceLeDiff,Int.reduceToNat,Int.reduceLE,Int.reduceLT,Int.reduceNeg,reduceCtorEq,gos,Int.reduceAdd,Int.reduceSub,Int.reduceMul,Int.reduceEq])
                refine X_dappend_own (z:=1) (cs:=(tbl (j + 1) F).map iu) 22 [.int .u64 0] [iu s] (by simp only [tys]) (by simp only [tys]) rfl (by decide) (by simp [Heap.put_at]) (by rw [List.length_map]) (by rw [List.length_map,l1,Nat.mul_one]) (by simp [Heap.put_at]; rfl) rfl (by simp only [tys]; omega) (by rw [mx_len]; omega) ?_
                repeat (first|refine ⟨(by show drawK _ _=true; kernel_rfl:drawX _ _ _),?_⟩|exact (by show drawK _ _=true; kernel_rfl:drawX _ _ _)|simp -dsimp (maxSteps:=20000000) (disch:=omega) only [simx,zzC,zzB,tys,ite_self,opnL,callB,callX,readsB,stepOp,nilCmp,ofVal,opBuiltin,opLen,PV.sk,scalBin,scalUn,intBin,opLoad,natOf,opConvert,opField,cellsP,oneP,Value.oneCell',opStore,toIV,scalT,scalA,scalC,boxesA,boxesC,zipB_none,zipB_mx,isZ,opZip,zeroP,opAppendZ,opMakeMap,opLookup,mboxB,opUpdate,↓reduceIte,Nat.reduceSub,Nat.reduceEqDiff,Nat.reduceAdd,Nat.reduceMul,Nat.reduceLT,Nat.reduceLeDiff,Int.reduceToNat,Int.reduceLE,Int.reduceLT,Int.reduceNeg,reduceCtorEq,gos,Int.reduceAdd,Int.reduceSub,Int.reduceMul,Int.reduceEq,cj])
                refine ⟨cj,fgt_cons rfl (by simp -dsimp only [zzB,tys,ite_self,opnL,callB,callX,readsB,stepOp,nilCmp,ofVal,opBuiltin,opLen,PV.sk,scalBin,scalUn,intBin,opLoad,natOf,opConvert,opField,cellsP,oneP,Value.oneCell',opStore,toIV,scalT,scalA,scalC,boxesA,boxesC,zipB_none,zipB_mx,isZ,opZip,zeroP,opAppendZ,opMakeMap,opLookup,mboxB,opUpdate,↓reduceIte,Nat.reduceSub,Nat.reduceEqDiff,Nat.reduceAdd,Nat.reduceMul,Nat.reduceLT,Nat.reduceLeDiff,Int.reduceToNat,Int.reduceLE,Int.reduceLT,Int.reduceNeg,reduceCtorEq,gos,Int.reduceAdd,Int.reduceSub,Int.reduceMul,Int.reduceEq,simx,notIn_cons,notIn_nil]; simp [refsP,mem_refs_rowP,ne1,ne2]) (by repeat (first|exact nv1|refine noVar_row ?_)) fgt_nil,?_,?_⟩
                · rw [t1]; simp [tbl,rowP_succ]
                · funext c
                  simp (maxSteps:=20000000) only [Heap.drop_at,rowH_app,Heap.put_at,Heap.none_at,List.mem_cons,List.not_mem_nil,or_false]
                  by_cases e0:c=(17,18)::base
                  · subst e0; simp [t1,e5,show tbl 0 F=[] from rfl]
                  by_cases e1:c=(901,k + 2)::base
                  · subst e1; simp [t1,e5,show tbl 0 F=[] from rfl]
                  simp [e0,e1,t1,e5,show tbl 0 F=[] from rfl]
            · obtain rfl:C=j:=by omega
              rw [FT]
              have rpC:rowP ((901,k + 2)::base) 1 C ((elR P T row (k + 1)).map iu)=.view ((901,k + 2)::base) 0 1 C C:=by unfold rowP; rw [if_neg (by omega),List.length_map,elR_len,rl]
              have rhC:∀ (h:Heap) cs,rowH h ((901,k + 2)::base) C cs=h.put ((901,k + 2)::base) (.row false cs):=fun h cs => rowH_pos h _ cs (by omega)
              rw [rpC,rhC]
              have t1:=tbl_succ k (elX P T row)
              have l1:=tbl_len k (elX P T row)
              have nx:restH base H P T row (k + 1)=(restH base H P T row k).put ((901,k + 2)::base) (.row false ((elR P T row (k + 1)).map iu)):=rfl
              repeat (first|refine ⟨(by show drawK _ _=true; kernel_rfl:drawX _ _ _),?_⟩|exact (by show drawK _ _=true; kernel_rfl:drawX _ _ _)|simp -dsimp (maxSteps:=20000000) (disch:=omega) only [simx,zzC,zzB,tys,ite_self,opnL,callB,callX,readsB,stepOp,nilCmp,ofVal,opBuiltin,opLen,PV.sk,scalBin,scalUn,intBin,opLoad,natOf,opConvert,opField,cellsP,oneP,Value.oneCell',opStore,toIV,scalT,scalA,scalC,boxesA,boxesC,zipB_none,zipB_mx,isZ,opZip,zeroP,opAppendZ,opMakeMap,opLookup,mboxB,opUpdate,↓reduceIte,Nat.reduceSub,Nat.reduceEqDiff,Nat.reduceAdd,Nat.reduceMul,Nat.reduceLT,Nat.reduceLeDiff,Int.reduceToNat,Int.reduceLE,Int.reduceLT,Int.reduceNeg,reduceCtorEq,gos,Int.reduceAdd,Int.reduceSub,Int.reduceMul,Int.reduceEq,e2,e6])
              refine X_opc rfl ?_
              repeat (first|refine ⟨(by show drawK _ _=true; kernel_rfl:drawX _ _ _),?_⟩|exact (by show drawK _ _=true; kernel_rfl:drawX _ _ _)|simp -dsimp (maxSteps:=20000000) (disch:=omega) only [simx,zzC,zzB,tys,ite_self,opnL,callB,callX,readsB,stepOp,nilCmp,ofVal,opBuiltin,opLen,PV.sk,scalBin,scalUn,intBin,opLoad,natOf,opConvert,opField,cellsP,oneP,Value.oneCell',opStore,toIV,scalT,scalA,scalC,boxesA,boxesC,zipB_none,zipB_mx,isZ,opZip,zeroP,opAppendZ,opMakeMap,opLookup,mboxB,opUpdate,↓reduceIte,Nat.reduceSub,Nat.reduceEqDiff,Nat.reduceAdd,Nat.reduceMul,Nat.reduceLT,Nat.reduceLeDiff,Int.reduceToNat,Int.reduceLE,Int.reduceLT,Int.reduceNeg,reduceCtorEq,gos,Int.reduceAdd,Int.reduceSub,Int.reduceMul,Int.reduceEq,e6])
              refine X_opn ((900,i)::base) rfl ?_
              repeat (first|refine ⟨(by show drawK _ _=true; kernel_rfl:drawX _ _ _),?_⟩|exact (by show drawK _ _=true; kernel_rfl:drawX _ _ _)|simp -dsimp (maxSteps:=20000000) (disch:=omega) only [simx,zzC,zzB,tys,ite_self,opnL,callB,callX,readsB,stepOp,nilCmp,ofVal,opBuiltin,opLen,PV.sk,scalBin,scalUn,intBin,opLoad,natOf,opConvert,opField,cellsP,oneP,Value.oneCell',opStore,toIV,scalT,scalA,scalC,boxesA,boxesC,zipB_none,zipB_mx,isZ,opZip,zeroP,opAppendZ,opMakeMap,opLookup,mboxB,opUpdate,↓reduceIte,Nat.reduceSub,Nat.reduceEqDiff,Nat.reduceAdd,Nat.reduceMul,Nat.reduceLT,Nat.reduceLeDiff,Int.reduceToNat,Int.reduceLE,Int.reduceLT,Int.reduceNeg,reduceCtorEq,gos,Int.reduceAdd,Int.reduceSub,Int.reduceMul,Int.reduceEq])
              refine X_append_one (s:=(900,i)::base) (n:=k) (z:=1) (cs:=(tbl k (elX P T row)).map iu) 22 [.int .u64 0] [iu (elX P T row k)] (by simp only [tys]) (by simp only [tys]) rfl (by decide) (by rw [List.length_map,l1,Nat.mul_one]) (by simp [Heap.put_at,e10]) (by simp [Heap.put_at]; rfl) rfl (by simp only [tys]; omega) (by rw [mx_len]; omega) ?_
              repeat (first|refine X_opc rfl ?_|refine X_dopc rfl ?_|refine ⟨(by show drawK _ _=true; kernel_rfl:drawX _ _ _),?_⟩|exact (by show drawK _ _=true; kernel_rfl:drawX _ _ _)|simp -dsimp (maxSteps:=20000000) (disch:=omega) only [simx,zzC,zzB,tys,ite_self,opnL,callB,callX,readsB,stepOp,nilCmp,ofVal,opBuiltin,opLen,PV.sk,scalBin,scalUn,intBin,opLoad,natOf,opConvert,opField,cellsP,oneP,Value.oneCell',opStore,toIV,scalT,scalA,scalC,boxesA,boxesC,zipB_none,zipB_mx,isZ,opZip,zeroP,opAppendZ,opMakeMap,opLookup,mboxB,opUpdate,↓reduceIte,Nat.reduceSub,Nat.reduceEqDiff,Nat.reduceAdd,Nat.reduceMul,Nat.reduceLT,Nat.reduceLeDiff,Int.reduceToNat,Int.reduceLE,Int.reduceLT,Int.reduceNeg,reduceCtorEq,gos,Int.reduceAdd,Int.reduceSub,Int.reduceMul,Int.reduceEq,ck,rowP_succ])
              refine ⟨ck,fgt_cons rfl (by simp -dsimp only [zzB,tys,ite_self,opnL,callB,callX,readsB,stepOp,nilCmp,ofVal,opBuiltin,opLen,PV.sk,scalBin,scalUn,intBin,opLoad,natOf,opConvert,opField,cellsP,oneP,Value.oneCell',opStore,toIV,scalT,scalA,scalC,boxesA,boxesC,zipB_none,zipB_mx,isZ,opZip,zeroP,opAppendZ,opMakeMap,opLookup,mboxB,opUpdate,↓reduceIte,Nat.reduceSub,Nat.reduceEqDiff,Nat.reduceAdd,Nat.reduceMul,Nat.reduceLT,Nat.reduceLeDiff,Int.reduceToNat,Int.reduceLE,Int.reduceLT,Int.reduceNeg,reduceCtorEq,gos,Int.reduceAdd,Int.reduceSub,Int.reduceMul,Int.reduceEq,simx,notIn_cons,notIn_nil]; simp [refsP,mem_refs_rowP,ne1,ne2]) (by repeat (first|exact nv1|refine noVar_row ?_)) (fgt_cons rfl (by simp -dsimp only [zzB,tys,ite_self,opnL,callB,callX,readsB,stepOp,nilCmp,ofVal,opBuiltin,opLen,PV.sk,scalBin,scalUn,intBin,opLoad,natOf,opConvert,opField,cellsP,oneP,Value.oneCell',opStore,toIV,scalT,scalA,scalC,boxesA,boxesC,zipB_none,zipB_mx,isZ,opZip,zeroP,opAppendZ,opMakeMap,opLookup,mboxB,opUpdate,↓reduceIte,Nat.reduceSub,Nat.reduceEqDiff,Nat.reduceAdd,Nat.reduceMul,Nat.reduceLT,Nat.reduceLeDiff,Int.reduceToNat,Int.reduceLE,Int.reduceLT,Int.reduceNeg,reduceCtorEq,gos,Int.reduceAdd,Int.reduceSub,Int.reduceMul,Int.reduceEq,simx,notIn_cons,notIn_nil]; simp [refsP,mem_refs_rowP,ne1,ne2]) (by repeat (first|exact nv2|refine noVar_row ?_)) fgt_nil),?_,?_⟩
              · rw [t1]; simp [rowP_succ]
              · funext c
                rw [nx]
                simp only [Heap.drop_at,rowH_app,Heap.put_at,List.mem_cons,List.not_mem_nil,or_false]
                by_cases q0:c=(17,18)::base
                · subst q0
                  rw [restH_ne (by simp),kt 17 18 (by simp)]; simp
                by_cases q1:c=(19,2)::base
                · subst q1
                  rw [restH_ne (by simp),kt 19 2 (by simp)]; simp
                by_cases q2:c=(900,i)::base
                · subst q2; simp [t1]
                by_cases q3:c=(901,k + 2)::base
                · subst q3; simp
                have q4:HH c=restH base H P T row k c:=by rw [← hHH,rowH_ne _ _ _ q2]
                simp [q0,q1,q2,q3,q4]
        · have ek:k=T.us.length:=by omega
          have el:=elR_len P T row k
          rw [rl] at el
          have ei:=elR_in hp T rin k
          have rs:rstT P T row=elR P T row k:=by unfold rstT; rw [ek]
          have xs:xsT P T row=tbl k (elX P T row):=by unfold xsT; rw [ek]
          have xl:=tbl_len k (elX P T row)
          have at':∀ a b,a ≠ 901 → (a,b) ≠ (900,i) → rowH (restH base H P T row k) ((900,i)::base) k ((tbl k (elX P T row)).map iu) ((a,b)::base)=H ((a,b)::base):=fun a b h1 h2 => by
            rw [rowH_ne _ _ _ (by simpa using h2),restH_ne (fun m => by simp [h1])]
          have e1:=(at' 1 0 (by decide) (by simp)).trans kc
          have e2:=(at' 0 0 (by decide) (by simp)).trans k0
          have e3:=(at' 28 4 (by decide) (by simp)).trans kR
          have e4:=(at' 29 4 (by decide) (by simp)).trans kQ
          have e5:=(at' 30 4 (by decide) (by simp)).trans kU
          have e6:=(at' 31 4 (by decide) (by simp)).trans kC
          have e7:rowH (restH base H P T row k) ((900,i)::base) k ((tbl k (elX P T row)).map iu) ((901,k + 1)::base)=some (.row false ((elR P T row k).map iu)):=by
            rw [rowH_ne _ _ _ (by simp),restH_at]
          have e9:restH base H P T row k ((900,i)::base)=none:=by rw [restH_ne (by simp)]; exact k9
          have e10:rowH (restH base H P T row k) ((900,i)::base) k ((tbl k (elX P T row)).map iu) ((900,i)::base)=if k=0 then none else some (.row false ((tbl k (elX P T row)).map iu)):=by rw [rowH_app,e9]; simp
          have et:∀ a b,((a=5 ∨ a=17 ∨ a=19 ∨ a=27) ∨ ((a=28 ∨ a=29 ∨ a=30 ∨ a=31) ∧ b=3)) → rowH (restH base H P T row k) ((900,i)::base) k ((tbl k (elX P T row)).map iu) ((a,b)::base)=none:=fun a b h => by
            rw [at' a b (by rintro rfl; simp at h) (by rintro ⟨⟩; simp at h)]
            exact kt a b (by
              rcases h with h|h
              · exact .inl (by rcases h with h|h|h|h <;> simp [h])
              · exact .inr h)
          have eo:∀ c,c ∉ junkT base → c ≠ (900,i)::base → rowH (restH base H P T row k) ((900,i)::base) k ((tbl k (elX P T row)).map iu) c=H c:=fun c h1 h2 => by
            rw [rowH_ne _ _ _ h2]
            exact restH_out h1 (by omega)
          generalize hHH:rowH (restH base H P T row k) ((900,i)::base) k ((tbl k (elX P T row)).map iu)=HH at e1 e2 e3 e4 e5 e6 e7 e10 et eo ⊢
          have kk1:¬ (k:Int) < (T.us.length:Int):=by omega
          have kk0:¬ (k:Int) < 0:=by omega
          have hU:(rowP ((30,4)::base) 1 T.us.length (T.us.map (lv C))=nilP) ∨ (rowP ((30,4)::base) 1 T.us.length (T.us.map (lv C))=.view ((30,4)::base) 0 1 T.us.length T.us.length):=by
            by_cases h0:T.us.length=0
            · rw [h0]; exact .inl (rowP_zero ..)
            · unfold rowP; rw [if_neg h0,List.length_map]; exact .inr rfl
          rcases hU with rpU|rpU <;> (
            repeat (first|refine X_opc rfl ?_|refine X_dopc rfl ?_|refine ⟨(by show drawK _ _=true; kernel_rfl:drawX _ _ _),?_⟩|exact (by show drawK _ _=true; kernel_rfl:drawX _ _ _)|simp -dsimp (maxSteps:=20000000) (disch:=omega) only [simx,zzC,zzB,tys,ite_self,opnL,callB,callX,readsB,stepOp,nilCmp,ofVal,opBuiltin,opLen,PV.sk,scalBin,scalUn,intBin,opLoad,natOf,opConvert,opField,cellsP,oneP,Value.oneCell',opStore,toIV,scalT,scalA,scalC,boxesA,boxesC,zipB_none,zipB_mx,isZ,opZip,zeroP,opAppendZ,opMakeMap,opLookup,mboxB,opUpdate,↓reduceIte,Nat.reduceSub,Nat.reduceEqDiff,Nat.reduceAdd,Nat.reduceMul,Nat.reduceLT,Nat.reduceLeDiff,Int.reduceToNat,Int.reduceLE,Int.reduceLT,Int.reduceNeg,reduceCtorEq,gos,Int.reduceAdd,Int.reduceSub,Int.reduceMul,Int.reduceEq,kk1,kk0,e1,e2,rpU,List.length_map,SK.len])
            refine X_loopH [0,3,4,6,7,8,9,17] [] 0 C (fun j => ∀ q,q < j → (elR P T row k).getD q 0=0) (fun j => [(17,i64 j)]) (fun _ => HH) ?_ ?_ ?_ ?_ ?_ (by decide) ?_
            · exact fgt_nil
            · ((simp -dsimp (disch:=omega) only [simx,zzB,tys,ite_self,opnL,callB,callX,readsB,stepOp,nilCmp,ofVal,opBuiltin,opLen,PV.sk,scalBin,scalUn,intBin,opLoad,natOf,opConvert,opField,cellsP,oneP,Value.oneCell',opStore,toIV,scalT,scalA,scalC,boxesA,boxesC,zipB_none,zipB_mx,isZ,opZip,zeroP,opAppendZ,opMakeMap,opLookup,mboxB,opUpdate,↓reduceIte,Nat.reduceSub,Nat.reduceEqDiff,Nat.reduceAdd,Nat.reduceMul,Nat.reduceLT,Nat.reduceLeDiff,Int.reduceToNat,Int.reduceLE,Int.reduceLT,Int.reduceNeg,reduceCtorEq,gos,Int.reduceAdd,Int.reduceSub,Int.reduceMul,Int.reduceEq]) <;> first|rfl|simp)
            · exact drop_nil _
            · omega
            · intro q hq; omega
            · intro j hj hz
              by_cases cj:j < C
              · have g5:((elR P T row k).map iu)[j]?=some (iu ((elR P T row k).getD j 0)):=by rw [List.getElem?_map,getD_some el cj]; rfl
                by_cases z0:(elR P T row k).getD j 0=0
                · rw [z0] at g5
                  repeat (first|refine X_opc rfl ?_|refine X_dopc rfl ?_|refine ⟨(by show drawK _ _=true; kernel_rfl:drawX _ _ _),?_⟩|exact (by show drawK _ _=true; kernel_rfl:drawX _ _ _)|simp -dsimp (maxSteps:=20000000) (disch:=omega) only [simx,zzC,zzB,tys,ite_self,opnL,callB,callX,readsB,stepOp,nilCmp,ofVal,opBuiltin,opLen,PV.sk,scalBin,scalUn,intBin,opLoad,natOf,opConvert,opField,cellsP,oneP,Value.oneCell',opStore,toIV,scalT,scalA,scalC,boxesA,boxesC,zipB_none,zipB_mx,isZ,opZip,zeroP,opAppendZ,opMakeMap,opLookup,mboxB,opUpdate,↓reduceIte,Nat.reduceSub,Nat.reduceEqDiff,Nat.reduceAdd,Nat.reduceMul,Nat.reduceLT,Nat.reduceLeDiff,Int.reduceToNat,Int.reduceLE,Int.reduceLT,Int.reduceNeg,reduceCtorEq,gos,Int.reduceAdd,Int.reduceSub,Int.reduceMul,Int.reduceEq,cj,e2,e7,g5,el,List.length_map,SK.len])
                  refine ⟨cj,fgt_nil,fun q hq => ?_,rfl,drop_nil _⟩
                  by_cases e:q=j
                  · rw [e]; exact z0
                  · exact hz q (by omega)
                · have nz:nzA (rstT P T row) 0=(j:Int):=by rw [rs]; exact nzA_at (by omega) z0 hz
                  have nC:¬ nzA (rstT P T row) 0 < 0:=by rw [nz]; omega
                  obtain ⟨t1,t2,t3,_⟩:=tk_yes (p:=P) (T:=T) (row:=row) (x:=i) nC
                  have te:=(tk_end (p:=P) I row (i:Int) rfl).2 nC
                  rw [nz] at t2
                  rw [rs] at t3
                  rw [xs] at te
                  obtain ⟨cs1,_⟩:=tkRow_cs (P:=P) (row:=row) I
                  have n1:=Inv1_in hP hp (getD_of ei (i:=j) (by omega)) z0
                  have q27:=et 27 1 (by simp)
                  have q28:=et 28 3 (by simp)
                  have q29:=et 29 3 (by simp)
                  have q30:=et 30 3 (by simp)
                  have q31:=et 31 3 (by simp)
                  have ql:=I.ql
                  have rl':=I.rl
                  have ri':=I.ri
                  generalize hT':tkRow (P:Int) T (i:Int) row=T' at *
                  have hc5:crowsL base (csF T') (i + 1)=crowsL base (csF T) i ++ [rowP ((900,i)::base) 1 (k + 1) ((tbl k (elX P T row)).map iu ++ [iu 1])]:=by
                    rw [rowsL_succ,rowsL_congr cs1]
                    unfold rowN csF
                    rw [te]
                    simp [xl]
                  have hu1:T'.us.length=T.us.length + 1:=by rw [t3]; simp
                  have nt:((elR P T row k).map iu).take C=(elR P T row k).map iu:=List.take_of_length_le (by rw [List.length_map,el]; exact Nat.le_refl _)
                  generalize finvC (P:Int) ((elR P T row k).getD j 0)=iv0 at n1
                  repeat (first|((first|refine X_call_fn2 rfl (by simp only [tys]) ?_|refine X_dcall_fn2 rfl (by simp only [tys]) ?_); apply Exists.intro; apply And.intro; (focus (simp -dsimp only [simx,zzC,zzB,tys,ite_self,opnL,callB,callX,readsB,stepOp,nilCmp,ofVal,opBuiltin,opLen,PV.sk,scalBin,scalUn,intBin,opLoad,natOf,opConvert,opField,cellsP,oneP,Value.oneCell',opStore,toIV,scalT,scalA,scalC,boxesA,boxesC,zipB_none,zipB_mx,isZ,opZip,zeroP,opAppendZ,opMakeMap,opLookup,mboxB,opUpdate,↓reduceIte,Nat.reduceSub,Nat.reduceEqDiff,Nat.reduceAdd,Nat.reduceMul,Nat.reduceLT,Nat.reduceLeDiff,Int.reduceToNat,Int.reduceLE,Int.reduceLT,Int.reduceNeg,reduceCtorEq,zzL,if_true,if_false] <;> rfl)); apply Exists.intro; apply And.intro; (focus (first|exact n1)))|refine ⟨(by show drawK _ _=true; kernel_rfl:drawX _ _ _),?_⟩|exact (by show drawK _ _=true; kernel_rfl:drawX _ _ _)|simp -dsimp (maxSteps:=20000000) (disch:=omega) only [simx,zzC,zzB,tys,ite_self,opnL,callB,callX,readsB,stepOp,nilCmp,ofVal,opBuiltin,opLen,PV.sk,scalBin,scalUn,intBin,opLoad,natOf,opConvert,opField,cellsP,oneP,Value.oneCell',opStore,toIV,scalT,scalA,scalC,boxesA,boxesC,zipB_none,zipB_mx,isZ,opZip,zeroP,opAppendZ,opMakeMap,opLookup,mboxB,opUpdate,↓reduceIte,Nat.reduceSub,Nat.reduceEqDiff,Nat.reduceAdd,Nat.reduceMul,Nat.reduceLT,Nat.reduceLeDiff,Int.reduceToNat,Int.reduceLE,Int.reduceLT,Int.reduceNeg,reduceCtorEq,gos,Int.reduceAdd,Int.reduceSub,Int.reduceMul,Int.reduceEq,cj,z0,e1,e2,e7,g5,el,List.length_map,SK.len])
                  refine X_opc rfl ?_
                  repeat (first|refine ⟨(by show drawK _ _=true; kernel_rfl:drawX _ _ _),?_⟩|exact (by show drawK _ _=true; kernel_rfl:drawX _ _ _)|simp -dsimp (maxSteps:=20000000) (disch:=omega) only [simx,zzC,zzB,tys,ite_self,opnL,callB,callX,readsB,stepOp,nilCmp,ofVal,opBuiltin,opLen,PV.sk,scalBin,scalUn,intBin,opLoad,natOf,opConvert,opField,cellsP,oneP,Value.oneCell',opStore,toIV,scalT,scalA,scalC,boxesA,boxesC,zipB_none,zipB_mx,isZ,opZip,zeroP,opAppendZ,opMakeMap,opLookup,mboxB,opUpdate,↓reduceIte,Nat.reduceSub,Nat.reduceEqDiff,Nat.reduceAdd,Nat.reduceMul,Nat.reduceLT,Nat.reduceLeDiff,Int.reduceToNat,Int.reduceLE,Int.reduceLT,Int.reduceNeg,reduceCtorEq,gos,Int.reduceAdd,Int.reduceSub,Int.reduceMul,Int.reduceEq,q27])
                  refine X_opn ((900,i)::base) rfl ?_
                  repeat (first|refine ⟨(by show drawK _ _=true; kernel_rfl:drawX _ _ _),?_⟩|exact (by show drawK _ _=true; kernel_rfl:drawX _ _ _)|simp -dsimp (maxSteps:=20000000) (disch:=omega) only [simx,zzC,zzB,tys,ite_self,opnL,callB,callX,readsB,stepOp,nilCmp,ofVal,opBuiltin,opLen,PV.sk,scalBin,scalUn,intBin,opLoad,natOf,opConvert,opField,cellsP,oneP,Value.oneCell',opStore,toIV,scalT,scalA,scalC,boxesA,boxesC,zipB_none,zipB_mx,isZ,opZip,zeroP,opAppendZ,opMakeMap,opLookup,mboxB,opUpdate,↓reduceIte,Nat.reduceSub,Nat.reduceEqDiff,Nat.reduceAdd,Nat.reduceMul,Nat.reduceLT,Nat.reduceLeDiff,Int.reduceToNat,Int.reduceLE,Int.reduceLT,Int.reduceNeg,reduceCtorEq,gos,Int.reduceAdd,Int.reduceSub,Int.reduceMul,Int.reduceEq])
                  refine X_append_one (s:=(900,i)::base) (n:=k) (z:=1) (cs:=(tbl k (elX P T row)).map iu) 22 [.int .u64 0] [iu 1] (by simp only [tys]) (by simp only [tys]) rfl (by decide) (by rw [List.length_map,xl,Nat.mul_one]) (by simp [Heap.put_at,e10]) (by simp [Heap.put_at]; rfl) rfl (by simp only [tys]; omega) (by rw [mx_len]; omega) ?_
                  rw [rowP_succ ((900,i)::base)]
                  repeat (first|refine ⟨(by show drawK _ _=true; kernel_rfl:drawX _ _ _),?_⟩|exact (by show drawK _ _=true; kernel_rfl:drawX _ _ _)|simp -dsimp (maxSteps:=20000000) (disch:=omega) only [simx,zzC,zzB,tys,ite_self,opnL,callB,callX,readsB,stepOp,nilCmp,ofVal,opBuiltin,opLen,PV.sk,scalBin,scalUn,intBin,opLoad,natOf,opConvert,opField,cellsP,oneP,Value.oneCell',opStore,toIV,scalT,scalA,scalC,boxesA,boxesC,zipB_none,zipB_mx,isZ,opZip,zeroP,opAppendZ,opMakeMap,opLookup,mboxB,opUpdate,↓reduceIte,Nat.reduceSub,Nat.reduceEqDiff,Nat.reduceAdd,Nat.reduceMul,Nat.reduceLT,Nat.reduceLeDiff,Int.reduceToNat,Int.reduceLE,Int.reduceLT,Int.reduceNeg,reduceCtorEq,gos,Int.reduceAdd,Int.reduceSub,Int.reduceMul,Int.reduceEq,e1])
                  refine X_opc rfl ?_
                  repeat (first|refine ⟨(by show drawK _ _=true; kernel_rfl:drawX _ _ _),?_⟩|exact (by show drawK _ _=true; kernel_rfl:drawX _ _ _)|simp -dsimp (maxSteps:=20000000) (disch:=omega) only [simx,zzC,zzB,tys,ite_self,opnL,callB,callX,readsB,stepOp,nilCmp,ofVal,opBuiltin,opLen,PV.sk,scalBin,scalUn,intBin,opLoad,natOf,opConvert,opField,cellsP,oneP,Value.oneCell',opStore,toIV,scalT,scalA,scalC,boxesA,boxesC,zipB_none,zipB_mx,isZ,opZip,zeroP,opAppendZ,opMakeMap,opLookup,mboxB,opUpdate,↓reduceIte,Nat.reduceSub,Nat.reduceEqDiff,Nat.reduceAdd,Nat.reduceMul,Nat.reduceLT,Nat.reduceLeDiff,Int.reduceToNat,Int.reduceLE,Int.reduceLT,Int.reduceNeg,reduceCtorEq,gos,Int.reduceAdd,Int.reduceSub,Int.reduceMul,Int.reduceEq,q28])
                  refine X_opc rfl ?_
                  repeat (first|refine ⟨(by show drawK _ _=true; kernel_rfl:drawX _ _ _),?_⟩|exact (by show drawK _ _=true; kernel_rfl:drawX _ _ _)|simp -dsimp (maxSteps:=20000000) (disch:=omega) only [simx,zzC,zzB,tys,ite_self,opnL,callB,callX,readsB,stepOp,nilCmp,ofVal,opBuiltin,opLen,PV.sk,scalBin,scalUn,intBin,opLoad,natOf,opConvert,opField,cellsP,oneP,Value.oneCell',opStore,toIV,scalT,scalA,scalC,boxesA,boxesC,zipB_none,zipB_mx,isZ,opZip,zeroP,opAppendZ,opMakeMap,opLookup,mboxB,opUpdate,↓reduceIte,Nat.reduceSub,Nat.reduceEqDiff,Nat.reduceAdd,Nat.reduceMul,Nat.reduceLT,Nat.reduceLeDiff,Int.reduceToNat,Int.reduceLE,Int.reduceLT,Int.reduceNeg,reduceCtorEq,gos,Int.reduceAdd,Int.reduceSub,Int.reduceMul,Int.reduceEq])
                  refine X_append_one (s:=(28,4)::base) (n:=T.us.length) (z:=1) (cs:=T.rows.map ii) 3 [.int .i64 0] [ii i] (by simp only [tys]) (by simp only [tys]) rfl (by decide) (by rw [List.length_map,Nat.mul_one]; exact rl') (by simp [Heap.put_at,e3]) (by simp [Heap.put_at]; rfl) rfl (by simp only [tys]; omega) (by rw [mx_len]; omega) ?_
                  rw [rowP_succ ((28,4)::base)]
                  repeat (first|refine ⟨(by show drawK _ _=true; kernel_rfl:drawX _ _ _),?_⟩|exact (by show drawK _ _=true; kernel_rfl:drawX _ _ _)|simp -dsimp (maxSteps:=20000000) (disch:=omega) only [simx,zzC,zzB,tys,ite_self,opnL,callB,callX,readsB,stepOp,nilCmp,ofVal,opBuiltin,opLen,PV.sk,scalBin,scalUn,intBin,opLoad,natOf,opConvert,opField,cellsP,oneP,Value.oneCell',opStore,toIV,scalT,scalA,scalC,boxesA,boxesC,zipB_none,zipB_mx,isZ,opZip,zeroP,opAppendZ,opMakeMap,opLookup,mboxB,opUpdate,↓reduceIte,Nat.reduceSub,Nat.reduceEqDiff,Nat.reduceAdd,Nat.reduceMul,Nat.reduceLT,Nat.reduceLeDiff,Int.reduceToNat,Int.reduceLE,Int.reduceLT,Int.reduceNeg,reduceCtorEq,gos,Int.reduceAdd,Int.reduceSub,Int.reduceMul,Int.reduceEq,e1])
                  refine X_opc rfl ?_
                  repeat (first|refine ⟨(by show drawK _ _=true; kernel_rfl:drawX _ _ _),?_⟩|exact (by show drawK _ _=true; kernel_rfl:drawX _ _ _)|simp -dsimp (maxSteps:=20000000) (disch:=omega) only [simx,zzC,zzB,tys,ite_self,opnL,callB,callX,readsB,stepOp,nilCmp,ofVal,opBuiltin,opLen,PV.sk,scalBin,scalUn,intBin,opLoad,natOf,opConvert,opField,cellsP,oneP,Value.oneCell',opStore,toIV,scalT,scalA,scalC,boxesA,boxesC,zipB_none,zipB_mx,isZ,opZip,zeroP,opAppendZ,opMakeMap,opLookup,mboxB,opUpdate,↓reduceIte,Nat.reduceSub,Nat.reduceEqDiff,Nat.reduceAdd,Nat.reduceMul,Nat.reduceLT,Nat.reduceLeDiff,Int.reduceToNat,Int.reduceLE,Int.reduceLT,Int.reduceNeg,reduceCtorEq,gos,Int.reduceAdd,Int.reduceSub,Int.reduceMul,Int.reduceEq,q29])
                  refine X_opc rfl ?_
                  repeat (first|refine ⟨(by show drawK _ _=true; kernel_rfl:drawX _ _ _),?_⟩|exact (by show drawK _ _=true; kernel_rfl:drawX _ _ _)|simp -dsimp (maxSteps:=20000000) (disch:=omega) only [simx,zzC,zzB,tys,ite_self,opnL,callB,callX,readsB,stepOp,nilCmp,ofVal,opBuiltin,opLen,PV.sk,scalBin,scalUn,intBin,opLoad,natOf,opConvert,opField,cellsP,oneP,Value.oneCell',opStore,toIV,scalT,scalA,scalC,boxesA,boxesC,zipB_none,zipB_mx,isZ,opZip,zeroP,opAppendZ,opMakeMap,opLookup,mboxB,opUpdate,↓reduceIte,Nat.reduceSub,Nat.reduceEqDiff,Nat.reduceAdd,Nat.reduceMul,Nat.reduceLT,Nat.reduceLeDiff,Int.reduceToNat,Int.reduceLE,Int.reduceLT,Int.reduceNeg,reduceCtorEq,gos,Int.reduceAdd,Int.reduceSub,Int.reduceMul,Int.reduceEq])
                  refine X_append_one (s:=(29,4)::base) (n:=T.us.length) (z:=1) (cs:=T.cols.map ii) 3 [.int .i64 0] [ii j] (by simp only [tys]) (by simp only [tys]) rfl (by decide) (by rw [List.length_map,Nat.mul_one]; exact ql) (by simp [Heap.put_at,e4]) (by simp [Heap.put_at]; rfl) rfl (by simp only [tys]; omega) (by rw [mx_len]; omega) ?_
                  rw [rowP_succ ((29,4)::base)]
                  repeat (first|refine ⟨(by show drawK _ _=true; kernel_rfl:drawX _ _ _),?_⟩|exact (by show drawK _ _=true; kernel_rfl:drawX _ _ _)|simp -dsimp (maxSteps:=20000000) (disch:=omega) only [simx,zzC,zzB,tys,ite_self,opnL,callB,callX,readsB,stepOp,nilCmp,ofVal,opBuiltin,opLen,PV.sk,scalBin,scalUn,intBin,opLoad,natOf,opConvert,opField,cellsP,oneP,Value.oneCell',opStore,toIV,scalT,scalA,scalC,boxesA,boxesC,zipB_none,zipB_mx,isZ,opZip,zeroP,opAppendZ,opMakeMap,opLookup,mboxB,opUpdate,↓reduceIte,Nat.reduceSub,Nat.reduceEqDiff,Nat.reduceAdd,Nat.reduceMul,Nat.reduceLT,Nat.reduceLeDiff,Int.reduceToNat,Int.reduceLE,Int.reduceLT,Int.reduceNeg,reduceCtorEq,gos,Int.reduceAdd,Int.reduceSub,Int.reduceMul,Int.reduceEq,e1,e7,el,List.length_map])
                  refine X_opc rfl ?_
                  repeat (first|refine ⟨(by show drawK _ _=true; kernel_rfl:drawX _ _ _),?_⟩|exact (by show drawK _ _=true; kernel_rfl:drawX _ _ _)|simp -dsimp (maxSteps:=20000000) (disch:=omega) only [simx,zzC,zzB,tys,ite_self,opnL,callB,callX,readsB,stepOp,nilCmp,ofVal,opBuiltin,opLen,PV.sk,scalBin,scalUn,intBin,opLoad,natOf,opConvert,opField,cellsP,oneP,Value.oneCell',opStore,toIV,scalT,scalA,scalC,boxesA,boxesC,zipB_none,zipB_mx,isZ,opZip,zeroP,opAppendZ,opMakeMap,opLookup,mboxB,opUpdate,↓reduceIte,Nat.reduceSub,Nat.reduceEqDiff,Nat.reduceAdd,Nat.reduceMul,Nat.reduceLT,Nat.reduceLeDiff,Int.reduceToNat,Int.reduceLE,Int.reduceLT,Int.reduceNeg,reduceCtorEq,gos,Int.reduceAdd,Int.reduceSub,Int.reduceMul,Int.reduceEq,q30,e7,el,List.length_map,nt])
                  refine X_opc rfl ?_
                  repeat (first|refine ⟨(by show drawK _ _=true; kernel_rfl:drawX _ _ _),?_⟩|exact (by show drawK _ _=true; kernel_rfl:drawX _ _ _)|simp -dsimp (maxSteps:=20000000) (disch:=omega) only [simx,zzC,zzB,tys,ite_self,opnL,callB,callX,readsB,stepOp,nilCmp,ofVal,opBuiltin,opLen,PV.sk,scalBin,scalUn,intBin,opLoad,natOf,opConvert,opField,cellsP,oneP,Value.oneCell',opStore,toIV,scalT,scalA,scalC,boxesA,boxesC,zipB_none,zipB_mx,isZ,opZip,zeroP,opAppendZ,opMakeMap,opLookup,mboxB,opUpdate,↓reduceIte,Nat.reduceSub,Nat.reduceEqDiff,Nat.reduceAdd,Nat.reduceMul,Nat.reduceLT,Nat.reduceLeDiff,Int.reduceToNat,Int.reduceLE,Int.reduceLT,Int.reduceNeg,reduceCtorEq,gos,Int.reduceAdd,Int.reduceSub,Int.reduceMul,Int.reduceEq])
                  refine X_append_one (s:=(30,4)::base) (n:=T.us.length) (z:=1) (cs:=T.us.map (lv C)) 23 [.slice none 0 0] [lv C (elR P T row k)] (by simp only [tys]) (by simp only [tys]) rfl (by decide) (by rw [List.length_map,Nat.mul_one]) (by simp [Heap.put_at,e5]) (by simp [Heap.put_at]; rfl) rfl (by simp only [tys]; omega) (by rw [mx_len]; omega) ?_
                  rw [rowP_succ ((30,4)::base)]
                  repeat (first|refine ⟨(by show drawK _ _=true; kernel_rfl:drawX _ _ _),?_⟩|exact (by show drawK _ _=true; kernel_rfl:drawX _ _ _)|simp -dsimp (maxSteps:=20000000) (disch:=omega) only [simx,zzC,zzB,tys,ite_self,opnL,callB,callX,readsB,stepOp,nilCmp,ofVal,opBuiltin,opLen,PV.sk,scalBin,scalUn,intBin,opLoad,natOf,opConvert,opField,cellsP,oneP,Value.oneCell',opStore,toIV,scalT,scalA,scalC,boxesA,boxesC,zipB_none,zipB_mx,isZ,opZip,zeroP,opAppendZ,opMakeMap,opLookup,mboxB,opUpdate,↓reduceIte,Nat.reduceSub,Nat.reduceEqDiff,Nat.reduceAdd,Nat.reduceMul,Nat.reduceLT,Nat.reduceLeDiff,Int.reduceToNat,Int.reduceLE,Int.reduceLT,Int.reduceNeg,reduceCtorEq,gos,Int.reduceAdd,Int.reduceSub,Int.reduceMul,Int.reduceEq,e1])
                  refine X_opa ((31,3)::base) rfl ?_
                  repeat (first|refine ⟨(by show drawK _ _=true; kernel_rfl:drawX _ _ _),?_⟩|exact (by show drawK _ _=true; kernel_rfl:drawX _ _ _)|simp -dsimp (maxSteps:=20000000) (disch:=omega) only [simx,zzC,zzB,tys,ite_self,opnL,callB,callX,readsB,stepOp,nilCmp,ofVal,opBuiltin,opLen,PV.sk,scalBin,scalUn,intBin,opLoad,natOf,opConvert,opField,cellsP,oneP,Value.oneCell',opStore,toIV,scalT,scalA,scalC,boxesA,boxesC,zipB_none,zipB_mx,isZ,opZip,zeroP,opAppendZ,opMakeMap,opLookup,mboxB,opUpdate,↓reduceIte,Nat.reduceSub,Nat.reduceEqDiff,Nat.reduceAdd,Nat.reduceMul,Nat.reduceLT,Nat.reduceLeDiff,Int.reduceToNat,Int.reduceLE,Int.reduceLT,Int.reduceNeg,reduceCtorEq,gos,Int.reduceAdd,Int.reduceSub,Int.reduceMul,Int.reduceEq,stepAlt,opBuildSliceV,q31])
                  refine X_opa ((31,4)::base) rfl ?_
                  repeat (first|refine ⟨(by show drawK _ _=true; kernel_rfl:drawX _ _ _),?_⟩|exact (by show drawK _ _=true; kernel_rfl:drawX _ _ _)|simp -dsimp (maxSteps:=20000000) (disch:=omega) only [simx,zzC,zzB,tys,ite_self,opnL,callB,callX,readsB,stepOp,nilCmp,ofVal,opBuiltin,opLen,PV.sk,scalBin,scalUn,intBin,opLoad,natOf,opConvert,opField,cellsP,oneP,Value.oneCell',opStore,toIV,scalT,scalA,scalC,boxesA,boxesC,zipB_none,zipB_mx,isZ,opZip,zeroP,opAppendZ,opMakeMap,opLookup,mboxB,opUpdate,↓reduceIte,Nat.reduceSub,Nat.reduceEqDiff,Nat.reduceAdd,Nat.reduceMul,Nat.reduceLT,Nat.reduceLeDiff,Int.reduceToNat,Int.reduceLE,Int.reduceLT,Int.reduceNeg,reduceCtorEq,gos,Int.reduceAdd,Int.reduceSub,Int.reduceMul,Int.reduceEq,stepAlt])
                  refine X_appendV 23 [.slice none 0 0] (by simp only [tys]) (by simp only [tys]) rfl (crowsL_len _ _ _) (by simp [Heap.put_at]; exact e6) (by simp [Heap.put_at]; rfl) (by simp only [tys]; omega) (by rw [mx_len]; omega) (fun _ => rfl) ?_
                  rw [clmP_succ]
                  repeat (first|refine X_opc rfl ?_|refine X_dopc rfl ?_|refine ⟨(by show drawK _ _=true; kernel_rfl:drawX _ _ _),?_⟩|exact (by show drawK _ _=true; kernel_rfl:drawX _ _ _)|simp -dsimp (maxSteps:=20000000) (disch:=omega) only [simx,zzC,zzB,tys,ite_self,opnL,callB,callX,readsB,stepOp,nilCmp,ofVal,opBuiltin,opLen,PV.sk,scalBin,scalUn,intBin,opLoad,natOf,opConvert,opField,cellsP,oneP,Value.oneCell',opStore,toIV,scalT,scalA,scalC,boxesA,boxesC,zipB_none,zipB_mx,isZ,opZip,zeroP,opAppendZ,opMakeMap,opLookup,mboxB,opUpdate,↓reduceIte,Nat.reduceSub,Nat.reduceEqDiff,Nat.reduceAdd,Nat.reduceMul,Nat.reduceLT,Nat.reduceLeDiff,Int.reduceToNat,Int.reduceLE,Int.reduceLT,Int.reduceNeg,reduceCtorEq,gos,Int.reduceAdd,Int.reduceSub,Int.reduceMul,Int.reduceEq,ci])
                  rw [tn]
                  refine ⟨ci,fgt_mk (h':=rtH base R C (i + 1) l T' (csF T')) ?hs (fun b _ => rfl) ?_ ?_,rfl,?hs⟩
                  case hs =>
                    refine rt_step (T:=T) (f:=csF T) cs1 ?_ ?_ ?_ ?_ ?_ ?_ ?_
                    · simp [Heap.put_at,hu1,t1,t2,t3,rowP_succ,clmP_succ]
                    · simp [Heap.put_at,hu1,t1]
                    · simp [Heap.put_at,hu1,t2]
                    · simp [Heap.put_at,hu1,t3]
                    · rw [hc5]; simp [Heap.put_at,rowP_succ]
                    · unfold csF; rw [te]; simp [Heap.put_at]
                    · intro c h1 h2 h3 h4 h5 h6 h7
                      obtain ⟨n1,n2,n3,n4,n5⟩:=junkT_ne h1
                      have n6:c ≠ (901,k + 1)::base:=fun e => h1 (e ▸ mem_junkT.2 (.inr ⟨k + 1,by omega,rfl⟩))
                      simp only [Heap.put_at,h2,h3,h4,h5,h6,h7,n1,n2,n3,n4,n5,n6,if_false]
                      rw [eo c h1 h7,← hHi]
                  · intro b hb
                    rcases mem_junkT.1 hb with hb|⟨m,_,rfl⟩
                    · simp only [List.mem_cons,List.not_mem_nil,or_false] at hb
                      rcases hb with rfl|rfl|rfl|rfl|rfl|rfl|rfl|rfl <;> (simp -dsimp only [zzB,tys,ite_self,opnL,callB,callX,readsB,stepOp,nilCmp,ofVal,opBuiltin,opLen,PV.sk,scalBin,scalUn,intBin,opLoad,natOf,opConvert,opField,cellsP,oneP,Value.oneCell',opStore,toIV,scalT,scalA,scalC,boxesA,boxesC,zipB_none,zipB_mx,isZ,opZip,zeroP,opAppendZ,opMakeMap,opLookup,mboxB,opUpdate,↓reduceIte,Nat.reduceSub,Nat.reduceEqDiff,Nat.reduceAdd,Nat.reduceMul,Nat.reduceLT,Nat.reduceLeDiff,Int.reduceToNat,Int.reduceLE,Int.reduceLT,Int.reduceNeg,reduceCtorEq,gos,Int.reduceAdd,Int.reduceSub,Int.reduceMul,Int.reduceEq,simx,notIn_cons,notIn_nil]; simp [refsP,ne1,ne2])
                    · simp -dsimp only [zzB,tys,ite_self,opnL,callB,callX,readsB,stepOp,nilCmp,ofVal,opBuiltin,opLen,PV.sk,scalBin,scalUn,intBin,opLoad,natOf,opConvert,opField,cellsP,oneP,Value.oneCell',opStore,toIV,scalT,scalA,scalC,boxesA,boxesC,zipB_none,zipB_mx,isZ,opZip,zeroP,opAppendZ,opMakeMap,opLookup,mboxB,opUpdate,↓reduceIte,Nat.reduceSub,Nat.reduceEqDiff,Nat.reduceAdd,Nat.reduceMul,Nat.reduceLT,Nat.reduceLeDiff,Int.reduceToNat,Int.reduceLE,Int.reduceLT,Int.reduceNeg,reduceCtorEq,gos,Int.reduceAdd,Int.reduceSub,Int.reduceMul,Int.reduceEq,simx,notIn_cons,notIn_nil]; simp [refsP,ne1,ne2]
                  · intro b hb
                    rcases mem_junkT.1 hb with hb|⟨m,_,rfl⟩
                    · simp only [List.mem_cons,List.not_mem_nil,or_false] at hb
                      rcases hb with rfl|rfl|rfl|rfl|rfl|rfl|rfl|rfl <;> exact nv_rt (by simp [ne1,ne2]) (by simp [ne1,ne2]) (by simp [ne1,ne2]) (by simp [ne1,ne2]) (by simp [ne1,ne2])
                    · exact nv_rt (by simp [ne1,ne2]) (by simp [ne1,ne2]) (by simp [ne1,ne2]) (by simp [ne1,ne2]) (by simp [ne1,ne2])
              · have nC:nzA (rstT P T row) 0 < 0:=by rw [rs]; exact nzA_no fun q hq => hz q (by omega)
                obtain ⟨t1,t2,t3,_⟩:=tk_no (p:=P) (T:=T) (row:=row) (x:=i) nC
                have te:=(tk_end (p:=P) I row (i:Int) rfl).1 nC
                rw [xs] at te
                obtain ⟨cs1,_⟩:=tkRow_cs (P:=P) (row:=row) I
                have q31:=et 31 3 (by simp)
                have ri':=I.ri
                generalize hT':tkRow (P:Int) T (i:Int) row=T' at *
                have hc5:crowsL base (csF T') (i + 1)=crowsL base (csF T) i ++ [rowP ((900,i)::base) 1 k ((tbl k (elX P T row)).map iu)]:=by
                  rw [rowsL_succ,rowsL_congr cs1]
                  unfold rowN csF
                  rw [te]
                  simp [xl]
                have rpk:(k=0 ∧ rowP ((900,i)::base) 1 k ((tbl k (elX P T row)).map iu)=nilP) ∨ (rowP ((900,i)::base) 1 k ((tbl k (elX P T row)).map iu)=.view ((900,i)::base) 0 1 k k):=by
                  by_cases h0:k=0
                  · subst h0; exact .inl ⟨rfl,rowP_zero ..⟩
                  · refine .inr ?_
                    unfold rowP
                    rw [if_neg h0,List.length_map,xl]
                generalize rowP ((900,i)::base) 1 k ((tbl k (elX P T row)).map iu)=rk at *
                have jC:¬ j < C:=cj
                repeat (first|refine ⟨(by show drawK _ _=true; kernel_rfl:drawX _ _ _),?_⟩|exact (by show drawK _ _=true; kernel_rfl:drawX _ _ _)|simp -dsimp (maxSteps:=20000000) (disch:=omega) only [simx,zzC,zzB,tys,ite_self,opnL,callB,callX,readsB,stepOp,nilCmp,ofVal,opBuiltin,opLen,PV.sk,scalBin,scalUn,intBin,opLoad,natOf,opConvert,opField,cellsP,oneP,Value.oneCell',opStore,toIV,scalT,scalA,scalC,boxesA,boxesC,zipB_none,zipB_mx,isZ,opZip,zeroP,opAppendZ,opMakeMap,opLookup,mboxB,opUpdate,↓reduceIte,Nat.reduceSub,Nat.reduceEqDiff,Nat.reduceAdd,Nat.reduceMul,Nat.reduceLT,Nat.reduceLeDiff,Int.reduceToNat,Int.reduceLE,Int.reduceLT,Int.reduceNeg,reduceCtorEq,gos,Int.reduceAdd,Int.reduceSub,Int.reduceMul,Int.reduceEq,cj,e1,e2,e7,el,List.length_map,SK.len])
                rcases rpk with ⟨_,rfl⟩|rfl <;> (
                  refine X_opa ((31,3)::base) rfl ?_
                  repeat (first|refine ⟨(by show drawK _ _=true; kernel_rfl:drawX _ _ _),?_⟩|exact (by show drawK _ _=true; kernel_rfl:drawX _ _ _)|simp -dsimp (maxSteps:=20000000) (disch:=omega) only [simx,zzC,zzB,tys,ite_self,opnL,callB,callX,readsB,stepOp,nilCmp,ofVal,opBuiltin,opLen,PV.sk,scalBin,scalUn,intBin,opLoad,natOf,opConvert,opField,cellsP,oneP,Value.oneCell',opStore,toIV,scalT,scalA,scalC,boxesA,boxesC,zipB_none,zipB_mx,isZ,opZip,zeroP,opAppendZ,opMakeMap,opLookup,mboxB,opUpdate,↓reduceIte,Nat.reduceSub,Nat.reduceEqDiff,Nat.reduceAdd,Nat.reduceMul,Nat.reduceLT,Nat.reduceLeDiff,Int.reduceToNat,Int.reduceLE,Int.reduceLT,Int.reduceNeg,reduceCtorEq,gos,Int.reduceAdd,Int.reduceSub,Int.reduceMul,Int.reduceEq,stepAlt,opBuildSliceV,q31])
                  refine X_opa ((31,4)::base) rfl ?_
                  repeat (first|refine ⟨(by show drawK _ _=true; kernel_rfl:drawX _ _ _),?_⟩|exact (by show drawK _ _=true; kernel_rfl:drawX _ _ _)|simp -dsimp (maxSteps:=20000000) (disch:=omega) only [simx,zzC,zzB,tys,ite_self,opnL,callB,callX,readsB,stepOp,nilCmp,ofVal,opBuiltin,opLen,PV.sk,scalBin,scalUn,intBin,opLoad,natOf,opConvert,opField,cellsP,oneP,Value.oneCell',opStore,toIV,scalT,scalA,scalC,boxesA,boxesC,zipB_none,zipB_mx,isZ,opZip,zeroP,opAppendZ,opMakeMap,opLookup,mboxB,opUpdate,↓reduceIte,Nat.reduceSub,Nat.reduceEqDiff,Nat.reduceAdd,Nat.reduceMul,Nat.reduceLT,Nat.reduceLeDiff,Int.reduceToNat,Int.reduceLE,Int.reduceLT,Int.reduceNeg,reduceCtorEq,gos,Int.reduceAdd,Int.reduceSub,Int.reduceMul,Int.reduceEq,stepAlt])
                  refine X_appendV 23 [.slice none 0 0] (by simp only [tys]) (by simp only [tys]) rfl (crowsL_len _ _ _) (by simp [Heap.put_at]; exact e6) (by simp [Heap.put_at]; rfl) (by simp only [tys]; omega) (by rw [mx_len]; omega) (fun _ => rfl) ?_
                  rw [clmP_succ]
                  repeat (first|refine X_opc rfl ?_|refine X_dopc rfl ?_|refine ⟨(by show drawK _ _=true; kernel_rfl:drawX _ _ _),?_⟩|exact (by show drawK _ _=true; kernel_rfl:drawX _ _ _)|simp -dsimp (maxSteps:=20000000) (disch:=omega) only [simx,zzC,zzB,tys,ite_self,opnL,callB,callX,readsB,stepOp,nilCmp,ofVal,opBuiltin,opLen,PV.sk,scalBin,scalUn,intBin,opLoad,natOf,opConvert,opField,cellsP,oneP,Value.oneCell',opStore,toIV,scalT,scalA,scalC,boxesA,boxesC,zipB_none,zipB_mx,isZ,opZip,zeroP,opAppendZ,opMakeMap,opLookup,mboxB,opUpdate,↓reduceIte,Nat.reduceSub,Nat.reduceEqDiff,Nat.reduceAdd,Nat.reduceMul,Nat.reduceLT,Nat.reduceLeDiff,Int.reduceToNat,Int.reduceLE,Int.reduceLT,Int.reduceNeg,reduceCtorEq,gos,Int.reduceAdd,Int.reduceSub,Int.reduceMul,Int.reduceEq,ci,e1])
                  rw [tn]
                  refine ⟨ci,fgt_mk (h':=rtH base R C (i + 1) l T' (csF T')) ?hs (fun b _ => rfl) ?_ ?_,rfl,?hs⟩
                  case hs =>
                    refine rt_step (T:=T) (f:=csF T) cs1 ?_ ?_ ?_ ?_ ?_ ?_ ?_
                    · simp [Heap.put_at,t1,t2,t3,clmP_succ]
                    · simp [Heap.put_at,t1,t3,e3]
                    · simp [Heap.put_at,t2,t3,e4]
                    · simp [Heap.put_at,t3,e5]
                    · rw [hc5]; simp [Heap.put_at]
                    · unfold csF; rw [te]; simp [Heap.put_at,e10,xl]
                    · intro c h1 h2 h3 h4 h5 h6 h7
                      obtain ⟨n1,n2,n3,n4,n5⟩:=junkT_ne h1
                      simp only [Heap.put_at,h2,h6,n5,if_false]
                      rw [eo c h1 h7,← hHi]
                  · intro b hb
                    rcases mem_junkT.1 hb with hb|⟨m,_,rfl⟩
                    · simp only [List.mem_cons,List.not_mem_nil,or_false] at hb
                      rcases hb with rfl|rfl|rfl|rfl|rfl|rfl|rfl|rfl <;> (simp -dsimp only [zzB,tys,ite_self,opnL,callB,callX,readsB,stepOp,nilCmp,ofVal,opBuiltin,opLen,PV.sk,scalBin,scalUn,intBin,opLoad,natOf,opConvert,opField,cellsP,oneP,Value.oneCell',opStore,toIV,scalT,scalA,scalC,boxesA,boxesC,zipB_none,zipB_mx,isZ,opZip,zeroP,opAppendZ,opMakeMap,opLookup,mboxB,opUpdate,↓reduceIte,Nat.reduceSub,Nat.reduceEqDiff,Nat.reduceAdd,Nat.reduceMul,Nat.reduceLT,Nat.reduceLeDiff,Int.reduceToNat,Int.reduceLE,Int.reduceLT,Int.reduceNeg,reduceCtorEq,gos,Int.reduceAdd,Int.reduceSub,Int.reduceMul,Int.reduceEq,simx,notIn_cons,notIn_nil]; simp [refsP,ne1,ne2])
                    · simp -dsimp only [zzB,tys,ite_self,opnL,callB,callX,readsB,stepOp,nilCmp,ofVal,opBuiltin,opLen,PV.sk,scalBin,scalUn,intBin,opLoad,natOf,opConvert,opField,cellsP,oneP,Value.oneCell',opStore,toIV,scalT,scalA,scalC,boxesA,boxesC,zipB_none,zipB_mx,isZ,opZip,zeroP,opAppendZ,opMakeMap,opLookup,mboxB,opUpdate,↓reduceIte,Nat.reduceSub,Nat.reduceEqDiff,Nat.reduceAdd,Nat.reduceMul,Nat.reduceLT,Nat.reduceLeDiff,Int.reduceToNat,Int.reduceLE,Int.reduceLT,Int.reduceNeg,reduceCtorEq,gos,Int.reduceAdd,Int.reduceSub,Int.reduceMul,Int.reduceEq,simx,notIn_cons,notIn_nil]; simp [refsP,ne1,ne2]
                  · intro b hb
                    rcases mem_junkT.1 hb with hb|⟨m,_,rfl⟩
                    · simp only [List.mem_cons,List.not_mem_nil,or_false] at hb
                      rcases hb with rfl|rfl|rfl|rfl|rfl|rfl|rfl|rfl <;> exact nv_rt (by simp [ne1,ne2]) (by simp [ne1,ne2]) (by simp [ne1,ne2]) (by simp [ne1,ne2]) (by simp [ne1,ne2])
                    · exact nv_rt (by simp [ne1,ne2]) (by simp [ne1,ne2]) (by simp [ne1,ne2]) (by simp [ne1,ne2]) (by simp [ne1,ne2])))
    · obtain rfl:R=i:=by omega
      clear TC
      generalize hT:tkN (P:Int) C l R=T at *
      rw [← fP_zero T]
      have t0:=fun i d => rtH_c (base:=base) (R:=R) (C:=C) (i:=R) (l:=l) (T:=T) (f:=fP T i d)
      have tC:=fun i d => rtH_col (base:=base) (R:=R) (C:=C) (i:=R) (l:=l) (T:=T) (f:=fP T i d)
      have t2:=fun i d => rtH_r (base:=base) (R:=R) (C:=C) (i:=R) (l:=l) (T:=T) (f:=fP T i d)
      have h36:∀ i d,rtH base R C R l T (fP T i d) ((36,8)::base)=none:=fun i d => by
        simp [rtH,rowH_app,rowsH,rowsX,ne1,ne2,mtB]
      have nvH:∀ i d,noVar ((36,8)::base) (rtH base R C R l T (fP T i d)):=fun i d => nv_rt (by simp) (by simp) (by simp) (by simp) (by simp)
      have cp:clmP ((31,4)::base) R=.view ((31,4)::base) 0 1 R R:=if_neg (by omega)
      have cb:∀ L,clmB R L=some (.var L):=fun L => if_neg (by omega)
      simp only [cp] at t0
      simp only [cb] at tC
      have m1:=rtH_m (base:=base) (R:=R) (C:=C) (i:=R) (l:=l) (T:=T) (f:=fP T 0 0)
      repeat (first|refine X_opc rfl ?_|refine X_dopc rfl ?_|refine ⟨(by show drawK _ _=true; kernel_rfl:drawX _ _ _),?_⟩|exact (by show drawK _ _=true; kernel_rfl:drawX _ _ _)|simp -dsimp (maxSteps:=20000000) (disch:=omega) only [simx,zzC,zzB,tys,ite_self,opnL,callB,callX,readsB,stepOp,nilCmp,ofVal,opBuiltin,opLen,PV.sk,scalBin,scalUn,intBin,opLoad,natOf,opConvert,opField,cellsP,oneP,Value.oneCell',opStore,toIV,scalT,scalA,scalC,boxesA,boxesC,zipB_none,zipB_mx,isZ,opZip,zeroP,opAppendZ,opMakeMap,opLookup,mboxB,opUpdate,↓reduceIte,Nat.reduceSub,Nat.reduceEqDiff,Nat.reduceAdd,Nat.reduceMul,Nat.reduceLT,Nat.reduceLeDiff,Int.reduceToNat,Int.reduceLE,Int.reduceLT,Int.reduceNeg,reduceCtorEq,gos,Int.reduceAdd,Int.reduceSub,Int.reduceMul,Int.reduceEq,t0 0 0,ci,m1])
      refine X_loopH [4,6,20] [(36,8)::base] 0 R (fun _ => True) (fun j => [(20,i64 j)]) (fun j => rtH base R C R l T (fP T j 0)) ?_ ?_ ?_ ?_ ?_ (by decide) ?_
      · exact fgt_cons rfl (by simp -dsimp only [zzB,tys,ite_self,opnL,callB,callX,readsB,stepOp,nilCmp,ofVal,opBuiltin,opLen,PV.sk,scalBin,scalUn,intBin,opLoad,natOf,opConvert,opField,cellsP,oneP,Value.oneCell',opStore,toIV,scalT,scalA,scalC,boxesA,boxesC,zipB_none,zipB_mx,isZ,opZip,zeroP,opAppendZ,opMakeMap,opLookup,mboxB,opUpdate,↓reduceIte,Nat.reduceSub,Nat.reduceEqDiff,Nat.reduceAdd,Nat.reduceMul,Nat.reduceLT,Nat.reduceLeDiff,Int.reduceToNat,Int.reduceLE,Int.reduceLT,Int.reduceNeg,reduceCtorEq,gos,Int.reduceAdd,Int.reduceSub,Int.reduceMul,Int.reduceEq,simx,notIn_cons,notIn_nil] <;> simp [refsP,ne1,ne2]) (nvH _ _) fgt_nil
      · ((simp -dsimp (disch:=omega) only [simx,zzB,tys,ite_self,opnL,callB,callX,readsB,stepOp,nilCmp,ofVal,opBuiltin,opLen,PV.sk,scalBin,scalUn,intBin,opLoad,natOf,opConvert,opField,cellsP,oneP,Value.oneCell',opStore,toIV,scalT,scalA,scalC,boxesA,boxesC,zipB_none,zipB_mx,isZ,opZip,zeroP,opAppendZ,opMakeMap,opLookup,mboxB,opUpdate,↓reduceIte,Nat.reduceSub,Nat.reduceEqDiff,Nat.reduceAdd,Nat.reduceMul,Nat.reduceLT,Nat.reduceLeDiff,Int.reduceToNat,Int.reduceLE,Int.reduceLT,Int.reduceNeg,reduceCtorEq,gos,Int.reduceAdd,Int.reduceSub,Int.reduceMul,Int.reduceEq]) <;> first|rfl|simp)
      · funext c
        rw [Heap.drop_at]
        split
        · rename_i e
          rw [List.mem_singleton.1 e,h36]
        · rfl
      · omega
      · trivial
      · intro i hi _
        by_cases ci:i < R
        · repeat (first|refine X_opc rfl ?_|refine X_dopc rfl ?_|refine ⟨(by show drawK _ _=true; kernel_rfl:drawX _ _ _),?_⟩|exact (by show drawK _ _=true; kernel_rfl:drawX _ _ _)|simp -dsimp (maxSteps:=20000000) (disch:=omega) only [simx,zzC,zzB,tys,ite_self,opnL,callB,callX,readsB,stepOp,nilCmp,ofVal,opBuiltin,opLen,PV.sk,scalBin,scalUn,intBin,opLoad,natOf,opConvert,opField,cellsP,oneP,Value.oneCell',opStore,toIV,scalT,scalA,scalC,boxesA,boxesC,zipB_none,zipB_mx,isZ,opZip,zeroP,opAppendZ,opMakeMap,opLookup,mboxB,opUpdate,↓reduceIte,Nat.reduceSub,Nat.reduceEqDiff,Nat.reduceAdd,Nat.reduceMul,Nat.reduceLT,Nat.reduceLeDiff,Int.reduceToNat,Int.reduceLE,Int.reduceLT,Int.reduceNeg,reduceCtorEq,gos,Int.reduceAdd,Int.reduceSub,Int.reduceMul,Int.reduceEq,ci,t0,tC,crowsL_len,SK.len])
          refine X_loopH [4,6,20] [(36,8)::base] 0 (T.us.length - (csF T i).length) (fun _ => True) (fun _ => [(20,i64 i)]) (fun j => rtH base R C R l T (fP T i j)) ?_ ?_ ?_ ?_ ?_ (by decide) ?_
          · exact fgt_cons rfl (by simp -dsimp only [zzB,tys,ite_self,opnL,callB,callX,readsB,stepOp,nilCmp,ofVal,opBuiltin,opLen,PV.sk,scalBin,scalUn,intBin,opLoad,natOf,opConvert,opField,cellsP,oneP,Value.oneCell',opStore,toIV,scalT,scalA,scalC,boxesA,boxesC,zipB_none,zipB_mx,isZ,opZip,zeroP,opAppendZ,opMakeMap,opLookup,mboxB,opUpdate,↓reduceIte,Nat.reduceSub,Nat.reduceEqDiff,Nat.reduceAdd,Nat.reduceMul,Nat.reduceLT,Nat.reduceLeDiff,Int.reduceToNat,Int.reduceLE,Int.reduceLT,Int.reduceNeg,reduceCtorEq,gos,Int.reduceAdd,Int.reduceSub,Int.reduceMul,Int.reduceEq,simx,notIn_cons,notIn_nil] <;> simp [refsP,ne1,ne2]) (nvH _ _) fgt_nil
          · ((simp -dsimp (disch:=omega) only [simx,zzB,tys,ite_self,opnL,callB,callX,readsB,stepOp,nilCmp,ofVal,opBuiltin,opLen,PV.sk,scalBin,scalUn,intBin,opLoad,natOf,opConvert,opField,cellsP,oneP,Value.oneCell',opStore,toIV,scalT,scalA,scalC,boxesA,boxesC,zipB_none,zipB_mx,isZ,opZip,zeroP,opAppendZ,opMakeMap,opLookup,mboxB,opUpdate,↓reduceIte,Nat.reduceSub,Nat.reduceEqDiff,Nat.reduceAdd,Nat.reduceMul,Nat.reduceLT,Nat.reduceLeDiff,Int.reduceToNat,Int.reduceLE,Int.reduceLT,Int.reduceNeg,reduceCtorEq,gos,Int.reduceAdd,Int.reduceSub,Int.reduceMul,Int.reduceEq]) <;> first|rfl|simp)
          · funext c
            rw [Heap.drop_at]
            split
            · rename_i e
              rw [List.mem_singleton.1 e,h36]
            · rfl
          · omega
          · trivial
          · intro j hj _
            by_cases cj:j < T.us.length - (csF T i).length
            · have ru:rowP ((30,4)::base) 1 T.us.length (T.us.map (lv C))=.view ((30,4)::base) 0 1 T.us.length T.us.length:=by unfold rowP; rw [if_neg (by omega),List.length_map]
              have t1:=t0 i j
              have tc:=tC i j
              have g1:=rowsL_get (b:=base) (f:=fP T i j) ci
              have rI:=I.ri
              have xl:(fP T i j i).length=(csF T i).length + j:=by rw [fP_at]; simp
              have xn:fP T i (j + 1) i=fP T i j i ++ [0]:=by rw [fP_at,fP_at,List.replicate_succ',List.append_assoc]
              have rp:=rowsL_put (b:=base) (f:=fP T i j) (g:=fP T i (j + 1)) ci (fun m hm => fP_ne hm)
              have hu:=rtH_upd (base:=base) (C:=C) (l:=l) (T:=T) (f:=fP T i j) (g:=fP T i (j + 1)) ci (fun m hm => fP_ne hm) (by rw [xn]; simp)
              unfold rowN at g1 rp
              rw [xn] at rp hu
              have hX:(fP T i j i).length ≠ 0 → rtH base R C R l T (fP T i j) ((900,i)::base)=some (.row false ((fP T i j i).map iu)):=fun h => by
                unfold rtH
                simp only [rowH_app,rowsH,rowsX_at ci h]
                simp
              have hX0:(fP T i j i).length=0 → rtH base R C R l T (fP T i j) ((900,i)::base)=none:=fun h => by
                unfold rtH
                simp only [rowH_app,rowsH,rowsX_nil h]
                simp [ne1,ne2]
              have h14:=h36 i j
              have cl:((fP T i j i).length:Int) < (T.us.length:Int):=by omega
              have ile:i + 1 ≤ R:=ci
              have ll:=crowsL_len base (fP T i j) R
              have nvh:=nvH i j
              have nvl:(36,8)::base ∉ refsL (crowsL base (fP T i (j + 1)) R):=fun h => by
                obtain ⟨k,hk⟩:=mem_rowsL h
                simp at hk
              generalize hh:rtH base R C R l T (fP T i j)=h0 at t1 tc hu hX hX0 h14 nvh
              clear t0 tC t2 h36 nvH m1 cb cp
              generalize fP T i j i=X at g1 rp hu hX hX0 xl cl
              generalize crowsL base (fP T i j) R=RL at g1 rp tc ll
              generalize hrr:T.us.length=r at *
              rcases hn:X.length with _|m
              · rw [hn] at g1 cl
                have Xe:X=[]:=List.eq_nil_of_length_eq_zero hn
                subst Xe
                have hX0:=hX0 rfl
                rw [rowP_zero] at g1
                simp only [List.nil_append,List.length_singleton,List.map_cons,List.map_nil] at rp hu
                rw [show rowP ((900,i)::base) 1 1 [iu 0]=.view ((900,i)::base) 0 1 1 1 from rfl] at rp
                repeat (first|refine ⟨(by show drawK _ _=true; kernel_rfl:drawX _ _ _),?_⟩|exact (by show drawK _ _=true; kernel_rfl:drawX _ _ _)|simp -dsimp (maxSteps:=20000000) (disch:=omega) only [simx,zzC,zzB,tys,ite_self,opnL,callB,callX,readsB,stepOp,nilCmp,ofVal,opBuiltin,opLen,PV.sk,scalBin,scalUn,intBin,opLoad,natOf,opConvert,opField,cellsP,oneP,Value.oneCell',opStore,toIV,scalT,scalA,scalC,boxesA,boxesC,zipB_none,zipB_mx,isZ,opZip,zeroP,opAppendZ,opMakeMap,opLookup,mboxB,opUpdate,↓reduceIte,Nat.reduceSub,Nat.reduceEqDiff,Nat.reduceAdd,Nat.reduceMul,Nat.reduceLT,Nat.reduceLeDiff,Int.reduceToNat,Int.reduceLE,Int.reduceLT,Int.reduceNeg,reduceCtorEq,gos,Int.reduceAdd,Int.reduceSub,Int.reduceMul,Int.reduceEq,t1,tc,g1,ci,ru,cl,ll,SK.len])
                refine X_dopc rfl ?_
                repeat (first|refine ⟨(by show drawK _ _=true; kernel_rfl:drawX _ _ _),?_⟩|exact (by show drawK _ _=true; kernel_rfl:drawX _ _ _)|simp -dsimp (maxSteps:=20000000) (disch:=omega) only [simx,zzC,zzB,tys,ite_self,opnL,callB,callX,readsB,stepOp,nilCmp,ofVal,opBuiltin,opLen,PV.sk,scalBin,scalUn,intBin,opLoad,natOf,opConvert,opField,cellsP,oneP,Value.oneCell',opStore,toIV,scalT,scalA,scalC,boxesA,boxesC,zipB_none,zipB_mx,isZ,opZip,zeroP,opAppendZ,opMakeMap,opLookup,mboxB,opUpdate,↓reduceIte,Nat.reduceSub,Nat.reduceEqDiff,Nat.reduceAdd,Nat.reduceMul,Nat.reduceLT,Nat.reduceLeDiff,Int.reduceToNat,Int.reduceLE,Int.reduceLT,Int.reduceNeg,reduceCtorEq,gos,Int.reduceAdd,Int.reduceSub,Int.reduceMul,Int.reduceEq,h14])
                refine X_dopn ((900,i)::base) rfl ?_
                repeat (first|refine ⟨(by show drawK _ _=true; kernel_rfl:drawX _ _ _),?_⟩|exact (by show drawK _ _=true; kernel_rfl:drawX _ _ _)|simp -dsimp (maxSteps:=20000000) (disch:=omega) only [simx,zzC,zzB,tys,ite_self,opnL,callB,callX,readsB,stepOp,nilCmp,ofVal,opBuiltin,opLen,PV.sk,scalBin,scalUn,intBin,opLoad,natOf,opConvert,opField,cellsP,oneP,Value.oneCell',opStore,toIV,scalT,scalA,scalC,boxesA,boxesC,zipB_none,zipB_mx,isZ,opZip,zeroP,opAppendZ,opMakeMap,opLookup,mboxB,opUpdate,↓reduceIte,Nat.reduceSub,Nat.reduceEqDiff,Nat.reduceAdd,Nat.reduceMul,Nat.reduceLT,Nat.reduceLeDiff,Int.reduceToNat,Int.reduceLE,Int.reduceLT,Int.reduceNeg,reduceCtorEq,gos,Int.reduceAdd,Int.reduceSub,Int.reduceMul,Int.reduceEq])
                refine X_dappend_one (s:=(900,i)::base) (n:=0) (z:=1) (cs:=[]) 22 [.int .u64 0] [iu 0] (by simp only [tys]) (by simp only [tys]) rfl (by decide) rfl (by simp [Heap.put_at]; exact hX0) (by simp [Heap.put_at]; rfl) rfl (by simp only [tys]; omega) (by rw [mx_len]; omega) ?_
                rw [rowP_succ]
                repeat (first|refine ⟨(by show drawK _ _=true; kernel_rfl:drawX _ _ _),?_⟩|exact (by show drawK _ _=true; kernel_rfl:drawX _ _ _)|simp -dsimp (maxSteps:=20000000) (disch:=omega) only [simx,zzC,zzB,tys,ite_self,opnL,callB,callX,readsB,stepOp,nilCmp,ofVal,opBuiltin,opLen,PV.sk,scalBin,scalUn,intBin,opLoad,natOf,opConvert,opField,cellsP,oneP,Value.oneCell',opStore,toIV,scalT,scalA,scalC,boxesA,boxesC,zipB_none,zipB_mx,isZ,opZip,zeroP,opAppendZ,opMakeMap,opLookup,mboxB,opUpdate,↓reduceIte,Nat.reduceSub,Nat.reduceEqDiff,Nat.reduceAdd,Nat.reduceMul,Nat.reduceLT,Nat.reduceLeDiff,Int.reduceToNat,Int.reduceLE,Int.reduceLT,Int.reduceNeg,reduceCtorEq,gos,Int.reduceAdd,Int.reduceSub,Int.reduceMul,Int.reduceEq,t1,tc,ci,ile,ll,rp,List.nil_append])
                refine ⟨cj,fgt_cons rfl (by simp -dsimp only [zzB,tys,ite_self,opnL,callB,callX,readsB,stepOp,nilCmp,ofVal,opBuiltin,opLen,PV.sk,scalBin,scalUn,intBin,opLoad,natOf,opConvert,opField,cellsP,oneP,Value.oneCell',opStore,toIV,scalT,scalA,scalC,boxesA,boxesC,zipB_none,zipB_mx,isZ,opZip,zeroP,opAppendZ,opMakeMap,opLookup,mboxB,opUpdate,↓reduceIte,Nat.reduceSub,Nat.reduceEqDiff,Nat.reduceAdd,Nat.reduceMul,Nat.reduceLT,Nat.reduceLeDiff,Int.reduceToNat,Int.reduceLE,Int.reduceLT,Int.reduceNeg,reduceCtorEq,gos,Int.reduceAdd,Int.reduceSub,Int.reduceMul,Int.reduceEq,simx,notIn_cons,notIn_nil] <;> simp [refsP,ne1,ne2]) (noVar_var (noVar_row (noVar_row nvh)) nvl) fgt_nil,?_⟩
                rw [← hu]
                funext c
                simp (maxSteps:=20000000) only [Heap.drop_at,rowH_app,Heap.put_at,Heap.none_at,List.mem_cons,List.not_mem_nil,or_false]
                by_cases e0:c=(36,8)::base
                · subst e0; simp [h14]
                by_cases e1:c=(900,i)::base
                · subst e1; simp [h14]
                by_cases e2:c=(31,4)::base
                · subst e2; simp [h14]
                simp [e0,e1,e2,h14]
              · rw [hn] at g1 cl
                have hX:=hX (by omega)
                rw [rowP_succ,List.length_map,hn] at g1
                rw [List.length_append,hn,List.length_singleton,rowP_succ,List.length_map,List.length_append,hn,List.length_singleton] at rp
                repeat (first|refine ⟨(by show drawK _ _=true; kernel_rfl:drawX _ _ _),?_⟩|exact (by show drawK _ _=true; kernel_rfl:drawX _ _ _)|simp -dsimp (maxSteps:=20000000) (disch:=omega) only [simx,zzC,zzB,tys,ite_self,opnL,callB,callX,readsB,stepOp,nilCmp,ofVal,opBuiltin,opLen,PV.sk,scalBin,scalUn,intBin,opLoad,natOf,opConvert,opField,cellsP,oneP,Value.oneCell',opStore,toIV,scalT,scalA,scalC,boxesA,boxesC,zipB_none,zipB_mx,isZ,opZip,zeroP,opAppendZ,opMakeMap,opLookup,mboxB,opUpdate,↓reduceIte,Nat.reduceSub,Nat.reduceEqDiff,Nat.reduceAdd,Nat.reduceMul,Nat.reduceLT,Nat.reduceLeDiff,Int.reduceToNat,Int.reduceLE,Int.reduceLT,Int.reduceNeg,reduceCtorEq,gos,Int.reduceAdd,Int.reduceSub,Int.reduceMul,Int.reduceEq,t1,tc,g1,ci,ru,cl,ll,SK.len])
                refine X_dopc rfl ?_
                repeat (first|refine ⟨(by show drawK _ _=true; kernel_rfl:drawX _ _ _),?_⟩|exact (by show drawK _ _=true; kernel_rfl:drawX _ _ _)|simp -dsimp (maxSteps:=20000000) (disch:=omega) only [simx,zzC,zzB,tys,ite_self,opnL,callB,callX,readsB,stepOp,nilCmp,ofVal,opBuiltin,opLen,PV.sk,scalBin,scalUn,intBin,opLoad,natOf,opConvert,opField,cellsP,oneP,Value.oneCell',opStore,toIV,scalT,scalA,scalC,boxesA,boxesC,zipB_none,zipB_mx,isZ,opZip,zeroP,opAppendZ,opMakeMap,opLookup,mboxB,opUpdate,↓reduceIte,Nat.reduceSub,Nat.reduceEqDiff,Nat.reduceAdd,Nat.reduceMul,Nat.reduceLT,Nat.reduceLeDiff,Int.reduceToNat,Int.reduceLE,Int.reduceLT,Int.reduceNeg,reduceCtorEq,gos,Int.reduceAdd,Int.reduceSub,Int.reduceMul,Int.reduceEq,h14])
                refine X_dopc rfl ?_
                repeat (first|refine ⟨(by show drawK _ _=true; kernel_rfl:drawX _ _ _),?_⟩|exact (by show drawK _ _=true; kernel_rfl:drawX _ _ _)|simp -dsimp (maxSteps:=20000000) (disch:=omega) only [simx,zzC,zzB,tys,ite_self,opnL,callB,callX,readsB,stepOp,nilCmp,ofVal,opBuiltin,opLen,PV.sk,scalBin,scalUn,intBin,opLoad,natOf,opConvert,opField,cellsP,oneP,Value.oneCell',opStore,toIV,scalT,scalA,scalC,boxesA,boxesC,zipB_none,zipB_mx,isZ,opZip,zeroP,opAppendZ,opMakeMap,opLookup,mboxB,opUpdate,↓reduceIte,Nat.reduceSub,Nat.reduceEqDiff,Nat.reduceAdd,Nat.reduceMul,Nat.reduceLT,Nat.reduceLeDiff,Int.reduceToNat,Int.reduceLE,Int.reduceLT,Int.reduceNeg,reduceCtorEq,gos,Int.reduceAdd,Int.reduceSub,Int.reduceMul,Int.reduceEq])
                refine X_dappend_own (z:=1) (cs:=X.map iu) 22 [.int .u64 0] [iu 0] (by simp only [tys]) (by simp only [tys]) rfl (by decide) (by simp [Heap.put_at]; exact hX) (by simp [hn]) (by simp [hn]) (by simp [Heap.put_at]; rfl) rfl (by simp only [tys]; omega) (by rw [mx_len]; omega) ?_
                have la:(X.map iu ++ [iu 0]).length=m + 1 + 1:=by simp [hn]
                have lm:X.map iu ++ [iu 0]=(X ++ [0]).map iu:=by simp
                rw [la,lm]
                repeat (first|refine ⟨(by show drawK _ _=true; kernel_rfl:drawX _ _ _),?_⟩|exact (by show drawK _ _=true; kernel_rfl:drawX _ _ _)|simp -dsimp (maxSteps:=20000000) (disch:=omega) only [simx,zzC,zzB,tys,ite_self,opnL,callB,callX,readsB,stepOp,nilCmp,ofVal,opBuiltin,opLen,PV.sk,scalBin,scalUn,intBin,opLoad,natOf,opConvert,opField,cellsP,oneP,Value.oneCell',opStore,toIV,scalT,scalA,scalC,boxesA,boxesC,zipB_none,zipB_mx,isZ,opZip,zeroP,opAppendZ,opMakeMap,opLookup,mboxB,opUpdate,↓reduceIte,Nat.reduceSub,Nat.reduceEqDiff,Nat.reduceAdd,Nat.reduceMul,Nat.reduceLT,Nat.reduceLeDiff,Int.reduceToNat,Int.reduceLE,Int.reduceLT,Int.reduceNeg,reduceCtorEq,gos,Int.reduceAdd,Int.reduceSub,Int.reduceMul,Int.reduceEq,t1,tc,ci,ile,ll,rp])
                refine ⟨cj,fgt_cons rfl (by simp -dsimp only [zzB,tys,ite_self,opnL,callB,callX,readsB,stepOp,nilCmp,ofVal,opBuiltin,opLen,PV.sk,scalBin,scalUn,intBin,opLoad,natOf,opConvert,opField,cellsP,oneP,Value.oneCell',opStore,toIV,scalT,scalA,scalC,boxesA,boxesC,zipB_none,zipB_mx,isZ,opZip,zeroP,opAppendZ,opMakeMap,opLookup,mboxB,opUpdate,↓reduceIte,Nat.reduceSub,Nat.reduceEqDiff,Nat.reduceAdd,Nat.reduceMul,Nat.reduceLT,Nat.reduceLeDiff,Int.reduceToNat,Int.reduceLE,Int.reduceLT,Int.reduceNeg,reduceCtorEq,gos,Int.reduceAdd,Int.reduceSub,Int.reduceMul,Int.reduceEq,simx,notIn_cons,notIn_nil] <;> simp [refsP,ne1,ne2]) (noVar_var (noVar_row (noVar_row nvh)) nvl) fgt_nil,?_⟩
                rw [← hu]
                funext c
                simp (maxSteps:=20000000) only [Heap.drop_at,rowH_app,Heap.put_at,Heap.none_at,List.mem_cons,List.not_mem_nil,or_false]
                by_cases e0:c=(36,8)::base
                · subst e0; simp [h14]
                by_cases e1:c=(900,i)::base
                · subst e1; simp [h14]
                by_cases e2:c=(31,4)::base
                · subst e2; simp [h14]
                simp [e0,e1,e2,h14]
            · have ej:j=T.us.length - (csF T i).length:=by omega
              have ic:=(I.cb (csF T i) (by unfold csF; rw [List.getD_eq_getElem?_getD,List.getElem?_eq_getElem (by rw [I.cl]; exact ci)]; exact List.getElem_mem _)).1
              have xl:(fP T i j i).length=T.us.length:=by rw [fP_at]; simp; omega
              have t1:=t0 i j
              have tc:=tC i j
              have g1:=rowsL_get (b:=base) (f:=fP T i j) ci
              unfold rowN at g1
              rw [xl] at g1
              have hend:rtH base R C R l T (fP T i j)=rtH base R C R l T (fP T (i + 1) 0):=by rw [ej,fP_full]
              have h14:=h36 i j
              have nvh:=nvH i j
              have ll:=crowsL_len base (fP T i j) R
              clear t0 tC t2 h36 nvH m1 cb cp
              generalize rtH base R C R l T (fP T i j)=h0 at t1 tc h14 nvh hend ⊢
              rcases hr:T.us.length with _|r
              · rw [hr] at t1 g1
                have nlt:¬ (((0:Nat):Int) < ((0:Nat):Int)):=by omega
                repeat (first|refine X_opc rfl ?_|refine X_dopc rfl ?_|refine ⟨(by show drawK _ _=true; kernel_rfl:drawX _ _ _),?_⟩|exact (by show drawK _ _=true; kernel_rfl:drawX _ _ _)|simp -dsimp (maxSteps:=20000000) (disch:=omega) only [simx,zzC,zzB,tys,ite_self,opnL,callB,callX,readsB,stepOp,nilCmp,ofVal,opBuiltin,opLen,PV.sk,scalBin,scalUn,intBin,opLoad,natOf,opConvert,opField,cellsP,oneP,Value.oneCell',opStore,toIV,scalT,scalA,scalC,boxesA,boxesC,zipB_none,zipB_mx,isZ,opZip,zeroP,opAppendZ,opMakeMap,opLookup,mboxB,opUpdate,↓reduceIte,Nat.reduceSub,Nat.reduceEqDiff,Nat.reduceAdd,Nat.reduceMul,Nat.reduceLT,Nat.reduceLeDiff,Int.reduceToNat,Int.reduceLE,Int.reduceLT,Int.reduceNeg,reduceCtorEq,gos,Int.reduceAdd,Int.reduceSub,Int.reduceMul,Int.reduceEq,t1,tc,g1,ci,ll,rowP_zero,SK.len,nlt])
                refine ⟨ci,fgt_cons rfl (by simp -dsimp only [zzB,tys,ite_self,opnL,callB,callX,readsB,stepOp,nilCmp,ofVal,opBuiltin,opLen,PV.sk,scalBin,scalUn,intBin,opLoad,natOf,opConvert,opField,cellsP,oneP,Value.oneCell',opStore,toIV,scalT,scalA,scalC,boxesA,boxesC,zipB_none,zipB_mx,isZ,opZip,zeroP,opAppendZ,opMakeMap,opLookup,mboxB,opUpdate,↓reduceIte,Nat.reduceSub,Nat.reduceEqDiff,Nat.reduceAdd,Nat.reduceMul,Nat.reduceLT,Nat.reduceLeDiff,Int.reduceToNat,Int.reduceLE,Int.reduceLT,Int.reduceNeg,reduceCtorEq,gos,Int.reduceAdd,Int.reduceSub,Int.reduceMul,Int.reduceEq,simx,notIn_cons,notIn_nil] <;> simp [refsP,ne1,ne2]) nvh fgt_nil,rfl,?_⟩
                rw [← hend]
                funext c
                rw [Heap.drop_at]
                split
                · rename_i e
                  rw [List.mem_singleton.1 e,h14]
                · rfl
              · rw [hr] at t1 g1
                have nlt:¬ (((r + 1:Nat):Int) < ((r + 1:Nat):Int)):=by omega
                repeat (first|refine X_opc rfl ?_|refine X_dopc rfl ?_|refine ⟨(by show drawK _ _=true; kernel_rfl:drawX _ _ _),?_⟩|exact (by show drawK _ _=true; kernel_rfl:drawX _ _ _)|simp -dsimp (maxSteps:=20000000) (disch:=omega) only [simx,zzC,zzB,tys,ite_self,opnL,callB,callX,readsB,stepOp,nilCmp,ofVal,opBuiltin,opLen,PV.sk,scalBin,scalUn,intBin,opLoad,natOf,opConvert,opField,cellsP,oneP,Value.oneCell',opStore,toIV,scalT,scalA,scalC,boxesA,boxesC,zipB_none,zipB_mx,isZ,opZip,zeroP,opAppendZ,opMakeMap,opLookup,mboxB,opUpdate,↓reduceIte,Nat.reduceSub,Nat.reduceEqDiff,Nat.reduceAdd,Nat.reduceMul,Nat.reduceLT,Nat.reduceLeDiff,Int.reduceToNat,Int.reduceLE,Int.reduceLT,Int.reduceNeg,reduceCtorEq,gos,Int.reduceAdd,Int.reduceSub,Int.reduceMul,Int.reduceEq,t1,tc,g1,ci,ll,rowP_succ,SK.len,nlt])
                refine ⟨ci,fgt_cons rfl (by simp -dsimp only [zzB,tys,ite_self,opnL,callB,callX,readsB,stepOp,nilCmp,ofVal,opBuiltin,opLen,PV.sk,scalBin,scalUn,intBin,opLoad,natOf,opConvert,opField,cellsP,oneP,Value.oneCell',opStore,toIV,scalT,scalA,scalC,boxesA,boxesC,zipB_none,zipB_mx,isZ,opZip,zeroP,opAppendZ,opMakeMap,opLookup,mboxB,opUpdate,↓reduceIte,Nat.reduceSub,Nat.reduceEqDiff,Nat.reduceAdd,Nat.reduceMul,Nat.reduceLT,Nat.reduceLeDiff,Int.reduceToNat,Int.reduceLE,Int.reduceLT,Int.reduceNeg,reduceCtorEq,gos,Int.reduceAdd,Int.reduceSub,Int.reduceMul,Int.reduceEq,simx,notIn_cons,notIn_nil] <;> simp [refsP,ne1,ne2]) nvh fgt_nil,rfl,?_⟩
                rw [← hend]
                funext c
                rw [Heap.drop_at]
                split
                · rename_i e
                  rw [List.mem_singleton.1 e,h14]
                · rfl
        · obtain rfl:R=i:=by omega
          have t1:=t0 R 0
          have t2:=t2 R 0
          have tc:=tC R 0
          have fin:∀ (x:Box),RtHp ((rtH base R C R l T (fP T R 0)).put ((0,1)::base) x) base R C T:=by
            intro x
            refine ⟨fun h => ?_,fun h => ?_,fun h => ?_,?_,fun k hk h => ?_⟩
            · simp [rtH,Heap.put_at,rowH_app,rowsH,rowsX,ne1,ne2]; intro h2; exact absurd (by rw [h2]; rfl) h
            · simp [rtH,Heap.put_at,rowH_app,rowsH,rowsX,ne1,ne2]; intro h2; exact absurd (by rw [h2]; rfl) h
            · simp [rtH,Heap.put_at,rowH_app,rowsH,rowsX,ne1,ne2]; intro h2; exact absurd (by rw [h2]; rfl) h
            · simp only [Heap.put_at]; rw [if_neg (by simp)]; exact tc
            · simp only [Heap.put_at]; rw [if_neg (by simp)]
              unfold rtH
              simp only [rowH_app,rowsH,rowsX_at hk h]
              simp
          have ll:=crowsL_len base (fP T R 0) R
          have nlt:¬ (R:Int) < (R:Int):=by omega
          rcases hr:T.us.length with _|r
          · rw [hr] at t1
            repeat (first|refine X_opc rfl ?_|refine X_dopc rfl ?_|refine ⟨(by show drawK _ _=true; kernel_rfl:drawX _ _ _),?_⟩|exact (by show drawK _ _=true; kernel_rfl:drawX _ _ _)|simp -dsimp (maxSteps:=20000000) (disch:=omega) only [simx,zzC,zzB,tys,ite_self,opnL,callB,callX,readsB,stepOp,nilCmp,ofVal,opBuiltin,opLen,PV.sk,scalBin,scalUn,intBin,opLoad,natOf,opConvert,opField,cellsP,oneP,Value.oneCell',opStore,toIV,scalT,scalA,scalC,boxesA,boxesC,zipB_none,zipB_mx,isZ,opZip,zeroP,opAppendZ,opMakeMap,opLookup,mboxB,opUpdate,↓reduceIte,Nat.reduceSub,Nat.reduceEqDiff,Nat.reduceAdd,Nat.reduceMul,Nat.reduceLT,Nat.reduceLeDiff,Int.reduceToNat,Int.reduceLE,Int.reduceLT,Int.reduceNeg,reduceCtorEq,zzR,gos,Int.reduceAdd,Int.reduceSub,Int.reduceMul,Int.reduceEq,t1,t2,tc,ll,SK.len,nlt,rowP_zero])
            rw [cp]
            exact ⟨rfl,fin _⟩
          · rw [hr] at t1
            repeat (first|refine X_opc rfl ?_|refine X_dopc rfl ?_|refine ⟨(by show drawK _ _=true; kernel_rfl:drawX _ _ _),?_⟩|exact (by show drawK _ _=true; kernel_rfl:drawX _ _ _)|simp -dsimp (maxSteps:=20000000) (disch:=omega) only [simx,zzC,zzB,tys,ite_self,opnL,callB,callX,readsB,stepOp,nilCmp,ofVal,opBuiltin,opLen,PV.sk,scalBin,scalUn,intBin,opLoad,natOf,opConvert,opField,cellsP,oneP,Value.oneCell',opStore,toIV,scalT,scalA,scalC,boxesA,boxesC,zipB_none,zipB_mx,isZ,opZip,zeroP,opAppendZ,opMakeMap,opLookup,mboxB,opUpdate,↓reduceIte,Nat.reduceSub,Nat.reduceEqDiff,Nat.reduceAdd,Nat.reduceMul,Nat.reduceLT,Nat.reduceLeDiff,Int.reduceToNat,Int.reduceLE,Int.reduceLT,Int.reduceNeg,reduceCtorEq,zzR,gos,Int.reduceAdd,Int.reduceSub,Int.reduceMul,Int.reduceEq,t1,t2,tc,ll,SK.len,nlt,rowP_succ])
            rw [cp]
            exact ⟨rfl,fin _⟩
theorem rtake_walk {P R C:Nat} {l:List Int} (hP:Prm P) (M:Mt P R C l) (hin:∀ a ∈ l,In P a):CallsP Try.prog 41 [u64 P,matP R C l] (.tup [cupQ (tkCup P C R l),i64 0]):=by
  refine CallsP.of_low mixed rfl fun base => ?_
  have I:=tkN_I hP M hin R (Nat.le_refl R)
  have r1:=M.r1
  obtain ⟨hu,h1,H⟩:=rtake_run hP M hin base
  generalize hT:tkN P C l R=T at I h1 H
  refine ⟨_,hu,h1,?_⟩
  have e:tkCup P C R l=(T.rows,T.cols,(List.range R).map (fP T R 0),T.us):=by unfold tkCup; rw [hT,fP_cs I]
  have cp:clmP ((31,4)::base) R=.view ((31,4)::base) 0 1 R R:=if_neg (by omega)
  rw [e,cp]
  exact low_cup (b:=base) I.rl I.ql rfl H.r H.q H.u (by omega) H.c H.f (fun u hu => (I.ul u hu).1)
end Go.Proofs.Ytmalpmnmknpphaa.TM
namespace Go.Proofs.Ytmalpmnmknpphaa.TM
open Go Go.RowKit
attribute [local irreducible] K W WOps Effs Xg Xo Xr Xdg Xdo Xdr Xif CallsP CallR
section
variable {P R C:Nat} {l n:List Int}
theorem diff_cl (hl:l.length=R * C) {i j:Nat} (hi:i < R) (hj:j < C):cl C (wrongM P l n) i j=(cl C l i j - cl C n i j) % P:=by
  have:=ic_bd (c:=C) hi
  unfold wrongM cl
  rw [tbl_getD _ (by omega)]
theorem diff_iff (hl:l.length=R * C) (hn:n.length=R * C) {x:List Int} (hx:x.length=C) :
    timesM P R C l x=timesM P R C n x ↔ timesM P R C (wrongM P l n) x=zeroV R:=by
  have wl:(wrongM P l n).length=R * C:=by rw [wrongM_len,hl]
  have e1:∀ i,i < R → (timesM P R C l x).getD i 0=apX C (cl C l) (fun j => x.getD j 0) i % P:=fun i hi => timesM_ap hl hx hi
  have e2:∀ i,i < R → (timesM P R C n x).getD i 0=apX C (cl C n) (fun j => x.getD j 0) i % P:=fun i hi => timesM_ap hn hx hi
  have e3:∀ i,i < R → (timesM P R C (wrongM P l n) x).getD i 0=(apX C (cl C l) (fun j => x.getD j 0) i - apX C (cl C n) (fun j => x.getD j 0) i) % P:=fun i hi => by
    rw [timesM_ap wl hx hi]
    unfold apX
    rw [← sumN_sub]
    refine sumN_mod fun j hj => ?_
    rw [diff_cl hl hi hj,← Int.sub_mul]
    exact em_mul em_refl rfl
  constructor
  · intro h
    refine list_ext0 (timesM_len ..) (zeroV_len R) fun i hi => ?_
    rw [e3 i hi,zeroV_get0 hi]
    have h1:=e1 i hi
    rw [h,e2 i hi] at h1
    exact emod_sub0.1 h1.symm
  · intro h
    refine list_ext0 (timesM_len ..) (timesM_len ..) fun i hi => ?_
    rw [e1 i hi,e2 i hi]
    have h1:=e3 i hi
    rw [h,zeroV_get0 hi] at h1
    exact emod_sub0.2 h1.symm
end
theorem pass13_cnt {P R C:Nat} {l:List Int} {c:CupT} (hP:Prm P) (M:Mt P R C l) (hin:∀ a ∈ l,In P a) (W:CupW P R C c) (H:CpC P R C (mkA c) c):∃ f:Nat → Bool,(∀ n,f n=decide (timesM P R C l (vecL P n C)=ctM P c (vecL P n C))) ∧
    (tkCup P C R l=c → cntN (P ^ C) f=P ^ C) ∧ (tkCup P C R l ≠ c → cntN (P ^ C) f ≤ P ^ (C - 1)):=by
  obtain ⟨N,nin,ncl⟩:=makeM_mt (c:=c) M.hp M.r1 M.r2 M.c1 M.c2
  have mk:∀ n,timesM P R C (makeM P c.2.2.1 c.2.2.2 R c.1.length C) (vecL P n C)=ctM P c (vecL P n C):=fun n => made_look N.len W (fun i hi j hj => ncl i hi j hj) (vecL_len P n C)
  have ti:=take_is hP M hin W H
  generalize makeM P c.2.2.1 c.2.2.2 R c.1.length C=w at *
  have D:Mt P R C (wrongM P l w):=⟨M.hp,M.r1,M.r2,M.c1,M.c2,by rw [wrongM_len,M.len],fun x hx => (wrongM_in M.hp _ _ x hx).2⟩
  have din:=wrongM_in M.hp l w
  refine ⟨_,fun n => rfl,fun h => ?_,fun h => ?_⟩
  · refine cnt_all fun n _ => decide_eq_true ?_
    exact made_look M.len W (fun i hi j hj => ti.1 h i hi j hj) (vecL_len P n C)
  · have hk:=cnt_ker hP D din
    rw [cnt_congr (g:=kB P R C (cl C (wrongM P l w))) fun n _ => ?_,hk]
    · refine Nat.pow_le_pow_right (by have:=hP.1; omega) ?_
      have:(tkCup P C R (wrongM P l w)).1.length ≠ 0:=fun e => h (ti.2 fun i hi j hj => by
        have z:=rank_zero hP D din e
        have d:=diff_cl (P:=P) (n:=w) M.len hi hj
        rw [z] at d
        have b:=ic_bd (c:=C) hi
        unfold cl at d
        rw [zeroV_get0 (by omega)] at d
        have:=emod_sub0.2 d.symm
        exact this.trans (ncl i hi j hj))
      omega
    · have h1:=diff_iff (P:=P) M.len N.len (vecL_len P n C)
      have h2:=ker_vec (P:=P) D.len (n:=n)
      rw [← mk n]
      by_cases hh:timesM P R C l (vecL P n C)=timesM P R C w (vecL P n C)
      · rw [decide_eq_true hh]; exact (h2.2 (h1.1 hh)).symm
      · rw [decide_eq_false hh]
        cases hb:kB P R C (cl C (wrongM P l w)) n with
        | false => rfl
        | true => exact absurd (h1.2 (h2.1 hb)) hh
set_option maxHeartbeats 16000000 in
theorem shapeParts_true (a0:Int) (a1:Int × Int × List Int) (a2:List Int × List Int × List (List Int) × List (List Int)) (w0:(Lit.int .u64 a0).wf=true) (w1:((Lit.int .i64 a1.1).wf=true ∧ (Lit.int .i64 a1.2.1).wf=true ∧ (a1.2.2.length ≤ maxLen ∧ ∀ e23_ ∈ a1.2.2,(Lit.int .u64 e23_).wf=true))) (w2:((a2.1.length ≤ maxLen ∧ ∀ e52_ ∈ a2.1,(Lit.int .i64 e52_).wf=true) ∧ (a2.2.1.length ≤ maxLen ∧ ∀ e52_ ∈ a2.2.1,(Lit.int .i64 e52_).wf=true) ∧ (a2.2.2.1.length ≤ maxLen ∧ ∀ e53_ ∈ a2.2.2.1,(e53_.length ≤ maxLen ∧ ∀ e23_ ∈ e53_,(Lit.int .u64 e23_).wf=true)) ∧ (a2.2.2.2.length ≤ maxLen ∧ ∀ e53_ ∈ a2.2.2.2,(e53_.length ≤ maxLen ∧ ∀ e23_ ∈ e53_,(Lit.int .u64 e23_).wf=true)))) :
    CallsP Try.prog 7 [.i (IV.v (.int .u64 a0)),.agg [.i (IV.v (.int .i64 a1.1)),.i (IV.v (.int .i64 a1.2.1)),.i (IV.l a1.2.2.length (a1.2.2.map fun y => IV.v (.int .u64 y)))],.agg [.i (IV.l a2.1.length (a2.1.map fun y => IV.v (.int .i64 y))),.i (IV.l a2.2.1.length (a2.2.1.map fun y => IV.v (.int .i64 y))),.i (IV.l a2.2.2.1.length (a2.2.2.1.map fun y => IV.l y.length (y.map fun y => IV.v (.int .u64 y)))),.i (IV.l a2.2.2.2.length (a2.2.2.2.map fun y => IV.l y.length (y.map fun y => IV.v (.int .u64 y))))]] (bl true):=by
  obtain ⟨r,c,l⟩:=a1
  obtain ⟨v1,v2,v3,v4⟩:=w1
  obtain ⟨_,_,⟨_,u3⟩,_,u4⟩:=w2
  simp only at v1 v2 v3 v4
  have wp:=w64_of w0
  obtain ⟨P,rfl⟩:∃ P:Nat,a0=P:=⟨a0.toNat,by have:=wp.1; omega⟩
  have wl:=w64_all v4
  have d0:=awake13_walk
  change CallsP Try.prog 7 [u64 P,matP r c l,cupQ a2] (bl true)
  by_cases c0:(11:Int) < P
  · obtain ⟨b1,b2,b3,b4⟩:=a2
    refine X_startP (n:=101) (m:=3) (rs:=[.tmp 6]) Try.func7 rfl rfl rfl rfl (by decide) fun base => ?_
    repeat (first|((first|refine X_call_fn2 rfl (by simp only [tys]) ?_|refine X_dcall_fn2 rfl (by simp only [tys]) ?_); apply Exists.intro; apply And.intro; (focus (simp -dsimp only [simx,zzC,zzB,tys,ite_self,opnL,callB,callX,readsB,stepOp,nilCmp,ofVal,opBuiltin,opLen,PV.sk,scalBin,scalUn,intBin,opLoad,natOf,opConvert,opField,cellsP,oneP,Value.oneCell',opStore,toIV,scalT,scalA,scalC,boxesA,boxesC,zipB_none,zipB_mx,isZ,opZip,zeroP,opAppendZ,opMakeMap,opLookup,mboxB,opUpdate,↓reduceIte,Nat.reduceSub,Nat.reduceEqDiff,Nat.reduceAdd,Nat.reduceMul,Nat.reduceLT,Nat.reduceLeDiff,Int.reduceToNat,Int.reduceLE,Int.reduceLT,Int.reduceNeg,reduceCtorEq,zzL,if_true,if_false] <;> rfl)); apply Exists.intro; apply And.intro; (focus (first|exact d0)))|refine X_opc rfl ?_|refine X_dopc rfl ?_|refine ⟨(by show drawK _ _=true; kernel_rfl:drawX _ _ _),?_⟩|exact (by show drawK _ _=true; kernel_rfl:drawX _ _ _)|simp -dsimp (maxSteps:=20000000) (disch:=omega) only [simx,zzC,zzB,tys,ite_self,opnL,callB,callX,readsB,stepOp,nilCmp,ofVal,opBuiltin,opLen,PV.sk,scalBin,scalUn,intBin,opLoad,natOf,opConvert,opField,cellsP,oneP,Value.oneCell',opStore,toIV,scalT,scalA,scalC,boxesA,boxesC,zipB_none,zipB_mx,isZ,opZip,zeroP,opAppendZ,opMakeMap,opLookup,mboxB,opUpdate,↓reduceIte,Nat.reduceSub,Nat.reduceEqDiff,Nat.reduceAdd,Nat.reduceMul,Nat.reduceLT,Nat.reduceLeDiff,Int.reduceToNat,Int.reduceLE,Int.reduceLT,Int.reduceNeg,reduceCtorEq,zzR,gos,Int.reduceAdd,Int.reduceSub,Int.reduceMul,Int.reduceEq,c0])
  obtain ⟨pb,d1,hpr⟩:=is_walk P (by omega)
  have d2:=mright_walk P r c l v3
  obtain ⟨sb,d3,hsb⟩:=short13_walk a2
  cases pb with
  | false =>
    obtain ⟨b1,b2,b3,b4⟩:=a2
    refine X_startP (n:=101) (m:=3) (rs:=[.tmp 6]) Try.func7 rfl rfl rfl rfl (by decide) fun base => ?_
    repeat (first|((first|refine X_call_fn2 rfl (by simp only [tys]) ?_|refine X_dcall_fn2 rfl (by simp only [tys]) ?_); apply Exists.intro; apply And.intro; (focus (simp -dsimp only [simx,zzC,zzB,tys,ite_self,opnL,callB,callX,readsB,stepOp,nilCmp,ofVal,opBuiltin,opLen,PV.sk,scalBin,scalUn,intBin,opLoad,natOf,opConvert,opField,cellsP,oneP,Value.oneCell',opStore,toIV,scalT,scalA,scalC,boxesA,boxesC,zipB_none,zipB_mx,isZ,opZip,zeroP,opAppendZ,opMakeMap,opLookup,mboxB,opUpdate,↓reduceIte,Nat.reduceSub,Nat.reduceEqDiff,Nat.reduceAdd,Nat.reduceMul,Nat.reduceLT,Nat.reduceLeDiff,Int.reduceToNat,Int.reduceLE,Int.reduceLT,Int.reduceNeg,reduceCtorEq,zzL,if_true,if_false] <;> rfl)); apply Exists.intro; apply And.intro; (focus (first|exact d0|exact d1)))|refine X_opc rfl ?_|refine X_dopc rfl ?_|refine ⟨(by show drawK _ _=true; kernel_rfl:drawX _ _ _),?_⟩|exact (by show drawK _ _=true; kernel_rfl:drawX _ _ _)|simp -dsimp (maxSteps:=20000000) (disch:=omega) only [simx,zzC,zzB,tys,ite_self,opnL,callB,callX,readsB,stepOp,nilCmp,ofVal,opBuiltin,opLen,PV.sk,scalBin,scalUn,intBin,opLoad,natOf,opConvert,opField,cellsP,oneP,Value.oneCell',opStore,toIV,scalT,scalA,scalC,boxesA,boxesC,zipB_none,zipB_mx,isZ,opZip,zeroP,opAppendZ,opMakeMap,opLookup,mboxB,opUpdate,↓reduceIte,Nat.reduceSub,Nat.reduceEqDiff,Nat.reduceAdd,Nat.reduceMul,Nat.reduceLT,Nat.reduceLeDiff,Int.reduceToNat,Int.reduceLE,Int.reduceLT,Int.reduceNeg,reduceCtorEq,zzR,gos,Int.reduceAdd,Int.reduceSub,Int.reduceMul,Int.reduceEq,c0])
  | true =>
  have hP:=hpr rfl
  by_cases c1:(40:Int) < l.length
  · obtain ⟨b1,b2,b3,b4⟩:=a2
    refine X_startP (n:=101) (m:=3) (rs:=[.tmp 6]) Try.func7 rfl rfl rfl rfl (by decide) fun base => ?_
    repeat (first|((first|refine X_call_fn2 rfl (by simp only [tys]) ?_|refine X_dcall_fn2 rfl (by simp only [tys]) ?_); apply Exists.intro; apply And.intro; (focus (simp -dsimp only [simx,zzC,zzB,tys,ite_self,opnL,callB,callX,readsB,stepOp,nilCmp,ofVal,opBuiltin,opLen,PV.sk,scalBin,scalUn,intBin,opLoad,natOf,opConvert,opField,cellsP,oneP,Value.oneCell',opStore,toIV,scalT,scalA,scalC,boxesA,boxesC,zipB_none,zipB_mx,isZ,opZip,zeroP,opAppendZ,opMakeMap,opLookup,mboxB,opUpdate,↓reduceIte,Nat.reduceSub,Nat.reduceEqDiff,Nat.reduceAdd,Nat.reduceMul,Nat.reduceLT,Nat.reduceLeDiff,Int.reduceToNat,Int.reduceLE,Int.reduceLT,Int.reduceNeg,reduceCtorEq,zzL,if_true,if_false] <;> rfl)); apply Exists.intro; apply And.intro; (focus (first|exact d0|exact d1)))|refine X_opc rfl ?_|refine X_dopc rfl ?_|refine ⟨(by show drawK _ _=true; kernel_rfl:drawX _ _ _),?_⟩|exact (by show drawK _ _=true; kernel_rfl:drawX _ _ _)|simp -dsimp (maxSteps:=20000000) (disch:=omega) only [simx,zzC,zzB,tys,ite_self,opnL,callB,callX,readsB,stepOp,nilCmp,ofVal,opBuiltin,opLen,PV.sk,scalBin,scalUn,intBin,opLoad,natOf,opConvert,opField,cellsP,oneP,Value.oneCell',opStore,toIV,scalT,scalA,scalC,boxesA,boxesC,zipB_none,zipB_mx,isZ,opZip,zeroP,opAppendZ,opMakeMap,opLookup,mboxB,opUpdate,↓reduceIte,Nat.reduceSub,Nat.reduceEqDiff,Nat.reduceAdd,Nat.reduceMul,Nat.reduceLT,Nat.reduceLeDiff,Int.reduceToNat,Int.reduceLE,Int.reduceLT,Int.reduceNeg,reduceCtorEq,zzR,gos,Int.reduceAdd,Int.reduceSub,Int.reduceMul,Int.reduceEq,c0,c1,SK.len])
  cases sb with
  | false =>
    obtain ⟨b1,b2,b3,b4⟩:=a2
    refine X_startP (n:=101) (m:=3) (rs:=[.tmp 6]) Try.func7 rfl rfl rfl rfl (by decide) fun base => ?_
    repeat (first|((first|refine X_call_fn2 rfl (by simp only [tys]) ?_|refine X_dcall_fn2 rfl (by simp only [tys]) ?_); apply Exists.intro; apply And.intro; (focus (simp -dsimp only [simx,zzC,zzB,tys,ite_self,opnL,callB,callX,readsB,stepOp,nilCmp,ofVal,opBuiltin,opLen,PV.sk,scalBin,scalUn,intBin,opLoad,natOf,opConvert,opField,cellsP,oneP,Value.oneCell',opStore,toIV,scalT,scalA,scalC,boxesA,boxesC,zipB_none,zipB_mx,isZ,opZip,zeroP,opAppendZ,opMakeMap,opLookup,mboxB,opUpdate,↓reduceIte,Nat.reduceSub,Nat.reduceEqDiff,Nat.reduceAdd,Nat.reduceMul,Nat.reduceLT,Nat.reduceLeDiff,Int.reduceToNat,Int.reduceLE,Int.reduceLT,Int.reduceNeg,reduceCtorEq,zzL,if_true,if_false] <;> rfl)); apply Exists.intro; apply And.intro; (focus (first|exact d0|exact d1|exact d3)))|refine X_opc rfl ?_|refine X_dopc rfl ?_|refine ⟨(by show drawK _ _=true; kernel_rfl:drawX _ _ _),?_⟩|exact (by show drawK _ _=true; kernel_rfl:drawX _ _ _)|simp -dsimp (maxSteps:=20000000) (disch:=omega) only [simx,zzC,zzB,tys,ite_self,opnL,callB,callX,readsB,stepOp,nilCmp,ofVal,opBuiltin,opLen,PV.sk,scalBin,scalUn,intBin,opLoad,natOf,opConvert,opField,cellsP,oneP,Value.oneCell',opStore,toIV,scalT,scalA,scalC,boxesA,boxesC,zipB_none,zipB_mx,isZ,opZip,zeroP,opAppendZ,opMakeMap,opLookup,mboxB,opUpdate,↓reduceIte,Nat.reduceSub,Nat.reduceEqDiff,Nat.reduceAdd,Nat.reduceMul,Nat.reduceLT,Nat.reduceLeDiff,Int.reduceToNat,Int.reduceLE,Int.reduceLT,Int.reduceNeg,reduceCtorEq,zzR,gos,Int.reduceAdd,Int.reduceSub,Int.reduceMul,Int.reduceEq,c0,c1,SK.len])
  | true =>
  obtain ⟨sh,sr,sc⟩:=hsb.1 rfl
  cases hm:MatB P r c l with
  | false =>
    rw [hm] at d2
    obtain ⟨b1,b2,b3,b4⟩:=a2
    refine X_startP (n:=101) (m:=3) (rs:=[.tmp 6]) Try.func7 rfl rfl rfl rfl (by decide) fun base => ?_
    repeat (first|((first|refine X_call_fn2 rfl (by simp only [tys]) ?_|refine X_dcall_fn2 rfl (by simp only [tys]) ?_); apply Exists.intro; apply And.intro; (focus (simp -dsimp only [simx,zzC,zzB,tys,ite_self,opnL,callB,callX,readsB,stepOp,nilCmp,ofVal,opBuiltin,opLen,PV.sk,scalBin,scalUn,intBin,opLoad,natOf,opConvert,opField,cellsP,oneP,Value.oneCell',opStore,toIV,scalT,scalA,scalC,boxesA,boxesC,zipB_none,zipB_mx,isZ,opZip,zeroP,opAppendZ,opMakeMap,opLookup,mboxB,opUpdate,↓reduceIte,Nat.reduceSub,Nat.reduceEqDiff,Nat.reduceAdd,Nat.reduceMul,Nat.reduceLT,Nat.reduceLeDiff,Int.reduceToNat,Int.reduceLE,Int.reduceLT,Int.reduceNeg,reduceCtorEq,zzL,if_true,if_false] <;> rfl)); apply Exists.intro; apply And.intro; (focus (first|exact d0|exact d1|exact d3|exact d2)))|refine X_opc rfl ?_|refine X_dopc rfl ?_|refine ⟨(by show drawK _ _=true; kernel_rfl:drawX _ _ _),?_⟩|exact (by show drawK _ _=true; kernel_rfl:drawX _ _ _)|simp -dsimp (maxSteps:=20000000) (disch:=omega) only [simx,zzC,zzB,tys,ite_self,opnL,callB,callX,readsB,stepOp,nilCmp,ofVal,opBuiltin,opLen,PV.sk,scalBin,scalUn,intBin,opLoad,natOf,opConvert,opField,cellsP,oneP,Value.oneCell',opStore,toIV,scalT,scalA,scalC,boxesA,boxesC,zipB_none,zipB_mx,isZ,opZip,zeroP,opAppendZ,opMakeMap,opLookup,mboxB,opUpdate,↓reduceIte,Nat.reduceSub,Nat.reduceEqDiff,Nat.reduceAdd,Nat.reduceMul,Nat.reduceLT,Nat.reduceLeDiff,Int.reduceToNat,Int.reduceLE,Int.reduceLT,Int.reduceNeg,reduceCtorEq,zzR,gos,Int.reduceAdd,Int.reduceSub,Int.reduceMul,Int.reduceEq,c0,c1,SK.len])
  | true =>
  rw [hm] at d2
  obtain ⟨R,C,rfl,rfl,M⟩:=mat_of hm
  have hin:∀ a ∈ l,In P a:=fun a ha => in_of M.has wl ha
  obtain ⟨hb,d4,hh⟩:=has13_walk (p:=P) (R:=R) (C:=C) (c:=a2) (by omega) (by omega) (by have:=sh.1; omega) (by have:=sh.2.1; omega)
  cases hb with
  | false =>
    obtain ⟨b1,b2,b3,b4⟩:=a2
    refine X_startP (n:=101) (m:=3) (rs:=[.tmp 6]) Try.func7 rfl rfl rfl rfl (by decide) fun base => ?_
    repeat (first|((first|refine X_call_fn2 rfl (by simp only [tys]) ?_|refine X_dcall_fn2 rfl (by simp only [tys]) ?_); apply Exists.intro; apply And.intro; (focus (simp -dsimp only [simx,zzC,zzB,tys,ite_self,opnL,callB,callX,readsB,stepOp,nilCmp,ofVal,opBuiltin,opLen,PV.sk,scalBin,scalUn,intBin,opLoad,natOf,opConvert,opField,cellsP,oneP,Value.oneCell',opStore,toIV,scalT,scalA,scalC,boxesA,boxesC,zipB_none,zipB_mx,isZ,opZip,zeroP,opAppendZ,opMakeMap,opLookup,mboxB,opUpdate,↓reduceIte,Nat.reduceSub,Nat.reduceEqDiff,Nat.reduceAdd,Nat.reduceMul,Nat.reduceLT,Nat.reduceLeDiff,Int.reduceToNat,Int.reduceLE,Int.reduceLT,Int.reduceNeg,reduceCtorEq,zzL,if_true,if_false] <;> rfl)); apply Exists.intro; apply And.intro; (focus (first|exact d0|exact d1|exact d3|exact d2|exact d4)))|refine X_opc rfl ?_|refine X_dopc rfl ?_|refine ⟨(by show drawK _ _=true; kernel_rfl:drawX _ _ _),?_⟩|exact (by show drawK _ _=true; kernel_rfl:drawX _ _ _)|simp -dsimp (maxSteps:=20000000) (disch:=omega) only [simx,zzC,zzB,tys,ite_self,opnL,callB,callX,readsB,stepOp,nilCmp,ofVal,opBuiltin,opLen,PV.sk,scalBin,scalUn,intBin,opLoad,natOf,opConvert,opField,cellsP,oneP,Value.oneCell',opStore,toIV,scalT,scalA,scalC,boxesA,boxesC,zipB_none,zipB_mx,isZ,opZip,zeroP,opAppendZ,opMakeMap,opLookup,mboxB,opUpdate,↓reduceIte,Nat.reduceSub,Nat.reduceEqDiff,Nat.reduceAdd,Nat.reduceMul,Nat.reduceLT,Nat.reduceLeDiff,Int.reduceToNat,Int.reduceLE,Int.reduceLT,Int.reduceNeg,reduceCtorEq,zzR,gos,Int.reduceAdd,Int.reduceSub,Int.reduceMul,Int.reduceEq,c0,c1,SK.len])
  | true =>
  obtain ⟨hp,W,H⟩:=has_cup (hh.1 rfl) (fun u hu a ha => (w64_of ((u3 u hu).2 a ha)).1) (fun u hu a ha => (w64_of ((u4 u hu).2 a ha)).1)
  obtain ⟨f,hf,f2,f3⟩:=pass13_cnt hP M hin W H
  have C1:=M.c1
  have C2:=M.c2
  have P2:2 ≤ P:=hP.1
  have P11:P ≤ 11:=by omega
  have rounds:∀ n:Nat,n < 18446744073709551616 → CallsP Try.prog 16 [u64 P,u64 n,i64 C] (lu (vecL P n C)) ∧ CallsP Try.prog 40 [u64 P,matP R C l,cupQ a2,lu (vecL P n C)] (.tup [bl (f n),i64 0]):=fun n hn => by
    refine ⟨vector12_walk (by omega) n C C1 C2 hn,?_⟩
    rw [hf n]
    exact looks13_of M hin W d4 (vecL_in (by omega) n C) (vecL_len ..)
  have s1:=rtake_walk hP M hin
  have tw:=tkCup_W hP M hin
  have rk:=CpC.rle_c (tkCup_Cp hP M hin)
  have rr:=tw.rle
  have r2:=M.r2
  have s2:=same13_walk (tkCup P C R l) a2 (by omega) (by have:=tw.ql; omega) (by have:=tw.cl; omega) (by have:=tw.ul; omega) (fun u hu => by have:=(tw.cr u hu).1; omega) (fun u hu => by have:=(tw.ur u hu).1; omega)
  obtain ⟨G,hG⟩:∃ G:Nat → Nat,G=fun j => P ^ j:=⟨_,rfl⟩
  have G0:G 0=1:=by rw [hG]; rfl
  have Gn:∀ j,G j * P=G (j + 1):=fun j => by rw [hG]; exact (Nat.pow_succ ..).symm
  have hN:P ^ C=G C:=by rw [hG]
  have hM:P ^ (C - 1)=G (C - 1):=by rw [hG]
  have hQ:((G C:Nat):Int) / (P:Int)=((G (C - 1):Nat):Int):=by
    rw [show G C=G (C - 1) * P by rw [Gn,show C - 1 + 1=C by omega],Int.natCast_mul]
    exact Int.mul_ediv_cancel _ (by omega)
  have gle:G (C - 1) ≤ G C:=by rw [hG]; exact Nat.pow_le_pow_right (by omega) (by omega)
  rw [hN] at f2 f3
  rw [hM] at f3
  have f4:(decide (tkCup P C R l=a2)=true → cntN (G C) f=G C) ∧ (decide (tkCup P C R l=a2)=false → cntN (G C) f ≤ G (C - 1)):=⟨fun h => f2 (of_decide_eq_true h),fun h => f3 (of_decide_eq_false h)⟩
  generalize decide (tkCup P C R l=a2)=same at s2 f4
  clear f2 f3 hN hM hG hP hpr hin wl v4 hf W H hh hsb sh M tw rk rr u3 u4
  have p0:¬ (P:Int)=0:=by omega
  generalize tkCup P C R l=t at s1 s2
  obtain ⟨rws,cls,cc,uu⟩:=a2
  obtain ⟨t1,t2,t3,t4⟩:=t
  refine X_startP (n:=101) (m:=3) (rs:=[.tmp 6]) Try.func7 rfl rfl rfl rfl (by decide) fun base => ?_
  repeat (first|((first|refine X_call_fn2 rfl (by simp only [tys]) ?_|refine X_dcall_fn2 rfl (by simp only [tys]) ?_); apply Exists.intro; apply And.intro; (focus (simp -dsimp only [simx,zzC,zzB,tys,ite_self,opnL,callB,callX,readsB,stepOp,nilCmp,ofVal,opBuiltin,opLen,PV.sk,scalBin,scalUn,intBin,opLoad,natOf,opConvert,opField,cellsP,oneP,Value.oneCell',opStore,toIV,scalT,scalA,scalC,boxesA,boxesC,zipB_none,zipB_mx,isZ,opZip,zeroP,opAppendZ,opMakeMap,opLookup,mboxB,opUpdate,↓reduceIte,Nat.reduceSub,Nat.reduceEqDiff,Nat.reduceAdd,Nat.reduceMul,Nat.reduceLT,Nat.reduceLeDiff,Int.reduceToNat,Int.reduceLE,Int.reduceLT,Int.reduceNeg,reduceCtorEq,zzL,if_true,if_false] <;> rfl)); apply Exists.intro; apply And.intro; (focus (first|exact d0|exact d1|exact d3|exact d2|exact d4)))|refine X_opc rfl ?_|refine X_dopc rfl ?_|refine ⟨(by show drawK _ _=true; kernel_rfl:drawX _ _ _),?_⟩|exact (by show drawK _ _=true; kernel_rfl:drawX _ _ _)|simp -dsimp (maxSteps:=20000000) (disch:=omega) only [simx,zzC,zzB,tys,ite_self,opnL,callB,callX,readsB,stepOp,nilCmp,ofVal,opBuiltin,opLen,PV.sk,scalBin,scalUn,intBin,opLoad,natOf,opConvert,opField,cellsP,oneP,Value.oneCell',opStore,toIV,scalT,scalA,scalC,boxesA,boxesC,zipB_none,zipB_mx,isZ,opZip,zeroP,opAppendZ,opMakeMap,opLookup,mboxB,opUpdate,↓reduceIte,Nat.reduceSub,Nat.reduceEqDiff,Nat.reduceAdd,Nat.reduceMul,Nat.reduceLT,Nat.reduceLeDiff,Int.reduceToNat,Int.reduceLE,Int.reduceLT,Int.reduceNeg,reduceCtorEq,gos,Int.reduceAdd,Int.reduceSub,Int.reduceMul,Int.reduceEq,c0,c1,SK.len])
  refine X_loopH [0,4,5,7,8] [] (0) (C) (fun j => G j ≤ 2000) (fun j => [(7,u64 (G j:Int)),(8,i64 j)]) (fun j => (Heap.none.put ((0,0)::base) (.var [i64 R,i64 C,lu l])).put ((0,1)::base) (.var [li rws,li cls,llP cc,llP uu])) ?_ ?_ ?_ ?_ ?_ (by decide) ?_
  · exact (fgt_nil)
  · ((simp -dsimp (disch:=omega) only [simx,zzB,tys,ite_self,opnL,callB,callX,readsB,stepOp,nilCmp,ofVal,opBuiltin,opLen,PV.sk,scalBin,scalUn,intBin,opLoad,natOf,opConvert,opField,cellsP,oneP,Value.oneCell',opStore,toIV,scalT,scalA,scalC,boxesA,boxesC,zipB_none,zipB_mx,isZ,opZip,zeroP,opAppendZ,opMakeMap,opLookup,mboxB,opUpdate,↓reduceIte,Nat.reduceSub,Nat.reduceEqDiff,Nat.reduceAdd,Nat.reduceMul,Nat.reduceLT,Nat.reduceLeDiff,Int.reduceToNat,Int.reduceLE,Int.reduceLT,Int.reduceNeg,reduceCtorEq,gos,Int.reduceAdd,Int.reduceSub,Int.reduceMul,Int.reduceEq]) <;> first|rfl|simp [G0])
  · exact drop_nil _
  · omega
  · rw [G0]; omega
  · intro j hj hA1
    by_cases cj:j < C
    · have an:=Gn j
      have m1:G j * P ≤ 2000 * 11:=Nat.mul_le_mul hA1 P11
      have w1:IntKind.u64.wrap ((G j:Int) * (P:Int))=((G (j + 1):Nat):Int):=by rw [← Int.natCast_mul,an]; exact uw_of (by omega) (by omega)
      by_cases c3:(2000:Int) < G (j + 1)
      · repeat (first|refine X_opc rfl ?_|refine X_dopc rfl ?_|refine ⟨(by show drawK _ _=true; kernel_rfl:drawX _ _ _),?_⟩|exact (by show drawK _ _=true; kernel_rfl:drawX _ _ _)|simp -dsimp (maxSteps:=20000000) (disch:=omega) only [simx,zzC,zzB,tys,ite_self,opnL,callB,callX,readsB,stepOp,nilCmp,ofVal,opBuiltin,opLen,PV.sk,scalBin,scalUn,intBin,opLoad,natOf,opConvert,opField,cellsP,oneP,Value.oneCell',opStore,toIV,scalT,scalA,scalC,boxesA,boxesC,zipB_none,zipB_mx,isZ,opZip,zeroP,opAppendZ,opMakeMap,opLookup,mboxB,opUpdate,↓reduceIte,Nat.reduceSub,Nat.reduceEqDiff,Nat.reduceAdd,Nat.reduceMul,Nat.reduceLT,Nat.reduceLeDiff,Int.reduceToNat,Int.reduceLE,Int.reduceLT,Int.reduceNeg,reduceCtorEq,zzR,gos,Int.reduceAdd,Int.reduceSub,Int.reduceMul,Int.reduceEq,cj,w1,c3])
      · repeat (first|refine X_opc rfl ?_|refine X_dopc rfl ?_|refine ⟨(by show drawK _ _=true; kernel_rfl:drawX _ _ _),?_⟩|exact (by show drawK _ _=true; kernel_rfl:drawX _ _ _)|simp -dsimp (maxSteps:=20000000) (disch:=omega) only [simx,zzC,zzB,tys,ite_self,opnL,callB,callX,readsB,stepOp,nilCmp,ofVal,opBuiltin,opLen,PV.sk,scalBin,scalUn,intBin,opLoad,natOf,opConvert,opField,cellsP,oneP,Value.oneCell',opStore,toIV,scalT,scalA,scalC,boxesA,boxesC,zipB_none,zipB_mx,isZ,opZip,zeroP,opAppendZ,opMakeMap,opLookup,mboxB,opUpdate,↓reduceIte,Nat.reduceSub,Nat.reduceEqDiff,Nat.reduceAdd,Nat.reduceMul,Nat.reduceLT,Nat.reduceLeDiff,Int.reduceToNat,Int.reduceLE,Int.reduceLT,Int.reduceNeg,reduceCtorEq,gos,Int.reduceAdd,Int.reduceSub,Int.reduceMul,Int.reduceEq,cj,w1,c3])
        exact ⟨cj,(fgt_nil),by omega,rfl,drop_nil _⟩
    · obtain rfl:C=j:=by omega
      repeat (first|refine X_opc rfl ?_|refine X_dopc rfl ?_|refine ⟨(by show drawK _ _=true; kernel_rfl:drawX _ _ _),?_⟩|exact (by show drawK _ _=true; kernel_rfl:drawX _ _ _)|simp -dsimp (maxSteps:=20000000) (disch:=omega) only [simx,zzC,zzB,tys,ite_self,opnL,callB,callX,readsB,stepOp,nilCmp,ofVal,opBuiltin,opLen,PV.sk,scalBin,scalUn,intBin,opLoad,natOf,opConvert,opField,cellsP,oneP,Value.oneCell',opStore,toIV,scalT,scalA,scalC,boxesA,boxesC,zipB_none,zipB_mx,isZ,opZip,zeroP,opAppendZ,opMakeMap,opLookup,mboxB,opUpdate,↓reduceIte,Nat.reduceSub,Nat.reduceEqDiff,Nat.reduceAdd,Nat.reduceMul,Nat.reduceLT,Nat.reduceLeDiff,Int.reduceToNat,Int.reduceLE,Int.reduceLT,Int.reduceNeg,reduceCtorEq,gos,Int.reduceAdd,Int.reduceSub,Int.reduceMul,Int.reduceEq])
      refine X_loopH [0,4,5,7,9,10] [] (0) (G C) (fun j => True) (fun j => [(9,u64 (cntN j f:Int)),(10,u64 j)]) (fun j => (Heap.none.put ((0,0)::base) (.var [i64 R,i64 C,lu l])).put ((0,1)::base) (.var [li rws,li cls,llP cc,llP uu])) ?_ ?_ ?_ ?_ ?_ (by decide) ?_
      · exact (fgt_nil)
      · ((simp -dsimp (disch:=omega) only [simx,zzB,tys,ite_self,opnL,callB,callX,readsB,stepOp,nilCmp,ofVal,opBuiltin,opLen,PV.sk,scalBin,scalUn,intBin,opLoad,natOf,opConvert,opField,cellsP,oneP,Value.oneCell',opStore,toIV,scalT,scalA,scalC,boxesA,boxesC,zipB_none,zipB_mx,isZ,opZip,zeroP,opAppendZ,opMakeMap,opLookup,mboxB,opUpdate,↓reduceIte,Nat.reduceSub,Nat.reduceEqDiff,Nat.reduceAdd,Nat.reduceMul,Nat.reduceLT,Nat.reduceLeDiff,Int.reduceToNat,Int.reduceLE,Int.reduceLT,Int.reduceNeg,reduceCtorEq,gos,Int.reduceAdd,Int.reduceSub,Int.reduceMul,Int.reduceEq]) <;> first|rfl|simp [cntN])
      · exact drop_nil _
      · omega
      · trivial
      · intro n hn _
        by_cases cn:n < G C
        · obtain ⟨t1,t2⟩:=rounds n (by omega)
          have hle:=cnt_le f n
          have hs:cntN (n + 1) f=cntN n f + (if f n=true then 1 else 0):=rfl
          have w3:IntKind.u64.wrap ((n:Int) + 1)=((n + 1:Nat):Int):=by rw [show (n:Int) + 1=((n + 1:Nat):Int) by push_cast; rfl]; exact uw_of (by omega) (by omega)
          have w4:IntKind.u64.wrap ((cntN n f:Int) + 1)=((cntN n f + 1:Nat):Int):=by rw [show (cntN n f:Int) + 1=((cntN n f + 1:Nat):Int) by push_cast; rfl]; exact uw_of (by omega) (by omega)
          clear rounds f4
          generalize vecL P n C=v at t1 t2
          cases hf:f n with
          | true =>
            rw [hf] at t2 hs
            rw [if_pos rfl] at hs
            generalize cntN n f=q at hs w4 hle ⊢
            repeat (first|((first|refine X_call_fn2 rfl (by simp only [tys]) ?_|refine X_dcall_fn2 rfl (by simp only [tys]) ?_); apply Exists.intro; apply And.intro; (focus (simp -dsimp only [simx,zzC,zzB,tys,ite_self,opnL,callB,callX,readsB,stepOp,nilCmp,ofVal,opBuiltin,opLen,PV.sk,scalBin,scalUn,intBin,opLoad,natOf,opConvert,opField,cellsP,oneP,Value.oneCell',opStore,toIV,scalT,scalA,scalC,boxesA,boxesC,zipB_none,zipB_mx,isZ,opZip,zeroP,opAppendZ,opMakeMap,opLookup,mboxB,opUpdate,↓reduceIte,Nat.reduceSub,Nat.reduceEqDiff,Nat.reduceAdd,Nat.reduceMul,Nat.reduceLT,Nat.reduceLeDiff,Int.reduceToNat,Int.reduceLE,Int.reduceLT,Int.reduceNeg,reduceCtorEq,zzL,if_true,if_false] <;> rfl)); apply Exists.intro; apply And.intro; (focus (first|exact t1|exact t2)))|refine X_opc rfl ?_|refine X_dopc rfl ?_|refine ⟨(by show drawK _ _=true; kernel_rfl:drawX _ _ _),?_⟩|exact (by show drawK _ _=true; kernel_rfl:drawX _ _ _)|simp -dsimp (maxSteps:=20000000) (disch:=omega) only [simx,zzC,zzB,tys,ite_self,opnL,callB,callX,readsB,stepOp,nilCmp,ofVal,opBuiltin,opLen,PV.sk,scalBin,scalUn,intBin,opLoad,natOf,opConvert,opField,cellsP,oneP,Value.oneCell',opStore,toIV,scalT,scalA,scalC,boxesA,boxesC,zipB_none,zipB_mx,isZ,opZip,zeroP,opAppendZ,opMakeMap,opLookup,mboxB,opUpdate,↓reduceIte,Nat.reduceSub,Nat.reduceEqDiff,Nat.reduceAdd,Nat.reduceMul,Nat.reduceLT,Nat.reduceLeDiff,Int.reduceToNat,Int.reduceLE,Int.reduceLT,Int.reduceNeg,reduceCtorEq,gos,Int.reduceAdd,Int.reduceSub,Int.reduceMul,Int.reduceEq,cn,w3,w4])
            refine ⟨cn,(fgt_nil),?_,drop_nil _⟩
            rw [hs]
          | false =>
            rw [hf] at t2 hs
            rw [if_neg (by decide),Nat.add_zero] at hs
            generalize cntN n f=q at hs w4 hle ⊢
            repeat (first|((first|refine X_call_fn2 rfl (by simp only [tys]) ?_|refine X_dcall_fn2 rfl (by simp only [tys]) ?_); apply Exists.intro; apply And.intro; (focus (simp -dsimp only [simx,zzC,zzB,tys,ite_self,opnL,callB,callX,readsB,stepOp,nilCmp,ofVal,opBuiltin,opLen,PV.sk,scalBin,scalUn,intBin,opLoad,natOf,opConvert,opField,cellsP,oneP,Value.oneCell',opStore,toIV,scalT,scalA,scalC,boxesA,boxesC,zipB_none,zipB_mx,isZ,opZip,zeroP,opAppendZ,opMakeMap,opLookup,mboxB,opUpdate,↓reduceIte,Nat.reduceSub,Nat.reduceEqDiff,Nat.reduceAdd,Nat.reduceMul,Nat.reduceLT,Nat.reduceLeDiff,Int.reduceToNat,Int.reduceLE,Int.reduceLT,Int.reduceNeg,reduceCtorEq,zzL,if_true,if_false] <;> rfl)); apply Exists.intro; apply And.intro; (focus (first|exact t1|exact t2)))|refine X_opc rfl ?_|refine X_dopc rfl ?_|refine ⟨(by show drawK _ _=true; kernel_rfl:drawX _ _ _),?_⟩|exact (by show drawK _ _=true; kernel_rfl:drawX _ _ _)|simp -dsimp (maxSteps:=20000000) (disch:=omega) only [simx,zzC,zzB,tys,ite_self,opnL,callB,callX,readsB,stepOp,nilCmp,ofVal,opBuiltin,opLen,PV.sk,scalBin,scalUn,intBin,opLoad,natOf,opConvert,opField,cellsP,oneP,Value.oneCell',opStore,toIV,scalT,scalA,scalC,boxesA,boxesC,zipB_none,zipB_mx,isZ,opZip,zeroP,opAppendZ,opMakeMap,opLookup,mboxB,opUpdate,↓reduceIte,Nat.reduceSub,Nat.reduceEqDiff,Nat.reduceAdd,Nat.reduceMul,Nat.reduceLT,Nat.reduceLeDiff,Int.reduceToNat,Int.reduceLE,Int.reduceLT,Int.reduceNeg,reduceCtorEq,gos,Int.reduceAdd,Int.reduceSub,Int.reduceMul,Int.reduceEq,cn,w3])
            refine ⟨cn,(fgt_nil),?_,drop_nil _⟩
            rw [hs]
            rfl
        · obtain rfl:G C=n:=by omega
          generalize cntN (G C) f=q at f4 ⊢
          cases same with
          | true =>
            have e:=f4.1 rfl
            subst e
            repeat (first|((first|refine X_call_fn2 rfl (by simp only [tys]) ?_|refine X_dcall_fn2 rfl (by simp only [tys]) ?_); apply Exists.intro; apply And.intro; (focus (simp -dsimp only [simx,zzC,zzB,tys,ite_self,opnL,callB,callX,readsB,stepOp,nilCmp,ofVal,opBuiltin,opLen,PV.sk,scalBin,scalUn,intBin,opLoad,natOf,opConvert,opField,cellsP,oneP,Value.oneCell',opStore,toIV,scalT,scalA,scalC,boxesA,boxesC,zipB_none,zipB_mx,isZ,opZip,zeroP,opAppendZ,opMakeMap,opLookup,mboxB,opUpdate,↓reduceIte,Nat.reduceSub,Nat.reduceEqDiff,Nat.reduceAdd,Nat.reduceMul,Nat.reduceLT,Nat.reduceLeDiff,Int.reduceToNat,Int.reduceLE,Int.reduceLT,Int.reduceNeg,reduceCtorEq,zzL,if_true,if_false] <;> rfl)); apply Exists.intro; apply And.intro; (focus (first|exact s1|exact s2)))|refine X_opc rfl ?_|refine X_dopc rfl ?_|refine ⟨(by show drawK _ _=true; kernel_rfl:drawX _ _ _),?_⟩|exact (by show drawK _ _=true; kernel_rfl:drawX _ _ _)|simp -dsimp (maxSteps:=20000000) (disch:=omega) only [simx,zzC,zzB,tys,ite_self,opnL,callB,callX,readsB,stepOp,nilCmp,ofVal,opBuiltin,opLen,PV.sk,scalBin,scalUn,intBin,opLoad,natOf,opConvert,opField,cellsP,oneP,Value.oneCell',opStore,toIV,scalT,scalA,scalC,boxesA,boxesC,zipB_none,zipB_mx,isZ,opZip,zeroP,opAppendZ,opMakeMap,opLookup,mboxB,opUpdate,↓reduceIte,Nat.reduceSub,Nat.reduceEqDiff,Nat.reduceAdd,Nat.reduceMul,Nat.reduceLT,Nat.reduceLeDiff,Int.reduceToNat,Int.reduceLE,Int.reduceLT,Int.reduceNeg,reduceCtorEq,zzR,gos,Int.reduceAdd,Int.reduceSub,Int.reduceMul,Int.reduceEq])
          | false =>
            have e:=f4.2 rfl
            have w5:IntKind.u64.wrap ((G (C - 1):Nat):Int)=((G (C - 1):Nat):Int):=uw_of (by omega) (by omega)
            have e':(q:Int) ≤ ((G (C - 1):Nat):Int):=by omega
            repeat (first|((first|refine X_call_fn2 rfl (by simp only [tys]) ?_|refine X_dcall_fn2 rfl (by simp only [tys]) ?_); apply Exists.intro; apply And.intro; (focus (simp -dsimp only [simx,zzC,zzB,tys,ite_self,opnL,callB,callX,readsB,stepOp,nilCmp,ofVal,opBuiltin,opLen,PV.sk,scalBin,scalUn,intBin,opLoad,natOf,opConvert,opField,cellsP,oneP,Value.oneCell',opStore,toIV,scalT,scalA,scalC,boxesA,boxesC,zipB_none,zipB_mx,isZ,opZip,zeroP,opAppendZ,opMakeMap,opLookup,mboxB,opUpdate,↓reduceIte,Nat.reduceSub,Nat.reduceEqDiff,Nat.reduceAdd,Nat.reduceMul,Nat.reduceLT,Nat.reduceLeDiff,Int.reduceToNat,Int.reduceLE,Int.reduceLT,Int.reduceNeg,reduceCtorEq,zzL,if_true,if_false] <;> rfl)); apply Exists.intro; apply And.intro; (focus (first|exact s1|exact s2)))|refine X_opc rfl ?_|refine X_dopc rfl ?_|refine ⟨(by show drawK _ _=true; kernel_rfl:drawX _ _ _),?_⟩|exact (by show drawK _ _=true; kernel_rfl:drawX _ _ _)|simp -dsimp (maxSteps:=20000000) (disch:=omega) only [simx,zzC,zzB,tys,ite_self,opnL,callB,callX,readsB,stepOp,nilCmp,ofVal,opBuiltin,opLen,PV.sk,scalBin,scalUn,intBin,opLoad,natOf,opConvert,opField,cellsP,oneP,Value.oneCell',opStore,toIV,scalT,scalA,scalC,boxesA,boxesC,zipB_none,zipB_mx,isZ,opZip,zeroP,opAppendZ,opMakeMap,opLookup,mboxB,opUpdate,↓reduceIte,Nat.reduceSub,Nat.reduceEqDiff,Nat.reduceAdd,Nat.reduceMul,Nat.reduceLT,Nat.reduceLeDiff,Int.reduceToNat,Int.reduceLE,Int.reduceLT,Int.reduceNeg,reduceCtorEq,zzR,gos,Int.reduceAdd,Int.reduceSub,Int.reduceMul,Int.reduceEq,p0,hQ,w5,e'])
end Go.Proofs.Ytmalpmnmknpphaa.TM
