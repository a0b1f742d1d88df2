/- What is proved of functions, and plain facts, part 8. Conditions: none. -/
import Derived.Test.YthnfphgjfpcpbaaSSolveRight7
import Derived.Shelf.RegionOpenPlain
import Derived.WalkKit
import Derived.Deep.LoopGhost
import Derived.Lib.Walk
import Derived.Lib.SliceRun
open Nat (reduceSub reduceEqDiff reduceAdd reduceMul reduceLT reduceLeDiff)
open Int (reduceToNat reduceLE reduceNeg reduceEq)
set_option linter.defProp false
set_option linter.unusedSectionVars false
set_option linter.unusedSimpArgs false
set_option linter.unusedVariables false
namespace Go.Proofs.Ythnfphgjfpcpbaa.TM
open Go Go.RowKit
attribute [local irreducible] K W Dg Effs Xg Xo Xr Xdg Xdo Xdr Xif CallsP CallR
theorem Ut {base:Name} {R C:Nat} {l:List Int} {f:Nat → List Int}:((Heap.none.put ((0,0)::base) (.var [i64 R,i64 C,lu l])).put ((0,1)::base) (.var [Dk,Dk,Dk,Dk])).put ((1,0)::base) (.var [Dk,Dk,Dk,Dk])=rtH base R C 0 l ⟨[],[],[],[],[]⟩ f:=by
  have ne1:∀ x:Nat × Nat,base ≠ x::base:=Cd base
  have ne2:∀ x:Nat × Nat,x::base ≠ base:=fun x h => Cd base x h.symm
  funext c
  have hz:Cq base f 0 c=none:=O7 _ _ _
  simp only [rtH,Bh,C1,hz,Heap.put_at,Heap.none_at,List.length_nil,if_true,Bk,Sg,mtB,Jm]
  by_cases e0:c=(1,0)::base
  · simp [e0]
  by_cases e1:c=(0,0)::base
  · subst e1; simp
  by_cases e2:c=(0,1)::base
  · subst e2; simp
  simp [e0,e1,e2]
theorem Uh {P:Nat} (hP:Prm P) (hp:Md P) {a:Int} (h:In P a) (h0:a ≠ 0):CallsP Try.prog 102 [u64 P,u64 a] (.tup [u64 (D7 P a),i64 0]):=by
  obtain ⟨r,hr,hc⟩:=Ae0 P a hp h
  rw [Ai9,if_pos (Hs hP h h0)] at hr
  subst hr
  rw [← Tt]
  exact hc
theorem nzA_at {l:List Int} {j:Nat} (h:j < l.length) (h0:l.getD j 0 ≠ 0) (hz:∀ q,q < j → l.getD q 0=0):nzA l 0=(j:Int):=by
  rcases Gf l 0 with ⟨_,h2⟩|⟨n,h1,h2,h3,h4⟩
  · exact absurd (h2 _ (C0 h)) h0
  · have:n=j:=by
      by_cases a:n < j
      · exact absurd (hz n a) h3
      · by_cases b:j < n
        · exact absurd (h4 j b) h0
        · omega
    rw [h1,this]; simp
theorem nzA_no {l:List Int} (hz:∀ q,q < l.length → l.getD q 0=0):nzA l 0 < 0:=by
  rcases Gf l 0 with ⟨h1,_⟩|⟨n,h1,h2,h3,h4⟩
  · omega
  · exact absurd (hz n h2) h3
theorem Vy {base c:Name} (h:c ∉ Nx base):c ≠ (27,1)::base ∧ c ≠ (28,3)::base ∧ c ≠ (29,3)::base ∧ c ≠ (30,3)::base ∧ c ≠ (31,3)::base :=
  ⟨fun e => h (e ▸ Da.2 (.inl (by simp))),fun e => h (e ▸ Da.2 (.inl (by simp))),fun e => h (e ▸ Da.2 (.inl (by simp))),fun e => h (e ▸ Da.2 (.inl (by simp))),fun e => h (e ▸ Da.2 (.inl (by simp)))⟩
set_option maxHeartbeats 16000000 in
theorem Ad5 {P R C:Nat} {l:List Int} (hP:Prm P) (M:Mt P R C l) (hin:∀ a ∈ l,In P a) (base:Name):∃ hu,CallR Try.prog base 67 [u64 P,C3 R C l] Heap.none (.tup [.agg [rowP ((28,4)::base) 1 (tkN P C l R).us.length ((tkN P C l R).rows.map ii),rowP ((29,4)::base) 1 (tkN P C l R).us.length ((tkN P C l R).cols.map ii),Hk ((31,4)::base) R,rowP ((30,4)::base) 1 (tkN P C l R).us.length ((tkN P C l R).us.map (lv C))],i64 0]) hu ∧ RtHp hu base R C (tkN P C l R):=by
  have r1:=M.r1
  have r2:=M.r2
  have c1:=M.c1
  have c2:=M.c2
  have ml:=M.len
  refine Iw (n:=189) (m:=2) (rs:=[.cell 4 64,.tmp 5]) Try.func67 rfl rfl rfl rfl (by decide) ?_
  have ne1:∀ x:Nat × Nat,base ≠ x::base:=Cd base
  have ne2:∀ x:Nat × Nat,x::base ≠ base:=fun x h => Cd base x h.symm
  repeat (first|refine Bg rfl ?_|refine Bb rfl ?_|refine ⟨(dxX (by kernel_rfl)),?_⟩|exact (dxX (by kernel_rfl))|simp -dsimp (maxSteps:=20000000) (disch:=omega) only [simx,zzC,zzB,tys,ite_self,A8,A2,Ax,Aq,Ao,At,Az,Ac,A5,PV.sk,Ai,Ar,As,Ap,Ay,Ab,Aj,Am,A9,Value.oneCell',Ah,Ba,Aw,A4,A1,Al,An,Ae,Ak,isZ,A6,A3,Ad,Aa,Ag,A0,Af,↓reduceIte,reduceSub,reduceEqDiff,reduceAdd,reduceMul,reduceLT,reduceLeDiff,reduceToNat,reduceLE,Int.reduceLT,reduceNeg,reduceCtorEq,gos,Int.reduceAdd,Int.reduceSub,Int.reduceMul,reduceEq])
  refine B5 [0,3,4,6,7] (Nx base) 0 R (fun _ => True) (fun j => [(7,i64 j)]) (fun j => rtH base R C j l (tkN P C l j) (csF (tkN P C l j))) ?_ ?_ ?_ ?_ ?_ (by decide) ?_
  · refine M8 (h':=rtH base R C 0 l (tkN P C l 0) (csF (tkN P C l 0))) ?_ (fun b _ => rfl) ?_ ?_
    · rw [show tkN (P:Int) C l 0=⟨[],[],[],[],[]⟩ from rfl,← Ut]
      funext c
      rw [Heap.drop_at]
      split
      · rename_i hc
        rcases Da.1 hc with hc|⟨m,_,rfl⟩
        · simp only [List.mem_cons,List.not_mem_nil,or_false] at hc
          rcases hc with rfl|rfl|rfl|rfl|rfl|rfl|rfl|rfl <;> simp [Heap.put_at,Heap.none_at]
        · simp [Heap.put_at,Heap.none_at]
      · rfl
    · intro b hb
      rcases Da.1 hb with hb|⟨m,_,rfl⟩
      · simp only [List.mem_cons,List.not_mem_nil,or_false] at hb
        rcases hb with rfl|rfl|rfl|rfl|rfl|rfl|rfl|rfl <;> (simp -dsimp only [zzB,tys,ite_self,A8,A2,Ax,Aq,Ao,At,Az,Ac,A5,PV.sk,Ai,Ar,As,Ap,Ay,Ab,Aj,Am,A9,Value.oneCell',Ah,Ba,Aw,A4,A1,Al,An,Ae,Ak,isZ,A6,A3,Ad,Aa,Ag,A0,Af,↓reduceIte,reduceSub,reduceEqDiff,reduceAdd,reduceMul,reduceLT,reduceLeDiff,reduceToNat,reduceLE,Int.reduceLT,reduceNeg,reduceCtorEq,gos,Int.reduceAdd,Int.reduceSub,Int.reduceMul,reduceEq,simx,Bm,Bo]; simp [Bn,ne1,ne2])
      · simp -dsimp only [zzB,tys,ite_self,A8,A2,Ax,Aq,Ao,At,Az,Ac,A5,PV.sk,Ai,Ar,As,Ap,Ay,Ab,Aj,Am,A9,Value.oneCell',Ah,Ba,Aw,A4,A1,Al,An,Ae,Ak,isZ,A6,A3,Ad,Aa,Ag,A0,Af,↓reduceIte,reduceSub,reduceEqDiff,reduceAdd,reduceMul,reduceLT,reduceLeDiff,reduceToNat,reduceLE,Int.reduceLT,reduceNeg,reduceCtorEq,gos,Int.reduceAdd,Int.reduceSub,Int.reduceMul,reduceEq,simx,Bm,Bo]; simp [Bn,ne1,ne2]
    · intro b hb
      rcases Da.1 hb with hb|⟨m,_,rfl⟩
      · simp only [List.mem_cons,List.not_mem_nil,or_false] at hb
        rcases hb with rfl|rfl|rfl|rfl|rfl|rfl|rfl|rfl <;> exact Nn (by simp [ne1,ne2]) (by simp [ne1,ne2]) (by simp [ne1,ne2]) (by simp [ne1,ne2]) (by simp [ne1,ne2])
      · exact Nn (by simp [ne1,ne2]) (by simp [ne1,ne2]) (by simp [ne1,ne2]) (by simp [ne1,ne2]) (by simp [ne1,ne2])
  · ((simp -dsimp (disch:=omega) only [simx,zzB,tys,ite_self,A8,A2,Ax,Aq,Ao,At,Az,Ac,A5,PV.sk,Ai,Ar,As,Ap,Ay,Ab,Aj,Am,A9,Value.oneCell',Ah,Ba,Aw,A4,A1,Al,An,Ae,Ak,isZ,A6,A3,Ad,Aa,Ag,A0,Af,↓reduceIte,reduceSub,reduceEqDiff,reduceAdd,reduceMul,reduceLT,reduceLeDiff,reduceToNat,reduceLE,Int.reduceLT,reduceNeg,reduceCtorEq,gos,Int.reduceAdd,Int.reduceSub,Int.reduceMul,reduceEq]) <;> first|rfl|simp)
  · rw [show tkN (P:Int) C l 0=⟨[],[],[],[],[]⟩ from rfl,← Ut]
    funext c
    rw [Heap.drop_at]
    split
    · rename_i hc
      rcases Da.1 hc with hc|⟨m,_,rfl⟩
      · simp only [List.mem_cons,List.not_mem_nil,or_false] at hc
        rcases hc with rfl|rfl|rfl|rfl|rfl|rfl|rfl|rfl <;> simp [Heap.put_at,Heap.none_at]
      · simp [Heap.put_at,Heap.none_at]
    · rfl
  · omega
  · trivial
  · intro i hi _
    have I:=Nk hP M hin i hi
    have TC:=Zn hP M.hp M.len hin i hi
    have hp:=M.hp
    by_cases ci:i < R
    · have b1:=Fb (c:=C) ci
      have b2:=J4 r2 c2
      have rl:=Gd M.len ci
      have m1:(i + 1) * C=i * C + C:=Nat.succ_mul i C
      have f1:IntKind.i64.wrap ((i:Int) * (C:Int))=((i * C:Nat):Int):=by rw [← Int.natCast_mul]; exact Fa (by omega) (by omega)
      have f2:IntKind.i64.wrap (((i:Int) + 1) * (C:Int))=((i * C + C:Nat):Int):=by
        rw [show ((i:Int) + 1) * (C:Int)=((i * C + C:Nat):Int) by rw [← m1]; push_cast; rfl]; exact Fa (by omega) (by omega)
      have f3:i * C + C - i * C=C:=by omega
      have f4:((l.map iu).drop (i * C)).take C=(Df C l i).map iu:=by unfold Df; rw [List.map_take,List.map_drop]
      have f5:i * C ≤ i * C + C:=by omega
      have f6:i * C + C ≤ l.length:=by omega
      have rin:∀ a ∈ Df C l i,In P a:=fun a ha => hin a (Hc ha)
      have tn:tkN (P:Int) C l (i + 1)=Cz P (tkN P C l i) i (Df C l i):=rfl
      have k0:=rtH_m (base:=base) (R:=R) (C:=C) (i:=i) (l:=l) (T:=tkN P C l i) (f:=csF (tkN P C l i))
      have kc:=Ao4 (base:=base) (R:=R) (C:=C) (i:=i) (l:=l) (T:=tkN P C l i) (f:=csF (tkN P C l i))
      have kn:∀ m,rtH base R C i l (tkN P C l i) (csF (tkN P C l i)) ((901,m)::base)=none:=fun m => L2 (by simp)
      have kt:∀ a b,((a=5 ∨ a=17 ∨ a=19 ∨ a=27 ∨ a=901) ∨ ((a=28 ∨ a=29 ∨ a=30 ∨ a=31) ∧ b=3)) → rtH base R C i l (tkN P C l i) (csF (tkN P C l i)) ((a,b)::base)=none:=fun a b h => L2 h
      have kQ:=Uv (base:=base) (R:=R) (C:=C) (i:=i) (l:=l) (T:=tkN P C l i) (f:=csF (tkN P C l i))
      have kU:=Ao3 (base:=base) (R:=R) (C:=C) (i:=i) (l:=l) (T:=tkN P C l i) (f:=csF (tkN P C l i))
      have kR:=Uu (base:=base) (R:=R) (C:=C) (i:=i) (l:=l) (T:=tkN P C l i) (f:=csF (tkN P C l i))
      have kC:=S7 (base:=base) (R:=R) (C:=C) (i:=i) (l:=l) (T:=tkN P C l i) (f:=csF (tkN P C l i))
      have kr:=rtH_r (base:=base) (R:=R) (C:=C) (i:=i) (l:=l) (T:=tkN P C l i) (f:=csF (tkN P C l i))
      have k9:=Az8 (base:=base) (R:=R) (C:=C) (i:=i) (l:=l) (T:=tkN P C l i) (f:=csF (tkN P C l i))
      have nvH:∀ x:Nat × Nat,x.1 ≠ 900 → x ≠ (28,4) → x ≠ (29,4) → x ≠ (30,4) → x ≠ (31,4) → Dw (x::base) (rtH base R C i l (tkN P C l i) (csF (tkN P C l i))):=fun x h1 h2 h3 h4 h5 => Nn (fun k e => h1 (by simp at e; rw [e])) (by simpa using h2) (by simpa using h3) (by simpa using h4) (by simpa using h5)
      generalize hT:tkN (P:Int) C l i=T at *
      generalize hrow:Df C l i=row at *
      generalize hHi:rtH base R C i l T (csF T)=H at k0 kc kn kt kQ kU kR kC kr k9 nvH ⊢
      repeat (first|refine ⟨(dxX (by kernel_rfl)),?_⟩|exact (dxX (by kernel_rfl))|simp -dsimp (maxSteps:=20000000) (disch:=omega) only [simx,zzC,zzB,tys,ite_self,A8,A2,Ax,Aq,Ao,At,Az,Ac,A5,PV.sk,Ai,Ar,As,Ap,Ay,Ab,Aj,Am,A9,Value.oneCell',Ah,Ba,Aw,A4,A1,Al,An,Ae,Ak,isZ,A6,A3,Ad,Aa,Ag,A0,Af,↓reduceIte,reduceSub,reduceEqDiff,reduceAdd,reduceMul,reduceLT,reduceLeDiff,reduceToNat,reduceLE,Int.reduceLT,reduceNeg,reduceCtorEq,gos,Int.reduceAdd,Int.reduceSub,Int.reduceMul,reduceEq,ci,k0,f1,f2,f3,f4,f5,f6,List.length_map,SK.len])
      refine Ab1 ((901,1)::base) rfl ?_
      repeat (first|refine ⟨(dxX (by kernel_rfl)),?_⟩|exact (dxX (by kernel_rfl))|simp -dsimp (maxSteps:=20000000) (disch:=omega) only [simx,zzC,zzB,tys,ite_self,A8,A2,Ax,Aq,Ao,At,Az,Ac,A5,PV.sk,Ai,Ar,As,Ap,Ay,Ab,Aj,Am,A9,Value.oneCell',Ah,Ba,Aw,A4,A1,Al,An,Ae,Ak,isZ,A6,A3,Ad,Aa,Ag,A0,Af,↓reduceIte,reduceSub,reduceEqDiff,reduceAdd,reduceMul,reduceLT,reduceLeDiff,reduceToNat,reduceLE,Int.reduceLT,reduceNeg,reduceCtorEq,gos,Int.reduceAdd,Int.reduceSub,Int.reduceMul,reduceEq,ci,kn,k0,f1,f2,f3,f4,f5,f6,List.length_map,SK.len])
      refine Bg rfl ?_
      repeat (first|refine ⟨(dxX (by kernel_rfl)),?_⟩|exact (dxX (by kernel_rfl))|simp -dsimp (maxSteps:=20000000) (disch:=omega) only [simx,zzC,zzB,tys,ite_self,A8,A2,Ax,Aq,Ao,At,Az,Ac,A5,PV.sk,Ai,Ar,As,Ap,Ay,Ab,Aj,Am,A9,Value.oneCell',Ah,Ba,Aw,A4,A1,Al,An,Ae,Ak,isZ,A6,A3,Ad,Aa,Ag,A0,Af,↓reduceIte,reduceSub,reduceEqDiff,reduceAdd,reduceMul,reduceLT,reduceLeDiff,reduceToNat,reduceLE,Int.reduceLT,reduceNeg,reduceCtorEq,gos,Int.reduceAdd,Int.reduceSub,Int.reduceMul,reduceEq])
      refine Qg (cs:=[]) 22 [.int .u64 0] (row.map iu) (by simp only [tys]) (by simp only [tys]) rfl (by simp [Heap.put_at]) rfl (by omega) (by rw [List.length_map,rl]) (by simp only [tys]; omega) (by rw [B3]; omega) ?_
      repeat (first|refine Bg rfl ?_|refine Bb rfl ?_|refine ⟨(dxX (by kernel_rfl)),?_⟩|exact (dxX (by kernel_rfl))|simp -dsimp (maxSteps:=20000000) (disch:=omega) only [simx,zzC,zzB,tys,ite_self,A8,A2,Ax,Aq,Ao,At,Az,Ac,A5,PV.sk,Ai,Ar,As,Ap,Ay,Ab,Aj,Am,A9,Value.oneCell',Ah,Ba,Aw,A4,A1,Al,An,Ae,Ak,isZ,A6,A3,Ad,Aa,Ag,A0,Af,↓reduceIte,reduceSub,reduceEqDiff,reduceAdd,reduceMul,reduceLT,reduceLeDiff,reduceToNat,reduceLE,Int.reduceLT,reduceNeg,reduceCtorEq,gos,Int.reduceAdd,Int.reduceSub,Int.reduceMul,reduceEq,Nat.zero_add,List.nil_append])
      have rb:T.us.length ≤ 64:=by have:=I.ri; omega
      refine B5 [0,3,4,6,7,8,9,10] [(17,18)::base,(19,2)::base] 0 T.us.length (fun _ => True) (fun k => [(8,.view ((901,k + 1)::base) 0 1 C C),(9,rowP ((900,i)::base) 1 k ((tbl k (elX P T row)).map iu)),(10,i64 k)]) (fun k => C9 (Dt base H P T row k) ((900,i)::base) k ((tbl k (elX P T row)).map iu)) ?_ ?_ ?_ ?_ ?_ (by decide) ?_
      · exact Bv rfl (by simp -dsimp only [zzB,tys,ite_self,A8,A2,Ax,Aq,Ao,At,Az,Ac,A5,PV.sk,Ai,Ar,As,Ap,Ay,Ab,Aj,Am,A9,Value.oneCell',Ah,Ba,Aw,A4,A1,Al,An,Ae,Ak,isZ,A6,A3,Ad,Aa,Ag,A0,Af,↓reduceIte,reduceSub,reduceEqDiff,reduceAdd,reduceMul,reduceLT,reduceLeDiff,reduceToNat,reduceLE,Int.reduceLT,reduceNeg,reduceCtorEq,gos,Int.reduceAdd,Int.reduceSub,Int.reduceMul,reduceEq,simx,Bm,Bo]; simp [Bn,ne1,ne2]) (Bp (Bp (nvH _ (by decide) (by decide) (by decide) (by decide) (by decide)))) (Bv rfl (by simp -dsimp only [zzB,tys,ite_self,A8,A2,Ax,Aq,Ao,At,Az,Ac,A5,PV.sk,Ai,Ar,As,Ap,Ay,Ab,Aj,Am,A9,Value.oneCell',Ah,Ba,Aw,A4,A1,Al,An,Ae,Ak,isZ,A6,A3,Ad,Aa,Ag,A0,Af,↓reduceIte,reduceSub,reduceEqDiff,reduceAdd,reduceMul,reduceLT,reduceLeDiff,reduceToNat,reduceLE,Int.reduceLT,reduceNeg,reduceCtorEq,gos,Int.reduceAdd,Int.reduceSub,Int.reduceMul,reduceEq,simx,Bm,Bo]; simp [Bn,ne1,ne2]) (Bp (Bp (nvH _ (by decide) (by decide) (by decide) (by decide) (by decide)))) Bl)
      · ((simp -dsimp (disch:=omega) only [simx,zzB,tys,ite_self,A8,A2,Ax,Aq,Ao,At,Az,Ac,A5,PV.sk,Ai,Ar,As,Ap,Ay,Ab,Aj,Am,A9,Value.oneCell',Ah,Ba,Aw,A4,A1,Al,An,Ae,Ak,isZ,A6,A3,Ad,Aa,Ag,A0,Af,↓reduceIte,reduceSub,reduceEqDiff,reduceAdd,reduceMul,reduceLT,reduceLeDiff,reduceToNat,reduceLE,Int.reduceLT,reduceNeg,reduceCtorEq,gos,Int.reduceAdd,Int.reduceSub,Int.reduceMul,reduceEq]) <;> first|rfl|simp [Bk])
      · have t1:=kt 17 18 (by simp)
        have t2:=kt 19 2 (by simp)
        rw [Ci,Dt]
        funext c
        simp (maxSteps:=20000000) only [Heap.drop_at,Bh,Heap.put_at,Heap.none_at,List.mem_cons,List.not_mem_nil,or_false]
        by_cases e0:c=(17,18)::base
        · subst e0; simp [t1,t2]
        by_cases e1:c=(19,2)::base
        · subst e1; simp [t1,t2]
        by_cases e2:c=(901,1)::base
        · subst e2; simp [t1,t2]
        simp [e0,e1,e2,t1,t2]
      · omega
      · trivial
      · intro k hk _
        by_cases ck:k < T.us.length
        · have ql:=I.ql
          have hq:=I.qb (T.cols.getD k 0) (C0 (by omega))
          obtain ⟨q,hqe⟩:∃ q:Nat,T.cols.getD k 0=q:=⟨(T.cols.getD k 0).toNat,by omega⟩
          have qC:q < C:=by omega
          obtain ⟨u1,u2⟩:=I.ul (T.us.getD k []) (C0 ck)
          have el:=Gt P T row k
          rw [rl] at el
          have ei:=M9 hp T rin k
          have r0:¬ T.us.length=0:=by omega
          have iv:=TC.inv k ck
          have xk:elX P T row k=(elR P T row k).getD q 0 * T.vs.getD k 0 % P:=by unfold elX; rw [hqe,Int.toNat_natCast]
          have uq:uF T k (cwF T k)=(T.us.getD k []).getD q 0:=by unfold uF cwF; rw [hqe,Int.toNat_natCast]
          rw [uq] at iv
          have vi:In P (vF T k):=Ce I.vb (by rw [I.vl]; exact ck)
          have u0:(T.us.getD k []).getD q 0 ≠ 0:=fun e => by rw [e,Int.zero_mul,Int.zero_emod] at iv; cases iv
          have n1:=Uh hP hp (Ce u2 (i:=q) (by omega)) u0
          rw [← Tt,Iq vi iv,show vF T k=T.vs.getD k 0 from rfl] at n1
          have n2:=F3 P ((elR P T row k).getD q 0) (T.vs.getD k 0) hp (Ce ei (by omega)) (I9 hp vi)
          rw [← xk] at n2
          have g1:(T.us.map (lv C))[k]?=some (.l C ((T.us.getD k []).map iu)):=by rw [List.getElem?_map,D3 (d:=[]) ck]; rfl
          have g2:(T.cols.map ii)[k]?=some (ii (q:Int)):=by rw [List.getElem?_map,D3 (d:=0) (by omega),Option.map_some,hqe]
          have g3:((T.us.getD k []).map iu)[q]?=some (iu ((T.us.getD k []).getD q 0)):=by rw [List.getElem?_map,getD_some u1 qC]; rfl
          have g4:((elR P T row k).map iu)[q]?=some (iu ((elR P T row k).getD q 0)):=by rw [List.getElem?_map,getD_some el qC]; rfl
          have kQ':=kQ
          have kU':=kU
          rw [if_neg r0] at kQ' kU'
          have rpQ:rowP ((29,4)::base) 1 T.us.length (T.cols.map ii)=.view ((29,4)::base) 0 1 T.us.length T.us.length:=by unfold rowP; rw [if_neg r0,List.length_map,ql]
          have rpU:rowP ((30,4)::base) 1 T.us.length (T.us.map (lv C))=.view ((30,4)::base) 0 1 T.us.length T.us.length:=by unfold rowP; rw [if_neg r0,List.length_map]
          have kc':=kc
          rw [rpQ,rpU] at kc'
          have at':∀ a b,a ≠ 901 → (a,b) ≠ (900,i) → C9 (Dt base H P T row k) ((900,i)::base) k ((tbl k (elX P T row)).map iu) ((a,b)::base)=H ((a,b)::base):=fun a b h1 h2 => by
            rw [Hq _ _ _ (by simpa using h2),Hd (fun m => by simp [h1])]
          have e1:=(at' 1 0 (by decide) (by simp)).trans kc'
          have e2:=(at' 0 0 (by decide) (by simp)).trans k0
          have e3:=(at' 29 4 (by decide) (by simp)).trans kQ'
          have e4:=(at' 30 4 (by decide) (by simp)).trans kU'
          have e5:=(at' 17 18 (by decide) (by simp)).trans (kt 17 18 (by simp))
          have e6:=(at' 19 2 (by decide) (by simp)).trans (kt 19 2 (by simp))
          have e7:C9 (Dt base H P T row k) ((900,i)::base) k ((tbl k (elX P T row)).map iu) ((901,k + 1)::base)=some (.row false ((elR P T row k).map iu)):=by
            rw [Hq _ _ _ (by simp),U0]
          have e8:C9 (Dt base H P T row k) ((900,i)::base) k ((tbl k (elX P T row)).map iu) ((901,k + 2)::base)=none:=by
            rw [Hq _ _ _ (by simp),Pb kn k _ (by omega)]
          have e9:Dt base H P T row k ((900,i)::base)=none:=by rw [Hd (by simp)]; exact k9
          have e10:C9 (Dt base H P T row k) ((900,i)::base) k ((tbl k (elX P T row)).map iu) ((900,i)::base)=if k=0 then none else some (.row false ((tbl k (elX P T row)).map iu)):=by rw [Bh,e9]; simp
          have nv1:Dw ((17,18)::base) (C9 (Dt base H P T row k) ((900,i)::base) k ((tbl k (elX P T row)).map iu)):=Bt (J5 (nvH _ (by decide) (by decide) (by decide) (by decide) (by decide)) k)
          have nv2:Dw ((19,2)::base) (C9 (Dt base H P T row k) ((900,i)::base) k ((tbl k (elX P T row)).map iu)):=Bt (J5 (nvH _ (by decide) (by decide) (by decide) (by decide) (by decide)) k)
          generalize hHH:C9 (Dt base H P T row k) ((900,i)::base) k ((tbl k (elX P T row)).map iu)=HH at e1 e2 e3 e4 e5 e6 e7 e8 e10 nv1 nv2 ⊢
          repeat (first|((first|refine Bd rfl (by simp only [tys]) ?_|refine Bc rfl (by simp only [tys]) ?_); apply Exists.intro; apply And.intro; (focus (simp -dsimp only [simx,zzC,zzB,tys,ite_self,A8,A2,Ax,Aq,Ao,At,Az,Ac,A5,PV.sk,Ai,Ar,As,Ap,Ay,Ab,Aj,Am,A9,Value.oneCell',Ah,Ba,Aw,A4,A1,Al,An,Ae,Ak,isZ,A6,A3,Ad,Aa,Ag,A0,Af,↓reduceIte,reduceSub,reduceEqDiff,reduceAdd,reduceMul,reduceLT,reduceLeDiff,reduceToNat,reduceLE,Int.reduceLT,reduceNeg,reduceCtorEq,zzL,if_true,if_false] <;> rfl)); apply Exists.intro; apply And.intro; (focus (first|exact n1|exact n2)))|refine Bg rfl ?_|refine Bb rfl ?_|refine ⟨(dxX (by kernel_rfl)),?_⟩|exact (dxX (by kernel_rfl))|simp -dsimp (maxSteps:=20000000) (disch:=omega) only [simx,zzC,zzB,tys,ite_self,A8,A2,Ax,Aq,Ao,At,Az,Ac,A5,PV.sk,Ai,Ar,As,Ap,Ay,Ab,Aj,Am,A9,Value.oneCell',Ah,Ba,Aw,A4,A1,Al,An,Ae,Ak,isZ,A6,A3,Ad,Aa,Ag,A0,Af,↓reduceIte,reduceSub,reduceEqDiff,reduceAdd,reduceMul,reduceLT,reduceLeDiff,reduceToNat,reduceLE,Int.reduceLT,reduceNeg,reduceCtorEq,gos,Int.reduceAdd,Int.reduceSub,Int.reduceMul,reduceEq,ck,e1,e2,e3,e4,e7,g1,g2,g3,g4,qC,el,ql,List.length_map,SK.len])
          obtain ⟨F,hF⟩:∃ F:Nat → Int,F=fun j => ((elR P T row k).getD j 0 - elX P T row k * (T.us.getD k []).getD j 0 % P) % P:=⟨_,rfl⟩
          have FT:tbl C F=elR P T row (k + 1):=by rw [Kf,Nv,el,hF]
          have Fj:∀ j,((elR P T row k).getD j 0 - elX P T row k * (T.us.getD k []).getD j 0 % P) % P=F j:=fun j => by rw [hF]
          have xin:=Yj hp T row k
          have kk:(k + 1=k + 2)=False:=eq_false (by omega)
          clear hF
          refine B5 [0,3,4,6,7,8,9,10,14,15,16] [(17,18)::base] 0 C (fun _ => True) (fun j => [(15,rowP ((901,k + 2)::base) 1 j ((tbl j F).map iu)),(16,i64 j)]) (fun j => C9 HH ((901,k + 2)::base) j ((tbl j F).map iu)) ?_ ?_ ?_ ?_ ?_ (by decide) ?_
          · exact Bv rfl (by simp -dsimp only [zzB,tys,ite_self,A8,A2,Ax,Aq,Ao,At,Az,Ac,A5,PV.sk,Ai,Ar,As,Ap,Ay,Ab,Aj,Am,A9,Value.oneCell',Ah,Ba,Aw,A4,A1,Al,An,Ae,Ak,isZ,A6,A3,Ad,Aa,Ag,A0,Af,↓reduceIte,reduceSub,reduceEqDiff,reduceAdd,reduceMul,reduceLT,reduceLeDiff,reduceToNat,reduceLE,Int.reduceLT,reduceNeg,reduceCtorEq,gos,Int.reduceAdd,Int.reduceSub,Int.reduceMul,reduceEq,simx,Bm,Bo]; simp [Bn,Be,ne1,ne2]) nv1 Bl
          · ((simp -dsimp (disch:=omega) only [simx,zzB,tys,ite_self,A8,A2,Ax,Aq,Ao,At,Az,Ac,A5,PV.sk,Ai,Ar,As,Ap,Ay,Ab,Aj,Am,A9,Value.oneCell',Ah,Ba,Aw,A4,A1,Al,An,Ae,Ak,isZ,A6,A3,Ad,Aa,Ag,A0,Af,↓reduceIte,reduceSub,reduceEqDiff,reduceAdd,reduceMul,reduceLT,reduceLeDiff,reduceToNat,reduceLE,Int.reduceLT,reduceNeg,reduceCtorEq,gos,Int.reduceAdd,Int.reduceSub,Int.reduceMul,reduceEq]) <;> first|rfl|simp [Bk])
          · rw [Ci]
            funext c
            simp (maxSteps:=20000000) only [Heap.drop_at,Bh,Heap.put_at,Heap.none_at,List.mem_cons,List.not_mem_nil,or_false]
            by_cases e0:c=(17,18)::base
            · subst e0; simp [e5]
            simp [e0,e5]
          · omega
          · trivial
          · intro j hj _
            by_cases cj:j < C
            · have g5:((elR P T row k).map iu)[j]?=some (iu ((elR P T row k).getD j 0)):=by rw [List.getElem?_map,getD_some el cj]; rfl
              have g6:((T.us.getD k []).map iu)[j]?=some (iu ((T.us.getD k []).getD j 0)):=by rw [List.getElem?_map,getD_some u1 cj]; rfl
              have n3:=F3 P (elX P T row k) ((T.us.getD k []).getD j 0) hp xin (I9 hp (Ce u2 (i:=j) (by omega)))
              have n4:=Ii P ((elR P T row k).getD j 0) (elX P T row k * (T.us.getD k []).getD j 0 % P) hp (Ce ei (by omega)) (Dl hp _)
              rw [Fj j] at n4
              have t1:=Fx j F
              have l1:=Ca j F
              have e7':∀ (n:Nat) (cs:List IV),C9 HH ((901,k + 2)::base) n cs ((901,k + 1)::base)=some (.row false ((elR P T row k).map iu)):=fun n cs => by rw [Hq _ _ _ (by simp)]; exact e7
              clear Fj FT n1 n2 g3 g4 xin iv u0
              generalize F j=s at n4 t1
              generalize elX P T row k * (T.us.getD k []).getD j 0 % (P:Int)=w at n3 n4
              generalize (T.us.getD k []).getD j 0=uj at g6 n3
              generalize (elR P T row k).getD j 0=rj at g5 n4
              cases j with
              | zero =>
                repeat (first|((first|refine Bd rfl (by simp only [tys]) ?_|refine Bc rfl (by simp only [tys]) ?_); apply Exists.intro; apply And.intro; (focus (simp -dsimp only [simx,zzC,zzB,tys,ite_self,A8,A2,Ax,Aq,Ao,At,Az,Ac,A5,PV.sk,Ai,Ar,As,Ap,Ay,Ab,Aj,Am,A9,Value.oneCell',Ah,Ba,Aw,A4,A1,Al,An,Ae,Ak,isZ,A6,A3,Ad,Aa,Ag,A0,Af,↓reduceIte,reduceSub,reduceEqDiff,reduceAdd,reduceMul,reduceLT,reduceLeDiff,reduceToNat,reduceLE,Int.reduceLT,reduceNeg,reduceCtorEq,zzL,if_true,if_false] <;> rfl)); apply Exists.intro; apply And.intro; (focus (first|exact n3|exact n4)))|refine ⟨(dxX (by kernel_rfl)),?_⟩|exact (dxX (by kernel_rfl))|simp -dsimp (maxSteps:=20000000) (disch:=omega) only [simx,zzC,zzB,tys,ite_self,A8,A2,Ax,Aq,Ao,At,Az,Ac,A5,PV.sk,Ai,Ar,As,Ap,Ay,Ab,Aj,Am,A9,Value.oneCell',Ah,Ba,Aw,A4,A1,Al,An,Ae,Ak,isZ,A6,A3,Ad,Aa,Ag,A0,Af,↓reduceIte,reduceSub,reduceEqDiff,reduceAdd,reduceMul,reduceLT,reduceLeDiff,reduceToNat,reduceLE,Int.reduceLT,reduceNeg,reduceCtorEq,gos,Int.reduceAdd,Int.reduceSub,Int.reduceMul,reduceEq,cj,ck,e1,e2,e4,e5,e7,kk,g1,g5,g6,el,u1,List.length_map,SK.len,ite_self,Ci,Bk])
                refine Bb rfl ?_
                repeat (first|refine ⟨(dxX (by kernel_rfl)),?_⟩|exact (dxX (by kernel_rfl))|simp -dsimp (maxSteps:=20000000) (disch:=omega) only [simx,zzC,zzB,tys,ite_self,A8,A2,Ax,Aq,Ao,At,Az,Ac,A5,PV.sk,Ai,Ar,As,Ap,Ay,Ab,Aj,Am,A9,Value.oneCell',Ah,Ba,Aw,A4,A1,Al,An,Ae,Ak,isZ,A6,A3,Ad,Aa,Ag,A0,Af,↓reduceIte,reduceSub,reduceEqDiff,reduceAdd,reduceMul,reduceLT,reduceLeDiff,reduceToNat,reduceLE,Int.reduceLT,reduceNeg,reduceCtorEq,gos,Int.reduceAdd,Int.reduceSub,Int.reduceMul,reduceEq,e5,ite_self,Ci])
                refine Qe ((901,k + 2)::base) rfl ?_
                repeat (first|refine ⟨(dxX (by kernel_rfl)),?_⟩|exact (dxX (by kernel_rfl))|simp -dsimp (maxSteps:=20000000) (disch:=omega) only [simx,zzC,zzB,tys,ite_self,A8,A2,Ax,Aq,Ao,At,Az,Ac,A5,PV.sk,Ai,Ar,As,Ap,Ay,Ab,Aj,Am,A9,Value.oneCell',Ah,Ba,Aw,A4,A1,Al,An,Ae,Ak,isZ,A6,A3,Ad,Aa,Ag,A0,Af,↓reduceIte,reduceSub,reduceEqDiff,reduceAdd,reduceMul,reduceLT,reduceLeDiff,reduceToNat,reduceLE,Int.reduceLT,reduceNeg,reduceCtorEq,gos,Int.reduceAdd,Int.reduceSub,Int.reduceMul,reduceEq])
                refine Cg (s:=(901,k + 2)::base) (n:=0) (z:=1) (cs:=[]) 22 [.int .u64 0] [iu s] (by simp only [tys]) (by simp only [tys]) rfl (by decide) rfl (by simp [Heap.put_at]; exact e8) (by simp [Heap.put_at]; rfl) rfl (by simp only [tys]; omega) (by rw [B3]; omega) ?_
                repeat (first|refine ⟨(dxX (by kernel_rfl)),?_⟩|exact (dxX (by kernel_rfl))|simp -dsimp (maxSteps:=20000000) (disch:=omega) only [simx,zzC,zzB,tys,ite_self,A8,A2,Ax,Aq,Ao,At,Az,Ac,A5,PV.sk,Ai,Ar,As,Ap,Ay,Ab,Aj,Am,A9,Value.oneCell',Ah,Ba,Aw,A4,A1,Al,An,Ae,Ak,isZ,A6,A3,Ad,Aa,Ag,A0,Af,↓reduceIte,reduceSub,reduceEqDiff,reduceAdd,reduceMul,reduceLT,reduceLeDiff,reduceToNat,reduceLE,Int.reduceLT,reduceNeg,reduceCtorEq,gos,Int.reduceAdd,Int.reduceSub,Int.reduceMul,reduceEq,cj,Co,Cn,Bi])
                refine ⟨cj,Bv rfl (by simp -dsimp only [zzB,tys,ite_self,A8,A2,Ax,Aq,Ao,At,Az,Ac,A5,PV.sk,Ai,Ar,As,Ap,Ay,Ab,Aj,Am,A9,Value.oneCell',Ah,Ba,Aw,A4,A1,Al,An,Ae,Ak,isZ,A6,A3,Ad,Aa,Ag,A0,Af,↓reduceIte,reduceSub,reduceEqDiff,reduceAdd,reduceMul,reduceLT,reduceLeDiff,reduceToNat,reduceLE,Int.reduceLT,reduceNeg,reduceCtorEq,gos,Int.reduceAdd,Int.reduceSub,Int.reduceMul,reduceEq,simx,Bm,Bo]; simp [Bn,Be,ne1,ne2]) (by repeat (first|exact nv1|refine Bp ?_)) Bl,?_,?_⟩
                · rw [t1]; simp [tbl,Bi]
                · funext c
                  simp (maxSteps:=20000000) only [Heap.drop_at,Bh,Heap.put_at,Heap.none_at,List.mem_cons,List.not_mem_nil,or_false]
                  by_cases e0:c=(17,18)::base
                  · subst e0; simp [t1,e5,show tbl 0 F=[] from rfl]
                  by_cases e1:c=(901,k + 2)::base
                  · subst e1; simp [t1,e5,show tbl 0 F=[] from rfl]
                  simp [e0,e1,t1,e5,show tbl 0 F=[] from rfl]
              | succ j =>
                repeat (first|((first|refine Bd rfl (by simp only [tys]) ?_|refine Bc rfl (by simp only [tys]) ?_); apply Exists.intro; apply And.intro; (focus (simp -dsimp only [simx,zzC,zzB,tys,ite_self,A8,A2,Ax,Aq,Ao,At,Az,Ac,A5,PV.sk,Ai,Ar,As,Ap,Ay,Ab,Aj,Am,A9,Value.oneCell',Ah,Ba,Aw,A4,A1,Al,An,Ae,Ak,isZ,A6,A3,Ad,Aa,Ag,A0,Af,↓reduceIte,reduceSub,reduceEqDiff,reduceAdd,reduceMul,reduceLT,reduceLeDiff,reduceToNat,reduceLE,Int.reduceLT,reduceNeg,reduceCtorEq,zzL,if_true,if_false] <;> rfl)); apply Exists.intro; apply And.intro; (focus (first|exact n3|exact n4)))|refine ⟨(dxX (by kernel_rfl)),?_⟩|exact (dxX (by kernel_rfl))|simp -dsimp (maxSteps:=20000000) (disch:=omega) only [simx,zzC,zzB,tys,ite_self,A8,A2,Ax,Aq,Ao,At,Az,Ac,A5,PV.sk,Ai,Ar,As,Ap,Ay,Ab,Aj,Am,A9,Value.oneCell',Ah,Ba,Aw,A4,A1,Al,An,Ae,Ak,isZ,A6,A3,Ad,Aa,Ag,A0,Af,↓reduceIte,reduceSub,reduceEqDiff,reduceAdd,reduceMul,reduceLT,reduceLeDiff,reduceToNat,reduceLE,Int.reduceLT,reduceNeg,reduceCtorEq,gos,Int.reduceAdd,Int.reduceSub,Int.reduceMul,reduceEq,cj,ck,e1,e2,e4,e5,e7,kk,g1,g5,g6,el,u1,List.length_map,SK.len,ite_self,De,Bi])
                refine Bb rfl ?_
                repeat (first|refine ⟨(dxX (by kernel_rfl)),?_⟩|exact (dxX (by kernel_rfl))|simp -dsimp (maxSteps:=20000000) (disch:=omega) only [simx,zzC,zzB,tys,ite_self,A8,A2,Ax,Aq,Ao,At,Az,Ac,A5,PV.sk,Ai,Ar,As,Ap,Ay,Ab,Aj,Am,A9,Value.oneCell',Ah,Ba,Aw,A4,A1,Al,An,Ae,Ak,isZ,A6,A3,Ad,Aa,Ag,A0,Af,↓reduceIte,reduceSub,reduceEqDiff,reduceAdd,reduceMul,reduceLT,reduceLeDiff,reduceToNat,reduceLE,Int.reduceLT,reduceNeg,reduceCtorEq,gos,Int.reduceAdd,Int.reduceSub,Int.reduceMul,reduceEq,e5,ite_self,De])
                refine Bb rfl ?_
                repeat (first|refine ⟨(dxX (by kernel_rfl)),?_⟩|exact (dxX (by kernel_rfl))|simp -dsimp (maxSteps:=20000000) (disch:=omega) only [simx,zzC,zzB,tys,ite_self,A8,A2,Ax,Aq,Ao,At,Az,Ac,A5,PV.sk,Ai,Ar,As,Ap,Ay,Ab,Aj,Am,A9,Value.oneCell',Ah,Ba,Aw,A4,A1,Al,An,Ae,Ak,isZ,A6,A3,Ad,Aa,Ag,A0,Af,↓reduceIte,reduceSub,reduceEqDiff,reduceAdd,reduceMul,reduceLT,reduceLeDiff,reduceToNat,reduceLE,Int.reduceLT,reduceNeg,reduceCtorEq,gos,Int.reduceAdd,Int.reduceSub,Int.reduceMul,reduceEq])
                refine D0 (z:=1) (cs:=(tbl (j + 1) F).map iu) 22 [.int .u64 0] [iu s] (by simp only [tys]) (by simp only [tys]) rfl (by decide) (by simp [Heap.put_at]) (by rw [List.length_map]) (by rw [List.length_map,l1,Nat.mul_one]) (by simp [Heap.put_at]; rfl) rfl (by simp only [tys]; omega) (by rw [B3]; omega) ?_
                repeat (first|refine ⟨(dxX (by kernel_rfl)),?_⟩|exact (dxX (by kernel_rfl))|simp -dsimp (maxSteps:=20000000) (disch:=omega) only [simx,zzC,zzB,tys,ite_self,A8,A2,Ax,Aq,Ao,At,Az,Ac,A5,PV.sk,Ai,Ar,As,Ap,Ay,Ab,Aj,Am,A9,Value.oneCell',Ah,Ba,Aw,A4,A1,Al,An,Ae,Ak,isZ,A6,A3,Ad,Aa,Ag,A0,Af,↓reduceIte,reduceSub,reduceEqDiff,reduceAdd,reduceMul,reduceLT,reduceLeDiff,reduceToNat,reduceLE,Int.reduceLT,reduceNeg,reduceCtorEq,gos,Int.reduceAdd,Int.reduceSub,Int.reduceMul,reduceEq,cj])
                refine ⟨cj,Bv rfl (by simp -dsimp only [zzB,tys,ite_self,A8,A2,Ax,Aq,Ao,At,Az,Ac,A5,PV.sk,Ai,Ar,As,Ap,Ay,Ab,Aj,Am,A9,Value.oneCell',Ah,Ba,Aw,A4,A1,Al,An,Ae,Ak,isZ,A6,A3,Ad,Aa,Ag,A0,Af,↓reduceIte,reduceSub,reduceEqDiff,reduceAdd,reduceMul,reduceLT,reduceLeDiff,reduceToNat,reduceLE,Int.reduceLT,reduceNeg,reduceCtorEq,gos,Int.reduceAdd,Int.reduceSub,Int.reduceMul,reduceEq,simx,Bm,Bo]; simp [Bn,Be,ne1,ne2]) (by repeat (first|exact nv1|refine Bp ?_)) Bl,?_,?_⟩
                · rw [t1]; simp [tbl,Bi]
                · funext c
                  simp (maxSteps:=20000000) only [Heap.drop_at,Bh,Heap.put_at,Heap.none_at,List.mem_cons,List.not_mem_nil,or_false]
                  by_cases e0:c=(17,18)::base
                  · subst e0; simp [t1,e5,show tbl 0 F=[] from rfl]
                  by_cases e1:c=(901,k + 2)::base
                  · subst e1; simp [t1,e5,show tbl 0 F=[] from rfl]
                  simp [e0,e1,t1,e5,show tbl 0 F=[] from rfl]
            · obtain rfl:C=j:=by omega
              rw [FT]
              have rpC:rowP ((901,k + 2)::base) 1 C ((elR P T row (k + 1)).map iu)=.view ((901,k + 2)::base) 0 1 C C:=by unfold rowP; rw [if_neg (by omega),List.length_map,Gt,rl]
              have rhC:∀ (h:Heap) cs,C9 h ((901,k + 2)::base) C cs=h.put ((901,k + 2)::base) (.row false cs):=fun h cs => Ge h _ cs (by omega)
              rw [rpC,rhC]
              have t1:=Fx k (elX P T row)
              have l1:=Ca k (elX P T row)
              have nx:Dt base H P T row (k + 1)=(Dt base H P T row k).put ((901,k + 2)::base) (.row false ((elR P T row (k + 1)).map iu)):=rfl
              repeat (first|refine ⟨(dxX (by kernel_rfl)),?_⟩|exact (dxX (by kernel_rfl))|simp -dsimp (maxSteps:=20000000) (disch:=omega) only [simx,zzC,zzB,tys,ite_self,A8,A2,Ax,Aq,Ao,At,Az,Ac,A5,PV.sk,Ai,Ar,As,Ap,Ay,Ab,Aj,Am,A9,Value.oneCell',Ah,Ba,Aw,A4,A1,Al,An,Ae,Ak,isZ,A6,A3,Ad,Aa,Ag,A0,Af,↓reduceIte,reduceSub,reduceEqDiff,reduceAdd,reduceMul,reduceLT,reduceLeDiff,reduceToNat,reduceLE,Int.reduceLT,reduceNeg,reduceCtorEq,gos,Int.reduceAdd,Int.reduceSub,Int.reduceMul,reduceEq,e2,e6])
              refine Bg rfl ?_
              repeat (first|refine ⟨(dxX (by kernel_rfl)),?_⟩|exact (dxX (by kernel_rfl))|simp -dsimp (maxSteps:=20000000) (disch:=omega) only [simx,zzC,zzB,tys,ite_self,A8,A2,Ax,Aq,Ao,At,Az,Ac,A5,PV.sk,Ai,Ar,As,Ap,Ay,Ab,Aj,Am,A9,Value.oneCell',Ah,Ba,Aw,A4,A1,Al,An,Ae,Ak,isZ,A6,A3,Ad,Aa,Ag,A0,Af,↓reduceIte,reduceSub,reduceEqDiff,reduceAdd,reduceMul,reduceLT,reduceLeDiff,reduceToNat,reduceLE,Int.reduceLT,reduceNeg,reduceCtorEq,gos,Int.reduceAdd,Int.reduceSub,Int.reduceMul,reduceEq,e6])
              refine Ab1 ((900,i)::base) rfl ?_
              repeat (first|refine ⟨(dxX (by kernel_rfl)),?_⟩|exact (dxX (by kernel_rfl))|simp -dsimp (maxSteps:=20000000) (disch:=omega) only [simx,zzC,zzB,tys,ite_self,A8,A2,Ax,Aq,Ao,At,Az,Ac,A5,PV.sk,Ai,Ar,As,Ap,Ay,Ab,Aj,Am,A9,Value.oneCell',Ah,Ba,Aw,A4,A1,Al,An,Ae,Ak,isZ,A6,A3,Ad,Aa,Ag,A0,Af,↓reduceIte,reduceSub,reduceEqDiff,reduceAdd,reduceMul,reduceLT,reduceLeDiff,reduceToNat,reduceLE,Int.reduceLT,reduceNeg,reduceCtorEq,gos,Int.reduceAdd,Int.reduceSub,Int.reduceMul,reduceEq])
              refine C4 (s:=(900,i)::base) (n:=k) (z:=1) (cs:=(tbl k (elX P T row)).map iu) 22 [.int .u64 0] [iu (elX P T row k)] (by simp only [tys]) (by simp only [tys]) rfl (by decide) (by rw [List.length_map,l1,Nat.mul_one]) (by simp [Heap.put_at,e10]) (by simp [Heap.put_at]; rfl) rfl (by simp only [tys]; omega) (by rw [B3]; omega) ?_
              repeat (first|refine Bg rfl ?_|refine Bb rfl ?_|refine ⟨(dxX (by kernel_rfl)),?_⟩|exact (dxX (by kernel_rfl))|simp -dsimp (maxSteps:=20000000) (disch:=omega) only [simx,zzC,zzB,tys,ite_self,A8,A2,Ax,Aq,Ao,At,Az,Ac,A5,PV.sk,Ai,Ar,As,Ap,Ay,Ab,Aj,Am,A9,Value.oneCell',Ah,Ba,Aw,A4,A1,Al,An,Ae,Ak,isZ,A6,A3,Ad,Aa,Ag,A0,Af,↓reduceIte,reduceSub,reduceEqDiff,reduceAdd,reduceMul,reduceLT,reduceLeDiff,reduceToNat,reduceLE,Int.reduceLT,reduceNeg,reduceCtorEq,gos,Int.reduceAdd,Int.reduceSub,Int.reduceMul,reduceEq,ck,Bi])
              refine ⟨ck,Bv rfl (by simp -dsimp only [zzB,tys,ite_self,A8,A2,Ax,Aq,Ao,At,Az,Ac,A5,PV.sk,Ai,Ar,As,Ap,Ay,Ab,Aj,Am,A9,Value.oneCell',Ah,Ba,Aw,A4,A1,Al,An,Ae,Ak,isZ,A6,A3,Ad,Aa,Ag,A0,Af,↓reduceIte,reduceSub,reduceEqDiff,reduceAdd,reduceMul,reduceLT,reduceLeDiff,reduceToNat,reduceLE,Int.reduceLT,reduceNeg,reduceCtorEq,gos,Int.reduceAdd,Int.reduceSub,Int.reduceMul,reduceEq,simx,Bm,Bo]; simp [Bn,Be,ne1,ne2]) (by repeat (first|exact nv1|refine Bp ?_)) (Bv rfl (by simp -dsimp only [zzB,tys,ite_self,A8,A2,Ax,Aq,Ao,At,Az,Ac,A5,PV.sk,Ai,Ar,As,Ap,Ay,Ab,Aj,Am,A9,Value.oneCell',Ah,Ba,Aw,A4,A1,Al,An,Ae,Ak,isZ,A6,A3,Ad,Aa,Ag,A0,Af,↓reduceIte,reduceSub,reduceEqDiff,reduceAdd,reduceMul,reduceLT,reduceLeDiff,reduceToNat,reduceLE,Int.reduceLT,reduceNeg,reduceCtorEq,gos,Int.reduceAdd,Int.reduceSub,Int.reduceMul,reduceEq,simx,Bm,Bo]; simp [Bn,Be,ne1,ne2]) (by repeat (first|exact nv2|refine Bp ?_)) Bl),?_,?_⟩
              · rw [t1]; simp [Bi]
              · funext c
                rw [nx]
                simp only [Heap.drop_at,Bh,Heap.put_at,List.mem_cons,List.not_mem_nil,or_false]
                by_cases q0:c=(17,18)::base
                · subst q0
                  rw [Hd (by simp),kt 17 18 (by simp)]; simp
                by_cases q1:c=(19,2)::base
                · subst q1
                  rw [Hd (by simp),kt 19 2 (by simp)]; simp
                by_cases q2:c=(900,i)::base
                · subst q2; simp [t1]
                by_cases q3:c=(901,k + 2)::base
                · subst q3; simp
                have q4:HH c=Dt base H P T row k c:=by rw [← hHH,Hq _ _ _ q2]
                simp [q0,q1,q2,q3,q4]
        · have ek:k=T.us.length:=by omega
          have el:=Gt P T row k
          rw [rl] at el
          have ei:=M9 hp T rin k
          have rs:Eb P T row=elR P T row k:=by unfold Eb; rw [ek]
          have xs:xsT P T row=tbl k (elX P T row):=by unfold xsT; rw [ek]
          have xl:=Ca k (elX P T row)
          have at':∀ a b,a ≠ 901 → (a,b) ≠ (900,i) → C9 (Dt base H P T row k) ((900,i)::base) k ((tbl k (elX P T row)).map iu) ((a,b)::base)=H ((a,b)::base):=fun a b h1 h2 => by
            rw [Hq _ _ _ (by simpa using h2),Hd (fun m => by simp [h1])]
          have e1:=(at' 1 0 (by decide) (by simp)).trans kc
          have e2:=(at' 0 0 (by decide) (by simp)).trans k0
          have e3:=(at' 28 4 (by decide) (by simp)).trans kR
          have e4:=(at' 29 4 (by decide) (by simp)).trans kQ
          have e5:=(at' 30 4 (by decide) (by simp)).trans kU
          have e6:=(at' 31 4 (by decide) (by simp)).trans kC
          have e7:C9 (Dt base H P T row k) ((900,i)::base) k ((tbl k (elX P T row)).map iu) ((901,k + 1)::base)=some (.row false ((elR P T row k).map iu)):=by
            rw [Hq _ _ _ (by simp),U0]
          have e9:Dt base H P T row k ((900,i)::base)=none:=by rw [Hd (by simp)]; exact k9
          have e10:C9 (Dt base H P T row k) ((900,i)::base) k ((tbl k (elX P T row)).map iu) ((900,i)::base)=if k=0 then none else some (.row false ((tbl k (elX P T row)).map iu)):=by rw [Bh,e9]; simp
          have et:∀ a b,((a=5 ∨ a=17 ∨ a=19 ∨ a=27) ∨ ((a=28 ∨ a=29 ∨ a=30 ∨ a=31) ∧ b=3)) → C9 (Dt base H P T row k) ((900,i)::base) k ((tbl k (elX P T row)).map iu) ((a,b)::base)=none:=fun a b h => by
            rw [at' a b (by rintro rfl; simp at h) (by rintro ⟨⟩; simp at h)]
            exact kt a b (by
              rcases h with h|h
              · exact .inl (by rcases h with h|h|h|h <;> simp [h])
              · exact .inr h)
          have eo:∀ c,c ∉ Nx base → c ≠ (900,i)::base → C9 (Dt base H P T row k) ((900,i)::base) k ((tbl k (elX P T row)).map iu) c=H c:=fun c h1 h2 => by
            rw [Hq _ _ _ h2]
            exact Ry h1 (by omega)
          generalize hHH:C9 (Dt base H P T row k) ((900,i)::base) k ((tbl k (elX P T row)).map iu)=HH at e1 e2 e3 e4 e5 e6 e7 e10 et eo ⊢
          have kk1:¬ (k:Int) < (T.us.length:Int):=by omega
          have kk0:¬ (k:Int) < 0:=by omega
          have hU:(rowP ((30,4)::base) 1 T.us.length (T.us.map (lv C))=Dk) ∨ (rowP ((30,4)::base) 1 T.us.length (T.us.map (lv C))=.view ((30,4)::base) 0 1 T.us.length T.us.length):=by
            by_cases h0:T.us.length=0
            · rw [h0]; exact .inl (Bk ..)
            · unfold rowP; rw [if_neg h0,List.length_map]; exact .inr rfl
          rcases hU with rpU|rpU <;> (
            repeat (first|refine Bg rfl ?_|refine Bb rfl ?_|refine ⟨(dxX (by kernel_rfl)),?_⟩|exact (dxX (by kernel_rfl))|simp -dsimp (maxSteps:=20000000) (disch:=omega) only [simx,zzC,zzB,tys,ite_self,A8,A2,Ax,Aq,Ao,At,Az,Ac,A5,PV.sk,Ai,Ar,As,Ap,Ay,Ab,Aj,Am,A9,Value.oneCell',Ah,Ba,Aw,A4,A1,Al,An,Ae,Ak,isZ,A6,A3,Ad,Aa,Ag,A0,Af,↓reduceIte,reduceSub,reduceEqDiff,reduceAdd,reduceMul,reduceLT,reduceLeDiff,reduceToNat,reduceLE,Int.reduceLT,reduceNeg,reduceCtorEq,gos,Int.reduceAdd,Int.reduceSub,Int.reduceMul,reduceEq,kk1,kk0,e1,e2,rpU,List.length_map,SK.len])
            refine B5 [0,3,4,6,7,8,9,17] [] 0 C (fun j => ∀ q,q < j → (elR P T row k).getD q 0=0) (fun j => [(17,i64 j)]) (fun _ => HH) ?_ ?_ ?_ ?_ ?_ (by decide) ?_
            · exact Bl
            · ((simp -dsimp (disch:=omega) only [simx,zzB,tys,ite_self,A8,A2,Ax,Aq,Ao,At,Az,Ac,A5,PV.sk,Ai,Ar,As,Ap,Ay,Ab,Aj,Am,A9,Value.oneCell',Ah,Ba,Aw,A4,A1,Al,An,Ae,Ak,isZ,A6,A3,Ad,Aa,Ag,A0,Af,↓reduceIte,reduceSub,reduceEqDiff,reduceAdd,reduceMul,reduceLT,reduceLeDiff,reduceToNat,reduceLE,Int.reduceLT,reduceNeg,reduceCtorEq,gos,Int.reduceAdd,Int.reduceSub,Int.reduceMul,reduceEq]) <;> first|rfl|simp)
            · exact drop_nil _
            · omega
            · intro q hq; omega
            · intro j hj hz
              by_cases cj:j < C
              · have g5:((elR P T row k).map iu)[j]?=some (iu ((elR P T row k).getD j 0)):=by rw [List.getElem?_map,getD_some el cj]; rfl
                by_cases z0:(elR P T row k).getD j 0=0
                · rw [z0] at g5
                  repeat (first|refine Bg rfl ?_|refine Bb rfl ?_|refine ⟨(dxX (by kernel_rfl)),?_⟩|exact (dxX (by kernel_rfl))|simp -dsimp (maxSteps:=20000000) (disch:=omega) only [simx,zzC,zzB,tys,ite_self,A8,A2,Ax,Aq,Ao,At,Az,Ac,A5,PV.sk,Ai,Ar,As,Ap,Ay,Ab,Aj,Am,A9,Value.oneCell',Ah,Ba,Aw,A4,A1,Al,An,Ae,Ak,isZ,A6,A3,Ad,Aa,Ag,A0,Af,↓reduceIte,reduceSub,reduceEqDiff,reduceAdd,reduceMul,reduceLT,reduceLeDiff,reduceToNat,reduceLE,Int.reduceLT,reduceNeg,reduceCtorEq,gos,Int.reduceAdd,Int.reduceSub,Int.reduceMul,reduceEq,cj,e2,e7,g5,el,List.length_map,SK.len])
                  refine ⟨cj,Bl,fun q hq => ?_,rfl,drop_nil _⟩
                  by_cases e:q=j
                  · rw [e]; exact z0
                  · exact hz q (by omega)
                · have nz:nzA (Eb P T row) 0=(j:Int):=by rw [rs]; exact nzA_at (by omega) z0 hz
                  have nC:¬ nzA (Eb P T row) 0 < 0:=by rw [nz]; omega
                  obtain ⟨t1,t2,t3,_⟩:=Ov (p:=P) (T:=T) (row:=row) (x:=i) nC
                  have te:=(Oy (p:=P) I row (i:Int) rfl).2 nC
                  rw [nz] at t2
                  rw [rs] at t3
                  rw [xs] at te
                  obtain ⟨cs1,_⟩:=Lw (P:=P) (row:=row) I
                  have n1:=Uh hP hp (Ce ei (i:=j) (by omega)) z0
                  have q27:=et 27 1 (by simp)
                  have q28:=et 28 3 (by simp)
                  have q29:=et 29 3 (by simp)
                  have q30:=et 30 3 (by simp)
                  have q31:=et 31 3 (by simp)
                  have ql:=I.ql
                  have rl':=I.rl
                  have ri':=I.ri
                  generalize hT':Cz (P:Int) T (i:Int) row=T' at *
                  have hc5:Cw base (csF T') (i + 1)=Cw base (csF T) i ++ [rowP ((900,i)::base) 1 (k + 1) ((tbl k (elX P T row)).map iu ++ [iu 1])]:=by
                    rw [Lc,J2 cs1]
                    unfold Ld csF
                    rw [te]
                    simp [xl]
                  have hu1:T'.us.length=T.us.length + 1:=by rw [t3]; simp
                  have nt:((elR P T row k).map iu).take C=(elR P T row k).map iu:=List.take_of_length_le (by rw [List.length_map,el]; exact Nat.le_refl _)
                  generalize D7 (P:Int) ((elR P T row k).getD j 0)=iv0 at n1
                  repeat (first|((first|refine Bd rfl (by simp only [tys]) ?_|refine Bc rfl (by simp only [tys]) ?_); apply Exists.intro; apply And.intro; (focus (simp -dsimp only [simx,zzC,zzB,tys,ite_self,A8,A2,Ax,Aq,Ao,At,Az,Ac,A5,PV.sk,Ai,Ar,As,Ap,Ay,Ab,Aj,Am,A9,Value.oneCell',Ah,Ba,Aw,A4,A1,Al,An,Ae,Ak,isZ,A6,A3,Ad,Aa,Ag,A0,Af,↓reduceIte,reduceSub,reduceEqDiff,reduceAdd,reduceMul,reduceLT,reduceLeDiff,reduceToNat,reduceLE,Int.reduceLT,reduceNeg,reduceCtorEq,zzL,if_true,if_false] <;> rfl)); apply Exists.intro; apply And.intro; (focus (first|exact n1)))|refine ⟨(dxX (by kernel_rfl)),?_⟩|exact (dxX (by kernel_rfl))|simp -dsimp (maxSteps:=20000000) (disch:=omega) only [simx,zzC,zzB,tys,ite_self,A8,A2,Ax,Aq,Ao,At,Az,Ac,A5,PV.sk,Ai,Ar,As,Ap,Ay,Ab,Aj,Am,A9,Value.oneCell',Ah,Ba,Aw,A4,A1,Al,An,Ae,Ak,isZ,A6,A3,Ad,Aa,Ag,A0,Af,↓reduceIte,reduceSub,reduceEqDiff,reduceAdd,reduceMul,reduceLT,reduceLeDiff,reduceToNat,reduceLE,Int.reduceLT,reduceNeg,reduceCtorEq,gos,Int.reduceAdd,Int.reduceSub,Int.reduceMul,reduceEq,cj,z0,e1,e2,e7,g5,el,List.length_map,SK.len])
                  refine Bg rfl ?_
                  repeat (first|refine ⟨(dxX (by kernel_rfl)),?_⟩|exact (dxX (by kernel_rfl))|simp -dsimp (maxSteps:=20000000) (disch:=omega) only [simx,zzC,zzB,tys,ite_self,A8,A2,Ax,Aq,Ao,At,Az,Ac,A5,PV.sk,Ai,Ar,As,Ap,Ay,Ab,Aj,Am,A9,Value.oneCell',Ah,Ba,Aw,A4,A1,Al,An,Ae,Ak,isZ,A6,A3,Ad,Aa,Ag,A0,Af,↓reduceIte,reduceSub,reduceEqDiff,reduceAdd,reduceMul,reduceLT,reduceLeDiff,reduceToNat,reduceLE,Int.reduceLT,reduceNeg,reduceCtorEq,gos,Int.reduceAdd,Int.reduceSub,Int.reduceMul,reduceEq,q27])
                  refine Ab1 ((900,i)::base) rfl ?_
                  repeat (first|refine ⟨(dxX (by kernel_rfl)),?_⟩|exact (dxX (by kernel_rfl))|simp -dsimp (maxSteps:=20000000) (disch:=omega) only [simx,zzC,zzB,tys,ite_self,A8,A2,Ax,Aq,Ao,At,Az,Ac,A5,PV.sk,Ai,Ar,As,Ap,Ay,Ab,Aj,Am,A9,Value.oneCell',Ah,Ba,Aw,A4,A1,Al,An,Ae,Ak,isZ,A6,A3,Ad,Aa,Ag,A0,Af,↓reduceIte,reduceSub,reduceEqDiff,reduceAdd,reduceMul,reduceLT,reduceLeDiff,reduceToNat,reduceLE,Int.reduceLT,reduceNeg,reduceCtorEq,gos,Int.reduceAdd,Int.reduceSub,Int.reduceMul,reduceEq])
                  refine C4 (s:=(900,i)::base) (n:=k) (z:=1) (cs:=(tbl k (elX P T row)).map iu) 22 [.int .u64 0] [iu 1] (by simp only [tys]) (by simp only [tys]) rfl (by decide) (by rw [List.length_map,xl,Nat.mul_one]) (by simp [Heap.put_at,e10]) (by simp [Heap.put_at]; rfl) rfl (by simp only [tys]; omega) (by rw [B3]; omega) ?_
                  rw [Bi ((900,i)::base)]
                  repeat (first|refine ⟨(dxX (by kernel_rfl)),?_⟩|exact (dxX (by kernel_rfl))|simp -dsimp (maxSteps:=20000000) (disch:=omega) only [simx,zzC,zzB,tys,ite_self,A8,A2,Ax,Aq,Ao,At,Az,Ac,A5,PV.sk,Ai,Ar,As,Ap,Ay,Ab,Aj,Am,A9,Value.oneCell',Ah,Ba,Aw,A4,A1,Al,An,Ae,Ak,isZ,A6,A3,Ad,Aa,Ag,A0,Af,↓reduceIte,reduceSub,reduceEqDiff,reduceAdd,reduceMul,reduceLT,reduceLeDiff,reduceToNat,reduceLE,Int.reduceLT,reduceNeg,reduceCtorEq,gos,Int.reduceAdd,Int.reduceSub,Int.reduceMul,reduceEq,e1])
                  refine Bg rfl ?_
                  repeat (first|refine ⟨(dxX (by kernel_rfl)),?_⟩|exact (dxX (by kernel_rfl))|simp -dsimp (maxSteps:=20000000) (disch:=omega) only [simx,zzC,zzB,tys,ite_self,A8,A2,Ax,Aq,Ao,At,Az,Ac,A5,PV.sk,Ai,Ar,As,Ap,Ay,Ab,Aj,Am,A9,Value.oneCell',Ah,Ba,Aw,A4,A1,Al,An,Ae,Ak,isZ,A6,A3,Ad,Aa,Ag,A0,Af,↓reduceIte,reduceSub,reduceEqDiff,reduceAdd,reduceMul,reduceLT,reduceLeDiff,reduceToNat,reduceLE,Int.reduceLT,reduceNeg,reduceCtorEq,gos,Int.reduceAdd,Int.reduceSub,Int.reduceMul,reduceEq,q28])
                  refine Bg rfl ?_
                  repeat (first|refine ⟨(dxX (by kernel_rfl)),?_⟩|exact (dxX (by kernel_rfl))|simp -dsimp (maxSteps:=20000000) (disch:=omega) only [simx,zzC,zzB,tys,ite_self,A8,A2,Ax,Aq,Ao,At,Az,Ac,A5,PV.sk,Ai,Ar,As,Ap,Ay,Ab,Aj,Am,A9,Value.oneCell',Ah,Ba,Aw,A4,A1,Al,An,Ae,Ak,isZ,A6,A3,Ad,Aa,Ag,A0,Af,↓reduceIte,reduceSub,reduceEqDiff,reduceAdd,reduceMul,reduceLT,reduceLeDiff,reduceToNat,reduceLE,Int.reduceLT,reduceNeg,reduceCtorEq,gos,Int.reduceAdd,Int.reduceSub,Int.reduceMul,reduceEq])
                  refine C4 (s:=(28,4)::base) (n:=T.us.length) (z:=1) (cs:=T.rows.map ii) 3 [.int .i64 0] [ii i] (by simp only [tys]) (by simp only [tys]) rfl (by decide) (by rw [List.length_map,Nat.mul_one]; exact rl') (by simp [Heap.put_at,e3]) (by simp [Heap.put_at]; rfl) rfl (by simp only [tys]; omega) (by rw [B3]; omega) ?_
                  rw [Bi ((28,4)::base)]
                  repeat (first|refine ⟨(dxX (by kernel_rfl)),?_⟩|exact (dxX (by kernel_rfl))|simp -dsimp (maxSteps:=20000000) (disch:=omega) only [simx,zzC,zzB,tys,ite_self,A8,A2,Ax,Aq,Ao,At,Az,Ac,A5,PV.sk,Ai,Ar,As,Ap,Ay,Ab,Aj,Am,A9,Value.oneCell',Ah,Ba,Aw,A4,A1,Al,An,Ae,Ak,isZ,A6,A3,Ad,Aa,Ag,A0,Af,↓reduceIte,reduceSub,reduceEqDiff,reduceAdd,reduceMul,reduceLT,reduceLeDiff,reduceToNat,reduceLE,Int.reduceLT,reduceNeg,reduceCtorEq,gos,Int.reduceAdd,Int.reduceSub,Int.reduceMul,reduceEq,e1])
                  refine Bg rfl ?_
                  repeat (first|refine ⟨(dxX (by kernel_rfl)),?_⟩|exact (dxX (by kernel_rfl))|simp -dsimp (maxSteps:=20000000) (disch:=omega) only [simx,zzC,zzB,tys,ite_self,A8,A2,Ax,Aq,Ao,At,Az,Ac,A5,PV.sk,Ai,Ar,As,Ap,Ay,Ab,Aj,Am,A9,Value.oneCell',Ah,Ba,Aw,A4,A1,Al,An,Ae,Ak,isZ,A6,A3,Ad,Aa,Ag,A0,Af,↓reduceIte,reduceSub,reduceEqDiff,reduceAdd,reduceMul,reduceLT,reduceLeDiff,reduceToNat,reduceLE,Int.reduceLT,reduceNeg,reduceCtorEq,gos,Int.reduceAdd,Int.reduceSub,Int.reduceMul,reduceEq,q29])
                  refine Bg rfl ?_
                  repeat (first|refine ⟨(dxX (by kernel_rfl)),?_⟩|exact (dxX (by kernel_rfl))|simp -dsimp (maxSteps:=20000000) (disch:=omega) only [simx,zzC,zzB,tys,ite_self,A8,A2,Ax,Aq,Ao,At,Az,Ac,A5,PV.sk,Ai,Ar,As,Ap,Ay,Ab,Aj,Am,A9,Value.oneCell',Ah,Ba,Aw,A4,A1,Al,An,Ae,Ak,isZ,A6,A3,Ad,Aa,Ag,A0,Af,↓reduceIte,reduceSub,reduceEqDiff,reduceAdd,reduceMul,reduceLT,reduceLeDiff,reduceToNat,reduceLE,Int.reduceLT,reduceNeg,reduceCtorEq,gos,Int.reduceAdd,Int.reduceSub,Int.reduceMul,reduceEq])
                  refine C4 (s:=(29,4)::base) (n:=T.us.length) (z:=1) (cs:=T.cols.map ii) 3 [.int .i64 0] [ii j] (by simp only [tys]) (by simp only [tys]) rfl (by decide) (by rw [List.length_map,Nat.mul_one]; exact ql) (by simp [Heap.put_at,e4]) (by simp [Heap.put_at]; rfl) rfl (by simp only [tys]; omega) (by rw [B3]; omega) ?_
                  rw [Bi ((29,4)::base)]
                  repeat (first|refine ⟨(dxX (by kernel_rfl)),?_⟩|exact (dxX (by kernel_rfl))|simp -dsimp (maxSteps:=20000000) (disch:=omega) only [simx,zzC,zzB,tys,ite_self,A8,A2,Ax,Aq,Ao,At,Az,Ac,A5,PV.sk,Ai,Ar,As,Ap,Ay,Ab,Aj,Am,A9,Value.oneCell',Ah,Ba,Aw,A4,A1,Al,An,Ae,Ak,isZ,A6,A3,Ad,Aa,Ag,A0,Af,↓reduceIte,reduceSub,reduceEqDiff,reduceAdd,reduceMul,reduceLT,reduceLeDiff,reduceToNat,reduceLE,Int.reduceLT,reduceNeg,reduceCtorEq,gos,Int.reduceAdd,Int.reduceSub,Int.reduceMul,reduceEq,e1,e7,el,List.length_map])
                  refine Bg rfl ?_
                  repeat (first|refine ⟨(dxX (by kernel_rfl)),?_⟩|exact (dxX (by kernel_rfl))|simp -dsimp (maxSteps:=20000000) (disch:=omega) only [simx,zzC,zzB,tys,ite_self,A8,A2,Ax,Aq,Ao,At,Az,Ac,A5,PV.sk,Ai,Ar,As,Ap,Ay,Ab,Aj,Am,A9,Value.oneCell',Ah,Ba,Aw,A4,A1,Al,An,Ae,Ak,isZ,A6,A3,Ad,Aa,Ag,A0,Af,↓reduceIte,reduceSub,reduceEqDiff,reduceAdd,reduceMul,reduceLT,reduceLeDiff,reduceToNat,reduceLE,Int.reduceLT,reduceNeg,reduceCtorEq,gos,Int.reduceAdd,Int.reduceSub,Int.reduceMul,reduceEq,q30,e7,el,List.length_map,nt])
                  refine Bg rfl ?_
                  repeat (first|refine ⟨(dxX (by kernel_rfl)),?_⟩|exact (dxX (by kernel_rfl))|simp -dsimp (maxSteps:=20000000) (disch:=omega) only [simx,zzC,zzB,tys,ite_self,A8,A2,Ax,Aq,Ao,At,Az,Ac,A5,PV.sk,Ai,Ar,As,Ap,Ay,Ab,Aj,Am,A9,Value.oneCell',Ah,Ba,Aw,A4,A1,Al,An,Ae,Ak,isZ,A6,A3,Ad,Aa,Ag,A0,Af,↓reduceIte,reduceSub,reduceEqDiff,reduceAdd,reduceMul,reduceLT,reduceLeDiff,reduceToNat,reduceLE,Int.reduceLT,reduceNeg,reduceCtorEq,gos,Int.reduceAdd,Int.reduceSub,Int.reduceMul,reduceEq])
                  refine C4 (s:=(30,4)::base) (n:=T.us.length) (z:=1) (cs:=T.us.map (lv C)) 23 [.slice none 0 0] [lv C (elR P T row k)] (by simp only [tys]) (by simp only [tys]) rfl (by decide) (by rw [List.length_map,Nat.mul_one]) (by simp [Heap.put_at,e5]) (by simp [Heap.put_at]; rfl) rfl (by simp only [tys]; omega) (by rw [B3]; omega) ?_
                  rw [Bi ((30,4)::base)]
                  repeat (first|refine ⟨(dxX (by kernel_rfl)),?_⟩|exact (dxX (by kernel_rfl))|simp -dsimp (maxSteps:=20000000) (disch:=omega) only [simx,zzC,zzB,tys,ite_self,A8,A2,Ax,Aq,Ao,At,Az,Ac,A5,PV.sk,Ai,Ar,As,Ap,Ay,Ab,Aj,Am,A9,Value.oneCell',Ah,Ba,Aw,A4,A1,Al,An,Ae,Ak,isZ,A6,A3,Ad,Aa,Ag,A0,Af,↓reduceIte,reduceSub,reduceEqDiff,reduceAdd,reduceMul,reduceLT,reduceLeDiff,reduceToNat,reduceLE,Int.reduceLT,reduceNeg,reduceCtorEq,gos,Int.reduceAdd,Int.reduceSub,Int.reduceMul,reduceEq,e1])
                  refine K6 ((31,3)::base) rfl ?_
                  repeat (first|refine ⟨(dxX (by kernel_rfl)),?_⟩|exact (dxX (by kernel_rfl))|simp -dsimp (maxSteps:=20000000) (disch:=omega) only [simx,zzC,zzB,tys,ite_self,A8,A2,Ax,Aq,Ao,At,Az,Ac,A5,PV.sk,Ai,Ar,As,Ap,Ay,Ab,Aj,Am,A9,Value.oneCell',Ah,Ba,Aw,A4,A1,Al,An,Ae,Ak,isZ,A6,A3,Ad,Aa,Ag,A0,Af,↓reduceIte,reduceSub,reduceEqDiff,reduceAdd,reduceMul,reduceLT,reduceLeDiff,reduceToNat,reduceLE,Int.reduceLT,reduceNeg,reduceCtorEq,gos,Int.reduceAdd,Int.reduceSub,Int.reduceMul,reduceEq,Es,Dy,q31])
                  refine K6 ((31,4)::base) rfl ?_
                  repeat (first|refine ⟨(dxX (by kernel_rfl)),?_⟩|exact (dxX (by kernel_rfl))|simp -dsimp (maxSteps:=20000000) (disch:=omega) only [simx,zzC,zzB,tys,ite_self,A8,A2,Ax,Aq,Ao,At,Az,Ac,A5,PV.sk,Ai,Ar,As,Ap,Ay,Ab,Aj,Am,A9,Value.oneCell',Ah,Ba,Aw,A4,A1,Al,An,Ae,Ak,isZ,A6,A3,Ad,Aa,Ag,A0,Af,↓reduceIte,reduceSub,reduceEqDiff,reduceAdd,reduceMul,reduceLT,reduceLeDiff,reduceToNat,reduceLE,Int.reduceLT,reduceNeg,reduceCtorEq,gos,Int.reduceAdd,Int.reduceSub,Int.reduceMul,reduceEq,Es])
                  refine Ix 23 [.slice none 0 0] (by simp only [tys]) (by simp only [tys]) rfl (C7 _ _ _) (by simp [Heap.put_at]; exact e6) (by simp [Heap.put_at]; rfl) (by simp only [tys]; omega) (by rw [B3]; omega) (fun _ => rfl) ?_
                  rw [B0]
                  repeat (first|refine Bg rfl ?_|refine Bb rfl ?_|refine ⟨(dxX (by kernel_rfl)),?_⟩|exact (dxX (by kernel_rfl))|simp -dsimp (maxSteps:=20000000) (disch:=omega) only [simx,zzC,zzB,tys,ite_self,A8,A2,Ax,Aq,Ao,At,Az,Ac,A5,PV.sk,Ai,Ar,As,Ap,Ay,Ab,Aj,Am,A9,Value.oneCell',Ah,Ba,Aw,A4,A1,Al,An,Ae,Ak,isZ,A6,A3,Ad,Aa,Ag,A0,Af,↓reduceIte,reduceSub,reduceEqDiff,reduceAdd,reduceMul,reduceLT,reduceLeDiff,reduceToNat,reduceLE,Int.reduceLT,reduceNeg,reduceCtorEq,gos,Int.reduceAdd,Int.reduceSub,Int.reduceMul,reduceEq,ci])
                  rw [tn]
                  refine ⟨ci,M8 (h':=rtH base R C (i + 1) l T' (csF T')) ?hs (fun b _ => rfl) ?_ ?_,rfl,?hs⟩
                  case hs =>
                    refine Zr (T:=T) (f:=csF T) cs1 ?_ ?_ ?_ ?_ ?_ ?_ ?_
                    · simp [Heap.put_at,hu1,t1,t2,t3,Bi,B0]
                    · simp [Heap.put_at,hu1,t1]
                    · simp [Heap.put_at,hu1,t2]
                    · simp [Heap.put_at,hu1,t3]
                    · rw [hc5]; simp [Heap.put_at,Bi]
                    · unfold csF; rw [te]; simp [Heap.put_at]
                    · intro c h1 h2 h3 h4 h5 h6 h7
                      obtain ⟨n1,n2,n3,n4,n5⟩:=Vy h1
                      have n6:c ≠ (901,k + 1)::base:=fun e => h1 (e ▸ Da.2 (.inr ⟨k + 1,by omega,rfl⟩))
                      simp only [Heap.put_at,h2,h3,h4,h5,h6,h7,n1,n2,n3,n4,n5,n6,if_false]
                      rw [eo c h1 h7,← hHi]
                  · intro b hb
                    rcases Da.1 hb with hb|⟨m,_,rfl⟩
                    · simp only [List.mem_cons,List.not_mem_nil,or_false] at hb
                      rcases hb with rfl|rfl|rfl|rfl|rfl|rfl|rfl|rfl <;> (simp -dsimp only [zzB,tys,ite_self,A8,A2,Ax,Aq,Ao,At,Az,Ac,A5,PV.sk,Ai,Ar,As,Ap,Ay,Ab,Aj,Am,A9,Value.oneCell',Ah,Ba,Aw,A4,A1,Al,An,Ae,Ak,isZ,A6,A3,Ad,Aa,Ag,A0,Af,↓reduceIte,reduceSub,reduceEqDiff,reduceAdd,reduceMul,reduceLT,reduceLeDiff,reduceToNat,reduceLE,Int.reduceLT,reduceNeg,reduceCtorEq,gos,Int.reduceAdd,Int.reduceSub,Int.reduceMul,reduceEq,simx,Bm,Bo]; simp [Bn,ne1,ne2])
                    · simp -dsimp only [zzB,tys,ite_self,A8,A2,Ax,Aq,Ao,At,Az,Ac,A5,PV.sk,Ai,Ar,As,Ap,Ay,Ab,Aj,Am,A9,Value.oneCell',Ah,Ba,Aw,A4,A1,Al,An,Ae,Ak,isZ,A6,A3,Ad,Aa,Ag,A0,Af,↓reduceIte,reduceSub,reduceEqDiff,reduceAdd,reduceMul,reduceLT,reduceLeDiff,reduceToNat,reduceLE,Int.reduceLT,reduceNeg,reduceCtorEq,gos,Int.reduceAdd,Int.reduceSub,Int.reduceMul,reduceEq,simx,Bm,Bo]; simp [Bn,ne1,ne2]
                  · intro b hb
                    rcases Da.1 hb with hb|⟨m,_,rfl⟩
                    · simp only [List.mem_cons,List.not_mem_nil,or_false] at hb
                      rcases hb with rfl|rfl|rfl|rfl|rfl|rfl|rfl|rfl <;> exact Nn (by simp [ne1,ne2]) (by simp [ne1,ne2]) (by simp [ne1,ne2]) (by simp [ne1,ne2]) (by simp [ne1,ne2])
                    · exact Nn (by simp [ne1,ne2]) (by simp [ne1,ne2]) (by simp [ne1,ne2]) (by simp [ne1,ne2]) (by simp [ne1,ne2])
              · have nC:nzA (Eb P T row) 0 < 0:=by rw [rs]; exact nzA_no fun q hq => hz q (by omega)
                obtain ⟨t1,t2,t3,_⟩:=Ul (p:=P) (T:=T) (row:=row) (x:=i) nC
                have te:=(Oy (p:=P) I row (i:Int) rfl).1 nC
                rw [xs] at te
                obtain ⟨cs1,_⟩:=Lw (P:=P) (row:=row) I
                have q31:=et 31 3 (by simp)
                have ri':=I.ri
                generalize hT':Cz (P:Int) T (i:Int) row=T' at *
                have hc5:Cw base (csF T') (i + 1)=Cw base (csF T) i ++ [rowP ((900,i)::base) 1 k ((tbl k (elX P T row)).map iu)]:=by
                  rw [Lc,J2 cs1]
                  unfold Ld csF
                  rw [te]
                  simp [xl]
                have rpk:(k=0 ∧ rowP ((900,i)::base) 1 k ((tbl k (elX P T row)).map iu)=Dk) ∨ (rowP ((900,i)::base) 1 k ((tbl k (elX P T row)).map iu)=.view ((900,i)::base) 0 1 k k):=by
                  by_cases h0:k=0
                  · subst h0; exact .inl ⟨rfl,Bk ..⟩
                  · refine .inr ?_
                    unfold rowP
                    rw [if_neg h0,List.length_map,xl]
                generalize rowP ((900,i)::base) 1 k ((tbl k (elX P T row)).map iu)=rk at *
                have jC:¬ j < C:=cj
                repeat (first|refine ⟨(dxX (by kernel_rfl)),?_⟩|exact (dxX (by kernel_rfl))|simp -dsimp (maxSteps:=20000000) (disch:=omega) only [simx,zzC,zzB,tys,ite_self,A8,A2,Ax,Aq,Ao,At,Az,Ac,A5,PV.sk,Ai,Ar,As,Ap,Ay,Ab,Aj,Am,A9,Value.oneCell',Ah,Ba,Aw,A4,A1,Al,An,Ae,Ak,isZ,A6,A3,Ad,Aa,Ag,A0,Af,↓reduceIte,reduceSub,reduceEqDiff,reduceAdd,reduceMul,reduceLT,reduceLeDiff,reduceToNat,reduceLE,Int.reduceLT,reduceNeg,reduceCtorEq,gos,Int.reduceAdd,Int.reduceSub,Int.reduceMul,reduceEq,cj,e1,e2,e7,el,List.length_map,SK.len])
                rcases rpk with ⟨_,rfl⟩|rfl <;> (
                  refine K6 ((31,3)::base) rfl ?_
                  repeat (first|refine ⟨(dxX (by kernel_rfl)),?_⟩|exact (dxX (by kernel_rfl))|simp -dsimp (maxSteps:=20000000) (disch:=omega) only [simx,zzC,zzB,tys,ite_self,A8,A2,Ax,Aq,Ao,At,Az,Ac,A5,PV.sk,Ai,Ar,As,Ap,Ay,Ab,Aj,Am,A9,Value.oneCell',Ah,Ba,Aw,A4,A1,Al,An,Ae,Ak,isZ,A6,A3,Ad,Aa,Ag,A0,Af,↓reduceIte,reduceSub,reduceEqDiff,reduceAdd,reduceMul,reduceLT,reduceLeDiff,reduceToNat,reduceLE,Int.reduceLT,reduceNeg,reduceCtorEq,gos,Int.reduceAdd,Int.reduceSub,Int.reduceMul,reduceEq,Es,Dy,q31])
                  refine K6 ((31,4)::base) rfl ?_
                  repeat (first|refine ⟨(dxX (by kernel_rfl)),?_⟩|exact (dxX (by kernel_rfl))|simp -dsimp (maxSteps:=20000000) (disch:=omega) only [simx,zzC,zzB,tys,ite_self,A8,A2,Ax,Aq,Ao,At,Az,Ac,A5,PV.sk,Ai,Ar,As,Ap,Ay,Ab,Aj,Am,A9,Value.oneCell',Ah,Ba,Aw,A4,A1,Al,An,Ae,Ak,isZ,A6,A3,Ad,Aa,Ag,A0,Af,↓reduceIte,reduceSub,reduceEqDiff,reduceAdd,reduceMul,reduceLT,reduceLeDiff,reduceToNat,reduceLE,Int.reduceLT,reduceNeg,reduceCtorEq,gos,Int.reduceAdd,Int.reduceSub,Int.reduceMul,reduceEq,Es])
                  refine Ix 23 [.slice none 0 0] (by simp only [tys]) (by simp only [tys]) rfl (C7 _ _ _) (by simp [Heap.put_at]; exact e6) (by simp [Heap.put_at]; rfl) (by simp only [tys]; omega) (by rw [B3]; omega) (fun _ => rfl) ?_
                  rw [B0]
                  repeat (first|refine Bg rfl ?_|refine Bb rfl ?_|refine ⟨(dxX (by kernel_rfl)),?_⟩|exact (dxX (by kernel_rfl))|simp -dsimp (maxSteps:=20000000) (disch:=omega) only [simx,zzC,zzB,tys,ite_self,A8,A2,Ax,Aq,Ao,At,Az,Ac,A5,PV.sk,Ai,Ar,As,Ap,Ay,Ab,Aj,Am,A9,Value.oneCell',Ah,Ba,Aw,A4,A1,Al,An,Ae,Ak,isZ,A6,A3,Ad,Aa,Ag,A0,Af,↓reduceIte,reduceSub,reduceEqDiff,reduceAdd,reduceMul,reduceLT,reduceLeDiff,reduceToNat,reduceLE,Int.reduceLT,reduceNeg,reduceCtorEq,gos,Int.reduceAdd,Int.reduceSub,Int.reduceMul,reduceEq,ci,e1])
                  rw [tn]
                  refine ⟨ci,M8 (h':=rtH base R C (i + 1) l T' (csF T')) ?hs (fun b _ => rfl) ?_ ?_,rfl,?hs⟩
                  case hs =>
                    refine Zr (T:=T) (f:=csF T) cs1 ?_ ?_ ?_ ?_ ?_ ?_ ?_
                    · simp [Heap.put_at,t1,t2,t3,B0]
                    · simp [Heap.put_at,t1,t3,e3]
                    · simp [Heap.put_at,t2,t3,e4]
                    · simp [Heap.put_at,t3,e5]
                    · rw [hc5]; simp [Heap.put_at]
                    · unfold csF; rw [te]; simp [Heap.put_at,e10,xl]
                    · intro c h1 h2 h3 h4 h5 h6 h7
                      obtain ⟨n1,n2,n3,n4,n5⟩:=Vy h1
                      simp only [Heap.put_at,h2,h6,n5,if_false]
                      rw [eo c h1 h7,← hHi]
                  · intro b hb
                    rcases Da.1 hb with hb|⟨m,_,rfl⟩
                    · simp only [List.mem_cons,List.not_mem_nil,or_false] at hb
                      rcases hb with rfl|rfl|rfl|rfl|rfl|rfl|rfl|rfl <;> (simp -dsimp only [zzB,tys,ite_self,A8,A2,Ax,Aq,Ao,At,Az,Ac,A5,PV.sk,Ai,Ar,As,Ap,Ay,Ab,Aj,Am,A9,Value.oneCell',Ah,Ba,Aw,A4,A1,Al,An,Ae,Ak,isZ,A6,A3,Ad,Aa,Ag,A0,Af,↓reduceIte,reduceSub,reduceEqDiff,reduceAdd,reduceMul,reduceLT,reduceLeDiff,reduceToNat,reduceLE,Int.reduceLT,reduceNeg,reduceCtorEq,gos,Int.reduceAdd,Int.reduceSub,Int.reduceMul,reduceEq,simx,Bm,Bo]; simp [Bn,ne1,ne2])
                    · simp -dsimp only [zzB,tys,ite_self,A8,A2,Ax,Aq,Ao,At,Az,Ac,A5,PV.sk,Ai,Ar,As,Ap,Ay,Ab,Aj,Am,A9,Value.oneCell',Ah,Ba,Aw,A4,A1,Al,An,Ae,Ak,isZ,A6,A3,Ad,Aa,Ag,A0,Af,↓reduceIte,reduceSub,reduceEqDiff,reduceAdd,reduceMul,reduceLT,reduceLeDiff,reduceToNat,reduceLE,Int.reduceLT,reduceNeg,reduceCtorEq,gos,Int.reduceAdd,Int.reduceSub,Int.reduceMul,reduceEq,simx,Bm,Bo]; simp [Bn,ne1,ne2]
                  · intro b hb
                    rcases Da.1 hb with hb|⟨m,_,rfl⟩
                    · simp only [List.mem_cons,List.not_mem_nil,or_false] at hb
                      rcases hb with rfl|rfl|rfl|rfl|rfl|rfl|rfl|rfl <;> exact Nn (by simp [ne1,ne2]) (by simp [ne1,ne2]) (by simp [ne1,ne2]) (by simp [ne1,ne2]) (by simp [ne1,ne2])
                    · exact Nn (by simp [ne1,ne2]) (by simp [ne1,ne2]) (by simp [ne1,ne2]) (by simp [ne1,ne2]) (by simp [ne1,ne2])))
    · obtain rfl:R=i:=by omega
      clear TC
      generalize hT:tkN (P:Int) C l R=T at *
      rw [← Aa1 T]
      have t0:=fun i d => Ao4 (base:=base) (R:=R) (C:=C) (i:=R) (l:=l) (T:=T) (f:=fP T i d)
      have tC:=fun i d => S7 (base:=base) (R:=R) (C:=C) (i:=R) (l:=l) (T:=T) (f:=fP T i d)
      have t2:=fun i d => rtH_r (base:=base) (R:=R) (C:=C) (i:=R) (l:=l) (T:=T) (f:=fP T i d)
      have h36:∀ i d,rtH base R C R l T (fP T i d) ((36,8)::base)=none:=fun i d => by
        simp [rtH,Bh,C1,Cq,ne1,ne2,mtB]
      have nvH:∀ i d,Dw ((36,8)::base) (rtH base R C R l T (fP T i d)):=fun i d => Nn (by simp) (by simp) (by simp) (by simp) (by simp)
      have cp:Hk ((31,4)::base) R=.view ((31,4)::base) 0 1 R R:=if_neg (by omega)
      have cb:∀ L,Jm R L=some (.var L):=fun L => if_neg (by omega)
      simp only [cp] at t0
      simp only [cb] at tC
      have m1:=rtH_m (base:=base) (R:=R) (C:=C) (i:=R) (l:=l) (T:=T) (f:=fP T 0 0)
      repeat (first|refine Bg rfl ?_|refine Bb rfl ?_|refine ⟨(dxX (by kernel_rfl)),?_⟩|exact (dxX (by kernel_rfl))|simp -dsimp (maxSteps:=20000000) (disch:=omega) only [simx,zzC,zzB,tys,ite_self,A8,A2,Ax,Aq,Ao,At,Az,Ac,A5,PV.sk,Ai,Ar,As,Ap,Ay,Ab,Aj,Am,A9,Value.oneCell',Ah,Ba,Aw,A4,A1,Al,An,Ae,Ak,isZ,A6,A3,Ad,Aa,Ag,A0,Af,↓reduceIte,reduceSub,reduceEqDiff,reduceAdd,reduceMul,reduceLT,reduceLeDiff,reduceToNat,reduceLE,Int.reduceLT,reduceNeg,reduceCtorEq,gos,Int.reduceAdd,Int.reduceSub,Int.reduceMul,reduceEq,t0 0 0,ci,m1])
      refine B5 [4,6,20] [(36,8)::base] 0 R (fun _ => True) (fun j => [(20,i64 j)]) (fun j => rtH base R C R l T (fP T j 0)) ?_ ?_ ?_ ?_ ?_ (by decide) ?_
      · exact Bv rfl (by simp -dsimp only [zzB,tys,ite_self,A8,A2,Ax,Aq,Ao,At,Az,Ac,A5,PV.sk,Ai,Ar,As,Ap,Ay,Ab,Aj,Am,A9,Value.oneCell',Ah,Ba,Aw,A4,A1,Al,An,Ae,Ak,isZ,A6,A3,Ad,Aa,Ag,A0,Af,↓reduceIte,reduceSub,reduceEqDiff,reduceAdd,reduceMul,reduceLT,reduceLeDiff,reduceToNat,reduceLE,Int.reduceLT,reduceNeg,reduceCtorEq,gos,Int.reduceAdd,Int.reduceSub,Int.reduceMul,reduceEq,simx,Bm,Bo] <;> simp [Bn,ne1,ne2]) (nvH _ _) Bl
      · ((simp -dsimp (disch:=omega) only [simx,zzB,tys,ite_self,A8,A2,Ax,Aq,Ao,At,Az,Ac,A5,PV.sk,Ai,Ar,As,Ap,Ay,Ab,Aj,Am,A9,Value.oneCell',Ah,Ba,Aw,A4,A1,Al,An,Ae,Ak,isZ,A6,A3,Ad,Aa,Ag,A0,Af,↓reduceIte,reduceSub,reduceEqDiff,reduceAdd,reduceMul,reduceLT,reduceLeDiff,reduceToNat,reduceLE,Int.reduceLT,reduceNeg,reduceCtorEq,gos,Int.reduceAdd,Int.reduceSub,Int.reduceMul,reduceEq]) <;> first|rfl|simp)
      · funext c
        rw [Heap.drop_at]
        split
        · rename_i e
          rw [List.mem_singleton.1 e,h36]
        · rfl
      · omega
      · trivial
      · intro i hi _
        by_cases ci:i < R
        · repeat (first|refine Bg rfl ?_|refine Bb rfl ?_|refine ⟨(dxX (by kernel_rfl)),?_⟩|exact (dxX (by kernel_rfl))|simp -dsimp (maxSteps:=20000000) (disch:=omega) only [simx,zzC,zzB,tys,ite_self,A8,A2,Ax,Aq,Ao,At,Az,Ac,A5,PV.sk,Ai,Ar,As,Ap,Ay,Ab,Aj,Am,A9,Value.oneCell',Ah,Ba,Aw,A4,A1,Al,An,Ae,Ak,isZ,A6,A3,Ad,Aa,Ag,A0,Af,↓reduceIte,reduceSub,reduceEqDiff,reduceAdd,reduceMul,reduceLT,reduceLeDiff,reduceToNat,reduceLE,Int.reduceLT,reduceNeg,reduceCtorEq,gos,Int.reduceAdd,Int.reduceSub,Int.reduceMul,reduceEq,ci,t0,tC,C7,SK.len])
          refine B5 [4,6,20] [(36,8)::base] 0 (T.us.length - (csF T i).length) (fun _ => True) (fun _ => [(20,i64 i)]) (fun j => rtH base R C R l T (fP T i j)) ?_ ?_ ?_ ?_ ?_ (by decide) ?_
          · exact Bv rfl (by simp -dsimp only [zzB,tys,ite_self,A8,A2,Ax,Aq,Ao,At,Az,Ac,A5,PV.sk,Ai,Ar,As,Ap,Ay,Ab,Aj,Am,A9,Value.oneCell',Ah,Ba,Aw,A4,A1,Al,An,Ae,Ak,isZ,A6,A3,Ad,Aa,Ag,A0,Af,↓reduceIte,reduceSub,reduceEqDiff,reduceAdd,reduceMul,reduceLT,reduceLeDiff,reduceToNat,reduceLE,Int.reduceLT,reduceNeg,reduceCtorEq,gos,Int.reduceAdd,Int.reduceSub,Int.reduceMul,reduceEq,simx,Bm,Bo] <;> simp [Bn,ne1,ne2]) (nvH _ _) Bl
          · ((simp -dsimp (disch:=omega) only [simx,zzB,tys,ite_self,A8,A2,Ax,Aq,Ao,At,Az,Ac,A5,PV.sk,Ai,Ar,As,Ap,Ay,Ab,Aj,Am,A9,Value.oneCell',Ah,Ba,Aw,A4,A1,Al,An,Ae,Ak,isZ,A6,A3,Ad,Aa,Ag,A0,Af,↓reduceIte,reduceSub,reduceEqDiff,reduceAdd,reduceMul,reduceLT,reduceLeDiff,reduceToNat,reduceLE,Int.reduceLT,reduceNeg,reduceCtorEq,gos,Int.reduceAdd,Int.reduceSub,Int.reduceMul,reduceEq]) <;> first|rfl|simp)
          · funext c
            rw [Heap.drop_at]
            split
            · rename_i e
              rw [List.mem_singleton.1 e,h36]
            · rfl
          · omega
          · trivial
          · intro j hj _
            by_cases cj:j < T.us.length - (csF T i).length
            · have ru:rowP ((30,4)::base) 1 T.us.length (T.us.map (lv C))=.view ((30,4)::base) 0 1 T.us.length T.us.length:=by unfold rowP; rw [if_neg (by omega),List.length_map]
              have t1:=t0 i j
              have tc:=tC i j
              have g1:=E7 (b:=base) (f:=fP T i j) ci
              have rI:=I.ri
              have xl:(fP T i j i).length=(csF T i).length + j:=by rw [N3]; simp
              have xn:fP T i (j + 1) i=fP T i j i ++ [0]:=by rw [N3,N3,List.replicate_succ',List.append_assoc]
              have rp:=Rs (b:=base) (f:=fP T i j) (g:=fP T i (j + 1)) ci (fun m hm => Aa2 hm)
              have hu:=Az7 (base:=base) (C:=C) (l:=l) (T:=T) (f:=fP T i j) (g:=fP T i (j + 1)) ci (fun m hm => Aa2 hm) (by rw [xn]; simp)
              unfold Ld at g1 rp
              rw [xn] at rp hu
              have hX:(fP T i j i).length ≠ 0 → rtH base R C R l T (fP T i j) ((900,i)::base)=some (.row false ((fP T i j i).map iu)):=fun h => by
                unfold rtH
                simp only [Bh,C1,Gc ci h]
                simp
              have hX0:(fP T i j i).length=0 → rtH base R C R l T (fP T i j) ((900,i)::base)=none:=fun h => by
                unfold rtH
                simp only [Bh,C1,Kt h]
                simp [ne1,ne2]
              have h14:=h36 i j
              have cl:((fP T i j i).length:Int) < (T.us.length:Int):=by omega
              have ile:i + 1 ≤ R:=ci
              have ll:=C7 base (fP T i j) R
              have nvh:=nvH i j
              have nvl:(36,8)::base ∉ Bs (Cw base (fP T i (j + 1)) R):=fun h => by
                obtain ⟨k,hk⟩:=Kw h
                simp at hk
              generalize hh:rtH base R C R l T (fP T i j)=h0 at t1 tc hu hX hX0 h14 nvh
              clear t0 tC t2 h36 nvH m1 cb cp
              generalize fP T i j i=X at g1 rp hu hX hX0 xl cl
              generalize Cw base (fP T i j) R=RL at g1 rp tc ll
              generalize hrr:T.us.length=r at *
              rcases hn:X.length with _|m
              · rw [hn] at g1 cl
                have Xe:X=[]:=List.eq_nil_of_length_eq_zero hn
                subst Xe
                have hX0:=hX0 rfl
                rw [Bk] at g1
                simp only [List.nil_append,List.length_singleton,List.map_cons,List.map_nil] at rp hu
                rw [show rowP ((900,i)::base) 1 1 [iu 0]=.view ((900,i)::base) 0 1 1 1 from rfl] at rp
                repeat (first|refine ⟨(dxX (by kernel_rfl)),?_⟩|exact (dxX (by kernel_rfl))|simp -dsimp (maxSteps:=20000000) (disch:=omega) only [simx,zzC,zzB,tys,ite_self,A8,A2,Ax,Aq,Ao,At,Az,Ac,A5,PV.sk,Ai,Ar,As,Ap,Ay,Ab,Aj,Am,A9,Value.oneCell',Ah,Ba,Aw,A4,A1,Al,An,Ae,Ak,isZ,A6,A3,Ad,Aa,Ag,A0,Af,↓reduceIte,reduceSub,reduceEqDiff,reduceAdd,reduceMul,reduceLT,reduceLeDiff,reduceToNat,reduceLE,Int.reduceLT,reduceNeg,reduceCtorEq,gos,Int.reduceAdd,Int.reduceSub,Int.reduceMul,reduceEq,t1,tc,g1,ci,ru,cl,ll,SK.len])
                refine Bb rfl ?_
                repeat (first|refine ⟨(dxX (by kernel_rfl)),?_⟩|exact (dxX (by kernel_rfl))|simp -dsimp (maxSteps:=20000000) (disch:=omega) only [simx,zzC,zzB,tys,ite_self,A8,A2,Ax,Aq,Ao,At,Az,Ac,A5,PV.sk,Ai,Ar,As,Ap,Ay,Ab,Aj,Am,A9,Value.oneCell',Ah,Ba,Aw,A4,A1,Al,An,Ae,Ak,isZ,A6,A3,Ad,Aa,Ag,A0,Af,↓reduceIte,reduceSub,reduceEqDiff,reduceAdd,reduceMul,reduceLT,reduceLeDiff,reduceToNat,reduceLE,Int.reduceLT,reduceNeg,reduceCtorEq,gos,Int.reduceAdd,Int.reduceSub,Int.reduceMul,reduceEq,h14])
                refine Qe ((900,i)::base) rfl ?_
                repeat (first|refine ⟨(dxX (by kernel_rfl)),?_⟩|exact (dxX (by kernel_rfl))|simp -dsimp (maxSteps:=20000000) (disch:=omega) only [simx,zzC,zzB,tys,ite_self,A8,A2,Ax,Aq,Ao,At,Az,Ac,A5,PV.sk,Ai,Ar,As,Ap,Ay,Ab,Aj,Am,A9,Value.oneCell',Ah,Ba,Aw,A4,A1,Al,An,Ae,Ak,isZ,A6,A3,Ad,Aa,Ag,A0,Af,↓reduceIte,reduceSub,reduceEqDiff,reduceAdd,reduceMul,reduceLT,reduceLeDiff,reduceToNat,reduceLE,Int.reduceLT,reduceNeg,reduceCtorEq,gos,Int.reduceAdd,Int.reduceSub,Int.reduceMul,reduceEq])
                refine Cg (s:=(900,i)::base) (n:=0) (z:=1) (cs:=[]) 22 [.int .u64 0] [iu 0] (by simp only [tys]) (by simp only [tys]) rfl (by decide) rfl (by simp [Heap.put_at]; exact hX0) (by simp [Heap.put_at]; rfl) rfl (by simp only [tys]; omega) (by rw [B3]; omega) ?_
                rw [Bi]
                repeat (first|refine ⟨(dxX (by kernel_rfl)),?_⟩|exact (dxX (by kernel_rfl))|simp -dsimp (maxSteps:=20000000) (disch:=omega) only [simx,zzC,zzB,tys,ite_self,A8,A2,Ax,Aq,Ao,At,Az,Ac,A5,PV.sk,Ai,Ar,As,Ap,Ay,Ab,Aj,Am,A9,Value.oneCell',Ah,Ba,Aw,A4,A1,Al,An,Ae,Ak,isZ,A6,A3,Ad,Aa,Ag,A0,Af,↓reduceIte,reduceSub,reduceEqDiff,reduceAdd,reduceMul,reduceLT,reduceLeDiff,reduceToNat,reduceLE,Int.reduceLT,reduceNeg,reduceCtorEq,gos,Int.reduceAdd,Int.reduceSub,Int.reduceMul,reduceEq,t1,tc,ci,ile,ll,rp,List.nil_append])
                refine ⟨cj,Bv rfl (by simp -dsimp only [zzB,tys,ite_self,A8,A2,Ax,Aq,Ao,At,Az,Ac,A5,PV.sk,Ai,Ar,As,Ap,Ay,Ab,Aj,Am,A9,Value.oneCell',Ah,Ba,Aw,A4,A1,Al,An,Ae,Ak,isZ,A6,A3,Ad,Aa,Ag,A0,Af,↓reduceIte,reduceSub,reduceEqDiff,reduceAdd,reduceMul,reduceLT,reduceLeDiff,reduceToNat,reduceLE,Int.reduceLT,reduceNeg,reduceCtorEq,gos,Int.reduceAdd,Int.reduceSub,Int.reduceMul,reduceEq,simx,Bm,Bo] <;> simp [Bn,ne1,ne2]) (Bu (Bp (Bp nvh)) nvl) Bl,?_⟩
                rw [← hu]
                funext c
                simp (maxSteps:=20000000) only [Heap.drop_at,Bh,Heap.put_at,Heap.none_at,List.mem_cons,List.not_mem_nil,or_false]
                by_cases e0:c=(36,8)::base
                · subst e0; simp [h14]
                by_cases e1:c=(900,i)::base
                · subst e1; simp [h14]
                by_cases e2:c=(31,4)::base
                · subst e2; simp [h14]
                simp [e0,e1,e2,h14]
              · rw [hn] at g1 cl
                have hX:=hX (by omega)
                rw [Bi,List.length_map,hn] at g1
                rw [List.length_append,hn,List.length_singleton,Bi,List.length_map,List.length_append,hn,List.length_singleton] at rp
                repeat (first|refine ⟨(dxX (by kernel_rfl)),?_⟩|exact (dxX (by kernel_rfl))|simp -dsimp (maxSteps:=20000000) (disch:=omega) only [simx,zzC,zzB,tys,ite_self,A8,A2,Ax,Aq,Ao,At,Az,Ac,A5,PV.sk,Ai,Ar,As,Ap,Ay,Ab,Aj,Am,A9,Value.oneCell',Ah,Ba,Aw,A4,A1,Al,An,Ae,Ak,isZ,A6,A3,Ad,Aa,Ag,A0,Af,↓reduceIte,reduceSub,reduceEqDiff,reduceAdd,reduceMul,reduceLT,reduceLeDiff,reduceToNat,reduceLE,Int.reduceLT,reduceNeg,reduceCtorEq,gos,Int.reduceAdd,Int.reduceSub,Int.reduceMul,reduceEq,t1,tc,g1,ci,ru,cl,ll,SK.len])
                refine Bb rfl ?_
                repeat (first|refine ⟨(dxX (by kernel_rfl)),?_⟩|exact (dxX (by kernel_rfl))|simp -dsimp (maxSteps:=20000000) (disch:=omega) only [simx,zzC,zzB,tys,ite_self,A8,A2,Ax,Aq,Ao,At,Az,Ac,A5,PV.sk,Ai,Ar,As,Ap,Ay,Ab,Aj,Am,A9,Value.oneCell',Ah,Ba,Aw,A4,A1,Al,An,Ae,Ak,isZ,A6,A3,Ad,Aa,Ag,A0,Af,↓reduceIte,reduceSub,reduceEqDiff,reduceAdd,reduceMul,reduceLT,reduceLeDiff,reduceToNat,reduceLE,Int.reduceLT,reduceNeg,reduceCtorEq,gos,Int.reduceAdd,Int.reduceSub,Int.reduceMul,reduceEq,h14])
                refine Bb rfl ?_
                repeat (first|refine ⟨(dxX (by kernel_rfl)),?_⟩|exact (dxX (by kernel_rfl))|simp -dsimp (maxSteps:=20000000) (disch:=omega) only [simx,zzC,zzB,tys,ite_self,A8,A2,Ax,Aq,Ao,At,Az,Ac,A5,PV.sk,Ai,Ar,As,Ap,Ay,Ab,Aj,Am,A9,Value.oneCell',Ah,Ba,Aw,A4,A1,Al,An,Ae,Ak,isZ,A6,A3,Ad,Aa,Ag,A0,Af,↓reduceIte,reduceSub,reduceEqDiff,reduceAdd,reduceMul,reduceLT,reduceLeDiff,reduceToNat,reduceLE,Int.reduceLT,reduceNeg,reduceCtorEq,gos,Int.reduceAdd,Int.reduceSub,Int.reduceMul,reduceEq])
                refine D0 (z:=1) (cs:=X.map iu) 22 [.int .u64 0] [iu 0] (by simp only [tys]) (by simp only [tys]) rfl (by decide) (by simp [Heap.put_at]; exact hX) (by simp [hn]) (by simp [hn]) (by simp [Heap.put_at]; rfl) rfl (by simp only [tys]; omega) (by rw [B3]; omega) ?_
                have la:(X.map iu ++ [iu 0]).length=m + 1 + 1:=by simp [hn]
                have lm:X.map iu ++ [iu 0]=(X ++ [0]).map iu:=by simp
                rw [la,lm]
                repeat (first|refine ⟨(dxX (by kernel_rfl)),?_⟩|exact (dxX (by kernel_rfl))|simp -dsimp (maxSteps:=20000000) (disch:=omega) only [simx,zzC,zzB,tys,ite_self,A8,A2,Ax,Aq,Ao,At,Az,Ac,A5,PV.sk,Ai,Ar,As,Ap,Ay,Ab,Aj,Am,A9,Value.oneCell',Ah,Ba,Aw,A4,A1,Al,An,Ae,Ak,isZ,A6,A3,Ad,Aa,Ag,A0,Af,↓reduceIte,reduceSub,reduceEqDiff,reduceAdd,reduceMul,reduceLT,reduceLeDiff,reduceToNat,reduceLE,Int.reduceLT,reduceNeg,reduceCtorEq,gos,Int.reduceAdd,Int.reduceSub,Int.reduceMul,reduceEq,t1,tc,ci,ile,ll,rp])
                refine ⟨cj,Bv rfl (by simp -dsimp only [zzB,tys,ite_self,A8,A2,Ax,Aq,Ao,At,Az,Ac,A5,PV.sk,Ai,Ar,As,Ap,Ay,Ab,Aj,Am,A9,Value.oneCell',Ah,Ba,Aw,A4,A1,Al,An,Ae,Ak,isZ,A6,A3,Ad,Aa,Ag,A0,Af,↓reduceIte,reduceSub,reduceEqDiff,reduceAdd,reduceMul,reduceLT,reduceLeDiff,reduceToNat,reduceLE,Int.reduceLT,reduceNeg,reduceCtorEq,gos,Int.reduceAdd,Int.reduceSub,Int.reduceMul,reduceEq,simx,Bm,Bo] <;> simp [Bn,ne1,ne2]) (Bu (Bp (Bp nvh)) nvl) Bl,?_⟩
                rw [← hu]
                funext c
                simp (maxSteps:=20000000) only [Heap.drop_at,Bh,Heap.put_at,Heap.none_at,List.mem_cons,List.not_mem_nil,or_false]
                by_cases e0:c=(36,8)::base
                · subst e0; simp [h14]
                by_cases e1:c=(900,i)::base
                · subst e1; simp [h14]
                by_cases e2:c=(31,4)::base
                · subst e2; simp [h14]
                simp [e0,e1,e2,h14]
            · have ej:j=T.us.length - (csF T i).length:=by omega
              have ic:=(I.cb (csF T i) (by unfold csF; rw [List.getD_eq_getElem?_getD,List.getElem?_eq_getElem (by rw [I.cl]; exact ci)]; exact List.getElem_mem _)).1
              have xl:(fP T i j i).length=T.us.length:=by rw [N3]; simp; omega
              have t1:=t0 i j
              have tc:=tC i j
              have g1:=E7 (b:=base) (f:=fP T i j) ci
              unfold Ld at g1
              rw [xl] at g1
              have hend:rtH base R C R l T (fP T i j)=rtH base R C R l T (fP T (i + 1) 0):=by rw [ej,Aa3]
              have h14:=h36 i j
              have nvh:=nvH i j
              have ll:=C7 base (fP T i j) R
              clear t0 tC t2 h36 nvH m1 cb cp
              generalize rtH base R C R l T (fP T i j)=h0 at t1 tc h14 nvh hend ⊢
              rcases hr:T.us.length with _|r
              · rw [hr] at t1 g1
                have nlt:¬ (((0:Nat):Int) < ((0:Nat):Int)):=by omega
                repeat (first|refine Bg rfl ?_|refine Bb rfl ?_|refine ⟨(dxX (by kernel_rfl)),?_⟩|exact (dxX (by kernel_rfl))|simp -dsimp (maxSteps:=20000000) (disch:=omega) only [simx,zzC,zzB,tys,ite_self,A8,A2,Ax,Aq,Ao,At,Az,Ac,A5,PV.sk,Ai,Ar,As,Ap,Ay,Ab,Aj,Am,A9,Value.oneCell',Ah,Ba,Aw,A4,A1,Al,An,Ae,Ak,isZ,A6,A3,Ad,Aa,Ag,A0,Af,↓reduceIte,reduceSub,reduceEqDiff,reduceAdd,reduceMul,reduceLT,reduceLeDiff,reduceToNat,reduceLE,Int.reduceLT,reduceNeg,reduceCtorEq,gos,Int.reduceAdd,Int.reduceSub,Int.reduceMul,reduceEq,t1,tc,g1,ci,ll,Bk,SK.len,nlt])
                refine ⟨ci,Bv rfl (by simp -dsimp only [zzB,tys,ite_self,A8,A2,Ax,Aq,Ao,At,Az,Ac,A5,PV.sk,Ai,Ar,As,Ap,Ay,Ab,Aj,Am,A9,Value.oneCell',Ah,Ba,Aw,A4,A1,Al,An,Ae,Ak,isZ,A6,A3,Ad,Aa,Ag,A0,Af,↓reduceIte,reduceSub,reduceEqDiff,reduceAdd,reduceMul,reduceLT,reduceLeDiff,reduceToNat,reduceLE,Int.reduceLT,reduceNeg,reduceCtorEq,gos,Int.reduceAdd,Int.reduceSub,Int.reduceMul,reduceEq,simx,Bm,Bo] <;> simp [Bn,ne1,ne2]) nvh Bl,rfl,?_⟩
                rw [← hend]
                funext c
                rw [Heap.drop_at]
                split
                · rename_i e
                  rw [List.mem_singleton.1 e,h14]
                · rfl
              · rw [hr] at t1 g1
                have nlt:¬ (((r + 1:Nat):Int) < ((r + 1:Nat):Int)):=by omega
                repeat (first|refine Bg rfl ?_|refine Bb rfl ?_|refine ⟨(dxX (by kernel_rfl)),?_⟩|exact (dxX (by kernel_rfl))|simp -dsimp (maxSteps:=20000000) (disch:=omega) only [simx,zzC,zzB,tys,ite_self,A8,A2,Ax,Aq,Ao,At,Az,Ac,A5,PV.sk,Ai,Ar,As,Ap,Ay,Ab,Aj,Am,A9,Value.oneCell',Ah,Ba,Aw,A4,A1,Al,An,Ae,Ak,isZ,A6,A3,Ad,Aa,Ag,A0,Af,↓reduceIte,reduceSub,reduceEqDiff,reduceAdd,reduceMul,reduceLT,reduceLeDiff,reduceToNat,reduceLE,Int.reduceLT,reduceNeg,reduceCtorEq,gos,Int.reduceAdd,Int.reduceSub,Int.reduceMul,reduceEq,t1,tc,g1,ci,ll,Bi,SK.len,nlt])
                refine ⟨ci,Bv rfl (by simp -dsimp only [zzB,tys,ite_self,A8,A2,Ax,Aq,Ao,At,Az,Ac,A5,PV.sk,Ai,Ar,As,Ap,Ay,Ab,Aj,Am,A9,Value.oneCell',Ah,Ba,Aw,A4,A1,Al,An,Ae,Ak,isZ,A6,A3,Ad,Aa,Ag,A0,Af,↓reduceIte,reduceSub,reduceEqDiff,reduceAdd,reduceMul,reduceLT,reduceLeDiff,reduceToNat,reduceLE,Int.reduceLT,reduceNeg,reduceCtorEq,gos,Int.reduceAdd,Int.reduceSub,Int.reduceMul,reduceEq,simx,Bm,Bo] <;> simp [Bn,ne1,ne2]) nvh Bl,rfl,?_⟩
                rw [← hend]
                funext c
                rw [Heap.drop_at]
                split
                · rename_i e
                  rw [List.mem_singleton.1 e,h14]
                · rfl
        · obtain rfl:R=i:=by omega
          have t1:=t0 R 0
          have t2:=t2 R 0
          have tc:=tC R 0
          have fin:∀ (x:Box),RtHp ((rtH base R C R l T (fP T R 0)).put ((0,1)::base) x) base R C T:=by
            intro x
            refine ⟨fun h => ?_,fun h => ?_,fun h => ?_,?_,fun k hk h => ?_⟩
            · simp [rtH,Heap.put_at,Bh,C1,Cq,ne1,ne2]; intro h2; exact absurd (by rw [h2]; rfl) h
            · simp [rtH,Heap.put_at,Bh,C1,Cq,ne1,ne2]; intro h2; exact absurd (by rw [h2]; rfl) h
            · simp [rtH,Heap.put_at,Bh,C1,Cq,ne1,ne2]; intro h2; exact absurd (by rw [h2]; rfl) h
            · simp only [Heap.put_at]; rw [if_neg (by simp)]; exact tc
            · simp only [Heap.put_at]; rw [if_neg (by simp)]
              unfold rtH
              simp only [Bh,C1,Gc hk h]
              simp
          have ll:=C7 base (fP T R 0) R
          have nlt:¬ (R:Int) < (R:Int):=by omega
          rcases hr:T.us.length with _|r
          · rw [hr] at t1
            repeat (first|refine Bg rfl ?_|refine Bb rfl ?_|refine ⟨(dxX (by kernel_rfl)),?_⟩|exact (dxX (by kernel_rfl))|simp -dsimp (maxSteps:=20000000) (disch:=omega) only [simx,zzC,zzB,tys,ite_self,A8,A2,Ax,Aq,Ao,At,Az,Ac,A5,PV.sk,Ai,Ar,As,Ap,Ay,Ab,Aj,Am,A9,Value.oneCell',Ah,Ba,Aw,A4,A1,Al,An,Ae,Ak,isZ,A6,A3,Ad,Aa,Ag,A0,Af,↓reduceIte,reduceSub,reduceEqDiff,reduceAdd,reduceMul,reduceLT,reduceLeDiff,reduceToNat,reduceLE,Int.reduceLT,reduceNeg,reduceCtorEq,zzR,gos,Int.reduceAdd,Int.reduceSub,Int.reduceMul,reduceEq,t1,t2,tc,ll,SK.len,nlt,Bk])
            rw [cp]
            exact ⟨rfl,fin _⟩
          · rw [hr] at t1
            repeat (first|refine Bg rfl ?_|refine Bb rfl ?_|refine ⟨(dxX (by kernel_rfl)),?_⟩|exact (dxX (by kernel_rfl))|simp -dsimp (maxSteps:=20000000) (disch:=omega) only [simx,zzC,zzB,tys,ite_self,A8,A2,Ax,Aq,Ao,At,Az,Ac,A5,PV.sk,Ai,Ar,As,Ap,Ay,Ab,Aj,Am,A9,Value.oneCell',Ah,Ba,Aw,A4,A1,Al,An,Ae,Ak,isZ,A6,A3,Ad,Aa,Ag,A0,Af,↓reduceIte,reduceSub,reduceEqDiff,reduceAdd,reduceMul,reduceLT,reduceLeDiff,reduceToNat,reduceLE,Int.reduceLT,reduceNeg,reduceCtorEq,zzR,gos,Int.reduceAdd,Int.reduceSub,Int.reduceMul,reduceEq,t1,t2,tc,ll,SK.len,nlt,Bi])
            rw [cp]
            exact ⟨rfl,fin _⟩
theorem La {P R C:Nat} {l:List Int} (hP:Prm P) (M:Mt P R C l) (hin:∀ a ∈ l,In P a):CallsP Try.prog 67 [u64 P,C3 R C l] (.tup [Yn (Bf P C R l),i64 0]):=by
  refine CallsP.of_low mixed rfl fun base => ?_
  have I:=Nk hP M hin R (Nat.le_refl R)
  have r1:=M.r1
  obtain ⟨hu,h1,H⟩:=Ad5 hP M hin base
  generalize hT:tkN P C l R=T at I h1 H
  refine ⟨_,hu,h1,?_⟩
  have e:Bf P C R l=(T.rows,T.cols,(List.range R).map (fP T R 0),T.us):=by unfold Bf; rw [hT,fP_cs I]
  have cp:Hk ((31,4)::base) R=.view ((31,4)::base) 0 1 R R:=if_neg (by omega)
  rw [e,cp]
  exact Z3 (b:=base) I.rl I.ql rfl H.r H.q H.u (by omega) H.c H.f (fun u hu => (I.ul u hu).1)
end Go.Proofs.Ythnfphgjfpcpbaa.TM
namespace Go.Proofs.Ythnfphgjfpcpbaa.TM
open Go Go.RowKit
attribute [local irreducible] K W Dg Effs Xg Xo Xr Xdg Xdo Xdr Xif CallsP CallR
def hlX (p:Int) (c:Cy) (b z:List Int) (i:Nat):Nat → Int
  | 0 => b.getD i 0
  | j + 1 => (hlX p c b z i j - (c.2.2.1.getD i []).getD j 0 * z.getD j 0 % p) % p
def hlL (p:Int) (c:Cy) (b:List Int):Nat → List Int
  | 0 => []
  | k + 1 => hlL p c b k ++ [hlX p c b (hlL p c b k) (c.1.getD k 0).toNat k]
theorem Gq (p:Int) (c:Cy) (b:List Int):∀ k,(hlL p c b k).length=k
  | 0 => rfl
  | k + 1 => by rw [hlL,List.length_append,Gq p c b k]; rfl
theorem As8 {p:Int} (hp:Md p) (c:Cy) {b:List Int} (hb:∀ a ∈ b,In p a) (z:List Int) {i:Nat} (hi:i < b.length):∀ j,In p (hlX p c b z i j)
  | 0 => Ce hb hi
  | j + 1 => Dl hp _
theorem Ts {p:Int} {R C:Nat} (hp:Md p) {c:Cy} (hw:CupW p R C c) {b:List Int} (hb:∀ a ∈ b,In p a) (hl:b.length=R):∀ k,k ≤ c.1.length → ∀ a ∈ hlL p c b k,In p a
  | 0,_,a,ha => by simp [hlL] at ha
  | k + 1,hk,a,ha => by
    rw [hlL] at ha
    rcases List.mem_append.1 ha with ha|ha
    · exact Ts hp hw hb hl k (by omega) a ha
    · rw [List.mem_singleton.1 ha]
      have:=hw.rb (c.1.getD k 0) (C0 (by omega))
      exact As8 hp c hb _ (by omega) k
set_option maxHeartbeats 4000000 in
theorem Nz {p:Int} {R C:Nat} {l:List Int} {c:Cy} {vs b:List Int} (hp:Md p) (hw:CupW p R C c) (hR:R ≤ 64) (hb:∀ a ∈ b,In p a) (hl:b.length=R) :
    CallsP Try.prog 59 [D1 p R C l c vs,.i (.l R (b.map iu))] (lu (hlL p c b c.1.length)):=by
  obtain ⟨rw0,cw,cc,uu⟩:=c
  have rle:=hw.rle
  have ql:=hw.ql
  have ccl:=hw.cl
  simp only at rle ql ccl
  refine Bj (n:=52) (m:=2) (rs:=[.tmp 4]) Try.func59 rfl rfl rfl rfl (by decide) fun base => ?_
  repeat (first|refine Bg rfl ?_|refine Bb rfl ?_|refine ⟨(dxX (by kernel_rfl)),?_⟩|exact (dxX (by kernel_rfl))|simp -dsimp (maxSteps:=20000000) (disch:=omega) only [simx,zzC,zzB,tys,ite_self,A8,A2,Ax,Aq,Ao,At,Az,Ac,A5,PV.sk,Ai,Ar,As,Ap,Ay,Ab,Aj,Am,A9,Value.oneCell',Ah,Ba,Aw,A4,A1,Al,An,Ae,Ak,isZ,A6,A3,Ad,Aa,Ag,A0,Af,↓reduceIte,reduceSub,reduceEqDiff,reduceAdd,reduceMul,reduceLT,reduceLeDiff,reduceToNat,reduceLE,Int.reduceLT,reduceNeg,reduceCtorEq,gos,Int.reduceAdd,Int.reduceSub,Int.reduceMul,reduceEq])
  refine B5 [1,2,5,12,13,14] [(11,2)::base] (0) (rw0.length) (fun j => True) (fun j => [(5,rowP ((11,3)::base) 1 j ((hlL p (rw0,cw,cc,uu) b j).map iu)),(14,i64 j)]) (fun j => C9 (Heap.none.put ((0,0)::base) (.var [li rw0,li cw,llP cc,llP uu,u64 p,i64 R,i64 C,lu l,lu vs])) ((11,3)::base) j ((hlL p (rw0,cw,cc,uu) b j).map iu)) ?_ ?_ ?_ ?_ ?_ (by decide) ?_
  · exact (Bv (by simp only [Heap.none_at]) (by (simp -dsimp only [zzB,tys,ite_self,A8,A2,Ax,Aq,Ao,At,Az,Ac,A5,PV.sk,Ai,Ar,As,Ap,Ay,Ab,Aj,Am,A9,Value.oneCell',Ah,Ba,Aw,A4,A1,Al,An,Ae,Ak,isZ,A6,A3,Ad,Aa,Ag,A0,Af,↓reduceIte,reduceSub,reduceEqDiff,reduceAdd,reduceMul,reduceLT,reduceLeDiff,reduceToNat,reduceLE,Int.reduceLT,reduceNeg,reduceCtorEq,Bm,Bo]) <;> simp [Bs,Bn,Be]) (by repeat (first|exact Bx _|refine Bp ?_|refine B4 ?_|refine Bt ?_|refine Bu ?_ (by simp [Bs,Bn,Be]))) (Bl))
  · repeat (first|refine Bg rfl ?_|refine Bb rfl ?_|refine ⟨(dxX (by kernel_rfl)),?_⟩|exact (dxX (by kernel_rfl))|simp -dsimp (maxSteps:=20000000) (disch:=omega) only [simx,zzC,zzB,tys,ite_self,A8,A2,Ax,Aq,Ao,At,Az,Ac,A5,PV.sk,Ai,Ar,As,Ap,Ay,Ab,Aj,Am,A9,Value.oneCell',Ah,Ba,Aw,A4,A1,Al,An,Ae,Ak,isZ,A6,A3,Ad,Aa,Ag,A0,Af,↓reduceIte,reduceSub,reduceEqDiff,reduceAdd,reduceMul,reduceLT,reduceLeDiff,reduceToNat,reduceLE,Int.reduceLT,reduceNeg,reduceCtorEq,gos,Int.reduceAdd,Int.reduceSub,Int.reduceMul,reduceEq,Bk])
    rfl
  · funext c
    simp (maxSteps:=20000000) only [Heap.drop_at,Bh,Heap.put_at,Heap.none_at,List.mem_cons,List.not_mem_nil,or_false]
    by_cases e0:c=(0,0)::base
    · subst e0; simp [Ci]
    by_cases e1:c=(11,2)::base
    · subst e1; simp [Ci]
    simp [e0,e1,Ci]
  · omega
  · trivial
  · intro k hk _
    by_cases ck:k < rw0.length
    · obtain ⟨i0,i1⟩:=hw.rb (rw0.getD k 0) (C0 ck)
      obtain ⟨i,hi⟩:∃ i:Nat,rw0.getD k 0=i:=⟨(rw0.getD k 0).toNat,by omega⟩
      have iR:i < R:=by omega
      have g1:(rw0.map ii)[k]?=some (ii (i:Int)):=by rw [List.getElem?_map,D3 (d:=0) ck,Option.map_some,hi]
      have g2:(b.map iu)[i]?=some (iu (b.getD i 0)):=by rw [List.getElem?_map,getD_some hl iR]; rfl
      obtain ⟨x1,x2⟩:=hw.cr (cc.getD i []) (C0 (by simp only; omega))
      simp only at x1
      have g3:(cc.map fun u => IV.l u.length (u.map iu))[i]?=some (.l rw0.length ((cc.getD i []).map iu)):=by rw [List.getElem?_map,D3 (d:=[]) (by omega),Option.map_some,x1]
      have zl:=Gq p (rw0,cw,cc,uu) b k
      have zi:=Ts hp hw hb hl k (by simp only; omega)
      have hx:=fun j => As8 hp (rw0,cw,cc,uu) hb (hlL p (rw0,cw,cc,uu) b k) (i:=i) (by omega) j
      have hx0:b.getD i 0=hlX p (rw0,cw,cc,uu) b (hlL p (rw0,cw,cc,uu) b k) i 0:=rfl
      have hxs:∀ j,hlX p (rw0,cw,cc,uu) b (hlL p (rw0,cw,cc,uu) b k) i (j + 1)=(hlX p (rw0,cw,cc,uu) b (hlL p (rw0,cw,cc,uu) b k) i j - (cc.getD i []).getD j 0 * (hlL p (rw0,cw,cc,uu) b k).getD j 0 % p) % p:=fun j => rfl
      have hn:hlL p (rw0,cw,cc,uu) b (k + 1)=hlL p (rw0,cw,cc,uu) b k ++ [hlX p (rw0,cw,cc,uu) b (hlL p (rw0,cw,cc,uu) b k) i k]:=by rw [hlL]; simp only [hi,Int.toNat_natCast]
      rw [hx0] at g2
      generalize hlX p (rw0,cw,cc,uu) b (hlL p (rw0,cw,cc,uu) b k) i=X at g2 hx hxs hn
      generalize hZ:hlL p (rw0,cw,cc,uu) b k=Z at zl zi hxs hn ⊢
      generalize cc.getD i []=D at g3 x1 x2 hxs
      repeat (first|refine Bg rfl ?_|refine Bb rfl ?_|refine ⟨(dxX (by kernel_rfl)),?_⟩|exact (dxX (by kernel_rfl))|simp -dsimp (maxSteps:=20000000) (disch:=omega) only [simx,zzC,zzB,tys,ite_self,A8,A2,Ax,Aq,Ao,At,Az,Ac,A5,PV.sk,Ai,Ar,As,Ap,Ay,Ab,Aj,Am,A9,Value.oneCell',Ah,Ba,Aw,A4,A1,Al,An,Ae,Ak,isZ,A6,A3,Ad,Aa,Ag,A0,Af,↓reduceIte,reduceSub,reduceEqDiff,reduceAdd,reduceMul,reduceLT,reduceLeDiff,reduceToNat,reduceLE,Int.reduceLT,reduceNeg,reduceCtorEq,gos,Int.reduceAdd,Int.reduceSub,Int.reduceMul,reduceEq,ck,List.length_map,g1,g2,iR])
      refine B5 [1,2,5,7,8,12,13,14,23,24] [] (0) (k) (fun j => True) (fun j => [(8,u64 (X j)),(24,i64 j)]) (fun j => C9 (Heap.none.put ((0,0)::base) (.var [li rw0,li cw,llP cc,llP uu,u64 p,i64 R,i64 C,lu l,lu vs])) ((11,3)::base) k (Z.map iu)) ?_ ?_ ?_ ?_ ?_ (by decide) ?_
      · exact (Bl)
      · ((simp -dsimp (disch:=omega) only [simx,zzB,tys,ite_self,A8,A2,Ax,Aq,Ao,At,Az,Ac,A5,PV.sk,Ai,Ar,As,Ap,Ay,Ab,Aj,Am,A9,Value.oneCell',Ah,Ba,Aw,A4,A1,Al,An,Ae,Ak,isZ,A6,A3,Ad,Aa,Ag,A0,Af,↓reduceIte,reduceSub,reduceEqDiff,reduceAdd,reduceMul,reduceLT,reduceLeDiff,reduceToNat,reduceLE,Int.reduceLT,reduceNeg,reduceCtorEq,gos,Int.reduceAdd,Int.reduceSub,Int.reduceMul,reduceEq]) <;> first|rfl|simp)
      · exact drop_nil _
      · omega
      · trivial
      · intro j hj _
        by_cases cj:j < k
        · have jr:j < rw0.length:=by omega
          have rp:rowP ((11,3)::base) 1 k (Z.map iu)=.view ((11,3)::base) 0 1 k k:=by unfold rowP; rw [if_neg (by omega),List.length_map,zl]
          have rh:C9 (Heap.none.put ((0,0)::base) (.var [li rw0,li cw,llP cc,llP uu,u64 p,i64 R,i64 C,lu l,lu vs])) ((11,3)::base) k (Z.map iu)=(Heap.none.put ((0,0)::base) (.var [li rw0,li cw,llP cc,llP uu,u64 p,i64 R,i64 C,lu l,lu vs])).put ((11,3)::base) (.row false (Z.map iu)):=if_neg (by omega)
          have g4:(D.map iu)[j]?=some (iu (D.getD j 0)):=by rw [List.getElem?_map,getD_some x1 jr]; rfl
          have g5:(Z.map iu)[j]?=some (iu (Z.getD j 0)):=by rw [List.getElem?_map,getD_some zl cj]; rfl
          have m1:=Kq R C l (rw0,cw,cc,uu) vs hp (Ce x2 (i:=j) (by omega)) (Ce zi (i:=j) (by omega))
          have m2:=Ko R C l (rw0,cw,cc,uu) vs hp (hx j) (Dl hp (D.getD j 0 * Z.getD j 0))
          have hs:=hxs j
          rw [← hs] at m2
          rw [rp,rh]
          repeat (first|((first|refine Bd rfl (by simp only [tys]) ?_|refine Bc rfl (by simp only [tys]) ?_); apply Exists.intro; apply And.intro; (focus (simp -dsimp only [simx,zzC,zzB,tys,ite_self,A8,A2,Ax,Aq,Ao,At,Az,Ac,A5,PV.sk,Ai,Ar,As,Ap,Ay,Ab,Aj,Am,A9,Value.oneCell',Ah,Ba,Aw,A4,A1,Al,An,Ae,Ak,isZ,A6,A3,Ad,Aa,Ag,A0,Af,↓reduceIte,reduceSub,reduceEqDiff,reduceAdd,reduceMul,reduceLT,reduceLeDiff,reduceToNat,reduceLE,Int.reduceLT,reduceNeg,reduceCtorEq,zzL,if_true,if_false] <;> rfl)); apply Exists.intro; apply And.intro; (focus (first|exact m1|exact m2)))|refine Bg rfl ?_|refine Bb rfl ?_|refine ⟨(dxX (by kernel_rfl)),?_⟩|exact (dxX (by kernel_rfl))|simp -dsimp (maxSteps:=20000000) (disch:=omega) only [simx,zzC,zzB,tys,ite_self,A8,A2,Ax,Aq,Ao,At,Az,Ac,A5,PV.sk,Ai,Ar,As,Ap,Ay,Ab,Aj,Am,A9,Value.oneCell',Ah,Ba,Aw,A4,A1,Al,An,Ae,Ak,isZ,A6,A3,Ad,Aa,Ag,A0,Af,↓reduceIte,reduceSub,reduceEqDiff,reduceAdd,reduceMul,reduceLT,reduceLeDiff,reduceToNat,reduceLE,Int.reduceLT,reduceNeg,reduceCtorEq,gos,Int.reduceAdd,Int.reduceSub,Int.reduceMul,reduceEq,cj,jr,ccl,iR,List.length_map,g3,g4,g5,zl])
          refine ⟨cj,(Bl),rfl,?_⟩
          exact drop_nil _
        · have ej:k=j:=by omega
          subst ej
          repeat (first|refine Bg rfl ?_|refine Bb rfl ?_|refine ⟨(dxX (by kernel_rfl)),?_⟩|exact (dxX (by kernel_rfl))|simp -dsimp (maxSteps:=20000000) (disch:=omega) only [simx,zzC,zzB,tys,ite_self,A8,A2,Ax,Aq,Ao,At,Az,Ac,A5,PV.sk,Ai,Ar,As,Ap,Ay,Ab,Aj,Am,A9,Value.oneCell',Ah,Ba,Aw,A4,A1,Al,An,Ae,Ak,isZ,A6,A3,Ad,Aa,Ag,A0,Af,↓reduceIte,reduceSub,reduceEqDiff,reduceAdd,reduceMul,reduceLT,reduceLeDiff,reduceToNat,reduceLE,Int.reduceLT,reduceNeg,reduceCtorEq,gos,Int.reduceAdd,Int.reduceSub,Int.reduceMul,reduceEq])
          refine C4 (s:=(11,3)::base) (n:=k) (z:=1) (cs:=Z.map iu) 22 [.int .u64 0] [iu (X k)] (by simp only [tys]) (by simp only [tys]) rfl (by decide) (by simp [zl]) (by simp [Bh,Heap.put_at,Heap.none_at]) (by simp [Heap.put_at]; rfl) rfl (by simp only [tys]; omega) (by rw [B3]; omega) ?_
          repeat (first|refine Bg rfl ?_|refine Bb rfl ?_|refine ⟨(dxX (by kernel_rfl)),?_⟩|exact (dxX (by kernel_rfl))|simp -dsimp (maxSteps:=20000000) (disch:=omega) only [simx,zzC,zzB,tys,ite_self,A8,A2,Ax,Aq,Ao,At,Az,Ac,A5,PV.sk,Ai,Ar,As,Ap,Ay,Ab,Aj,Am,A9,Value.oneCell',Ah,Ba,Aw,A4,A1,Al,An,Ae,Ak,isZ,A6,A3,Ad,Aa,Ag,A0,Af,↓reduceIte,reduceSub,reduceEqDiff,reduceAdd,reduceMul,reduceLT,reduceLeDiff,reduceToNat,reduceLE,Int.reduceLT,reduceNeg,reduceCtorEq,gos,Int.reduceAdd,Int.reduceSub,Int.reduceMul,reduceEq])
          refine ⟨ck,(Bv (by simp only [Heap.none_at]) (by (simp -dsimp only [zzB,tys,ite_self,A8,A2,Ax,Aq,Ao,At,Az,Ac,A5,PV.sk,Ai,Ar,As,Ap,Ay,Ab,Aj,Am,A9,Value.oneCell',Ah,Ba,Aw,A4,A1,Al,An,Ae,Ak,isZ,A6,A3,Ad,Aa,Ag,A0,Af,↓reduceIte,reduceSub,reduceEqDiff,reduceAdd,reduceMul,reduceLT,reduceLeDiff,reduceToNat,reduceLE,Int.reduceLT,reduceNeg,reduceCtorEq,Bm,Bo]) <;> simp [Bs,Bn,Be]) (by repeat (first|exact Bx _|refine Bp ?_|refine B4 ?_|refine Bt ?_|refine Bu ?_ (by simp [Bs,Bn,Be]))) (Bl)),?_,?_⟩
          · rw [hn,List.map_append]; exact ⟨rfl,rfl⟩
          · rw [hn,List.map_append,De]
            funext c
            simp (maxSteps:=20000000) only [Heap.drop_at,Bh,Heap.put_at,Heap.none_at,List.mem_cons,List.not_mem_nil,or_false]
            by_cases e0:c=(0,0)::base
            · subst e0; simp []
            by_cases e1:c=(11,2)::base
            · subst e1; simp []
            by_cases e2:c=(11,3)::base
            · subst e2; simp []
            simp [e0,e1,e2]
    · have ek:rw0.length=k:=by omega
      have zl:=Gq p (rw0,cw,cc,uu) b rw0.length
      subst ek
      simp only
      generalize hlL p (rw0,cw,cc,uu) b rw0.length=Z at zl ⊢
      rcases hr:rw0.length with _|r
      · rw [hr] at zl
        have e0:Z=[]:=List.eq_nil_of_length_eq_zero zl
        subst e0
        repeat (first|refine Bg rfl ?_|refine Bb rfl ?_|refine ⟨(dxX (by kernel_rfl)),?_⟩|exact (dxX (by kernel_rfl))|simp -dsimp (maxSteps:=20000000) (disch:=omega) only [simx,zzC,zzB,tys,ite_self,A8,A2,Ax,Aq,Ao,At,Az,Ac,A5,PV.sk,Ai,Ar,As,Ap,Ay,Ab,Aj,Am,A9,Value.oneCell',Ah,Ba,Aw,A4,A1,Al,An,Ae,Ak,isZ,A6,A3,Ad,Aa,Ag,A0,Af,↓reduceIte,reduceSub,reduceEqDiff,reduceAdd,reduceMul,reduceLT,reduceLeDiff,reduceToNat,reduceLE,Int.reduceLT,reduceNeg,reduceCtorEq,zzR,gos,Int.reduceAdd,Int.reduceSub,Int.reduceMul,reduceEq,hr,Bk,Ci])
        rfl
      · rw [hr] at zl
        have nt:(Z.map iu).take (r + 1)=Z.map iu:=List.take_of_length_le (by simp [zl])
        repeat (first|refine Bg rfl ?_|refine Bb rfl ?_|refine ⟨(dxX (by kernel_rfl)),?_⟩|exact (dxX (by kernel_rfl))|simp -dsimp (maxSteps:=20000000) (disch:=omega) only [simx,zzC,zzB,tys,ite_self,A8,A2,Ax,Aq,Ao,At,Az,Ac,A5,PV.sk,Ai,Ar,As,Ap,Ay,Ab,Aj,Am,A9,Value.oneCell',Ah,Ba,Aw,A4,A1,Al,An,Ae,Ak,isZ,A6,A3,Ad,Aa,Ag,A0,Af,↓reduceIte,reduceSub,reduceEqDiff,reduceAdd,reduceMul,reduceLT,reduceLeDiff,reduceToNat,reduceLE,Int.reduceLT,reduceNeg,reduceCtorEq,zzR,gos,Int.reduceAdd,Int.reduceSub,Int.reduceMul,reduceEq,hr,Bi,De,List.length_map,zl,nt])
        simp [zl]
end Go.Proofs.Ythnfphgjfpcpbaa.TM
namespace Go.Proofs.Ythnfphgjfpcpbaa.TM
open Go Go.RowKit
attribute [local irreducible] K W Dg Effs Xg Xo Xr Xdg Xdo Xdr Xif CallsP CallR
def svN (p:Int) (c:Cy) (z:List Int) (k:Nat) (x:List Int):Nat → Int
  | 0 => z.getD k 0
  | q + 1 => if (q:Int)=c.2.1.getD k 0 then svN p c z k x q else (svN p c z k x q - (c.2.2.2.getD k []).getD q 0 * x.getD q 0 % p) % p
def svS (p:Int) (C:Nat) (c:Cy) (vs z x:List Int) (k:Nat):List Int:=tbl C (fun j => if j=(c.2.1.getD k 0).toNat then svN p c z k x C * vs.getD k 0 % p else x.getD j 0)
def svL (p:Int) (C:Nat) (c:Cy) (vs z x:List Int):Nat → List Int
  | 0 => x
  | d + 1 => svS p C c vs z (svL p C c vs z x d) (c.1.length - 1 - d)
theorem Kr {p:Int} {C:Nat} {c:Cy} {vs z x:List Int} (hx:x.length=C):∀ d,(svL p C c vs z x d).length=C
  | 0 => hx
  | d + 1 => Ca ..
theorem An4 {p:Int} (hp:Md p) {c:Cy} {z:List Int} (hz:∀ a ∈ z,In p a) {k:Nat} (hk:k < z.length) (x:List Int):∀ q,In p (svN p c z k x q)
  | 0 => Ce hz hk
  | q + 1 => by
    rw [svN]; split
    · exact An4 hp hz hk x q
    · exact Dl hp _
theorem Sy {p:Int} {C:Nat} (hp:Md p) {c:Cy} {vs z x:List Int} (hx:∀ a ∈ x,In p a) (hxl:x.length=C):∀ d,∀ a ∈ svL p C c vs z x d,In p a
  | 0 => hx
  | d + 1 => fun a ha => by
    obtain ⟨j,hj,rfl⟩:=Dh ha
    (try simp only)
    split
    · exact Dl hp _
    · exact Ce (Sy hp hx hxl d) (by rw [Kr hxl]; exact hj)
set_option maxHeartbeats 4000000 in
theorem Jy {p:Int} {R C:Nat} {l:List Int} {c:Cy} {vs z x:List Int} (hp:Md p) (hw:CupW p R C c) (hR:R ≤ 64) (hC:C ≤ 64) (hx:∀ a ∈ x,In p a) (hxl:x.length=C) (hz:∀ a ∈ z,In p a) (hzl:z.length=c.1.length) (hv:∀ a ∈ vs,In p a) (hvl:vs.length=c.1.length) :
    Ls Try.prog 58 [D1 p R C l c vs,.view wN 0 1 C C,.i (.l c.1.length (z.map iu))] (.tup []) (x.map iu) ((svL p C c vs z x c.1.length).map iu):=by
  obtain ⟨rw0,cw,cc,uu⟩:=c
  have rle:=hw.rle
  have ql:=hw.ql
  have ul:=hw.ul
  simp only at rle ql ul hzl hvl ⊢
  intro base
  show ∃ hu,CallR Try.prog base 58 [D1 p R C l (rw0,cw,cc,uu) vs,.view [(950,0)] 0 1 C C,.i (.l rw0.length (z.map iu))] (Heap.none.put [(950,0)] (.row false (x.map iu))) (.tup []) hu ∧ hu [(950,0)]=_
  refine Iw (n:=70) (m:=3) (rs:=[]) Try.func58 rfl rfl rfl rfl (by decide) ?_
  repeat (first|refine Bg rfl ?_|refine Bb rfl ?_|refine ⟨(dxX (by kernel_rfl)),?_⟩|exact (dxX (by kernel_rfl))|simp -dsimp (maxSteps:=20000000) (disch:=omega) only [simx,zzC,zzB,tys,ite_self,A8,A2,Ax,Aq,Ao,At,Az,Ac,A5,PV.sk,Ai,Ar,As,Ap,Ay,Ab,Aj,Am,A9,Value.oneCell',Ah,Ba,Aw,A4,A1,Al,An,Ae,Ak,isZ,A6,A3,Ad,Aa,Ag,A0,Af,↓reduceIte,reduceSub,reduceEqDiff,reduceAdd,reduceMul,reduceLT,reduceLeDiff,reduceToNat,reduceLE,Int.reduceLT,reduceNeg,reduceCtorEq,gos,Int.reduceAdd,Int.reduceSub,Int.reduceMul,reduceEq])
  refine B5 [1,2,3,6] [] (0) (rw0.length) (fun j => True) (fun j => [(6,i64 ((rw0.length:Int) - 1 - (j:Int)))]) (fun j => (Heap.none.put [(950,0)] (.row false ((svL p C (rw0,cw,cc,uu) vs z x j).map iu))).put ((0,0)::base) (.var [li rw0,li cw,llP cc,llP uu,u64 p,i64 R,i64 C,lu l,lu vs])) ?_ ?_ ?_ ?_ ?_ (by decide) ?_
  · exact (Bl)
  · repeat (first|refine Bg rfl ?_|refine Bb rfl ?_|refine ⟨(dxX (by kernel_rfl)),?_⟩|exact (dxX (by kernel_rfl))|simp -dsimp (maxSteps:=20000000) (disch:=omega) only [simx,zzC,zzB,tys,ite_self,A8,A2,Ax,Aq,Ao,At,Az,Ac,A5,PV.sk,Ai,Ar,As,Ap,Ay,Ab,Aj,Am,A9,Value.oneCell',Ah,Ba,Aw,A4,A1,Al,An,Ae,Ak,isZ,A6,A3,Ad,Aa,Ag,A0,Af,↓reduceIte,reduceSub,reduceEqDiff,reduceAdd,reduceMul,reduceLT,reduceLeDiff,reduceToNat,reduceLE,Int.reduceLT,reduceNeg,reduceCtorEq,gos,Int.reduceAdd,Int.reduceSub,Int.reduceMul,reduceEq,ul])
    rw [show ((rw0.length:Int) - 1 - ((0:Nat):Int))=(rw0.length:Int) - 1 by omega]
  · rw [drop_nil]; rfl
  · omega
  · trivial
  · intro d hd _
    by_cases cd:d < rw0.length
    · obtain ⟨k,hk⟩:∃ k,rw0.length=d + k + 1:=⟨rw0.length - d - 1,by omega⟩
      have ek:(rw0.length:Int) - 1 - (d:Int)=(k:Int):=by omega
      have kr:k < rw0.length:=by omega
      have k0:(0:Int) ≤ (k:Int):=by omega
      obtain ⟨q0,q1⟩:=hw.qb (cw.getD k 0) (C0 (by simp only; omega))
      (try simp only at q0 q1)
      obtain ⟨q,hq⟩:∃ q:Nat,cw.getD k 0=q:=⟨(cw.getD k 0).toNat,by omega⟩
      have qC:q < C:=by omega
      obtain ⟨u1,u2⟩:=hw.ur (uu.getD k []) (C0 (by simp only; omega))
      have xl:=Kr (p:=p) (c:=(rw0,cw,cc,uu)) (vs:=vs) (z:=z) hxl d
      have xi:=Sy hp (c:=(rw0,cw,cc,uu)) (vs:=vs) (z:=z) hx hxl d
      have sn:=fun j => An4 hp (c:=(rw0,cw,cc,uu)) hz (k:=k) (by omega) (svL p C (rw0,cw,cc,uu) vs z x d) j
      have s0:svN p (rw0,cw,cc,uu) z k (svL p C (rw0,cw,cc,uu) vs z x d) 0=z.getD k 0:=rfl
      have ss:∀ j,svN p (rw0,cw,cc,uu) z k (svL p C (rw0,cw,cc,uu) vs z x d) (j + 1)=if (j:Int)=(q:Int) then svN p (rw0,cw,cc,uu) z k (svL p C (rw0,cw,cc,uu) vs z x d) j else (svN p (rw0,cw,cc,uu) z k (svL p C (rw0,cw,cc,uu) vs z x d) j - (uu.getD k []).getD j 0 * (svL p C (rw0,cw,cc,uu) vs z x d).getD j 0 % p) % p:=fun j => by rw [svN]; simp only [hq]
      have sl:svL p C (rw0,cw,cc,uu) vs z x (d + 1)=tbl C (fun j => if j=q then svN p (rw0,cw,cc,uu) z k (svL p C (rw0,cw,cc,uu) vs z x d) C * vs.getD k 0 % p else (svL p C (rw0,cw,cc,uu) vs z x d).getD j 0):=by
        rw [svL,svS]; simp only [show rw0.length - 1 - d=k by omega,hq,Int.toNat_natCast]
      have g1:(z.map iu)[k]?=some (iu (z.getD k 0)):=by rw [List.getElem?_map,getD_some hzl kr]; rfl
      have g2:(uu.map fun u => IV.l u.length (u.map iu))[k]?=some (.l C ((uu.getD k []).map iu)):=by rw [List.getElem?_map,D3 (d:=[]) (by omega),Option.map_some,u1]
      have g3:(cw.map ii)[k]?=some (ii (q:Int)):=by rw [List.getElem?_map,D3 (d:=0) (by omega),Option.map_some,hq]
      have g4:(vs.map iu)[k]?=some (iu (vs.getD k 0)):=by rw [List.getElem?_map,getD_some hvl kr]; rfl
      have xt:=Mr xl
      have vi:=Ce hv (i:=k) (by omega)
      rw [← s0] at g1
      generalize svN p (rw0,cw,cc,uu) z k (svL p C (rw0,cw,cc,uu) vs z x d)=S at sn ss sl g1
      generalize hX:svL p C (rw0,cw,cc,uu) vs z x d=X at xl xi ss sl xt ⊢
      generalize uu.getD k []=U at u1 u2 g2 ss
      generalize vs.getD k 0=V at g4 sl vi
      clear s0
      repeat (first|refine Bg rfl ?_|refine Bb rfl ?_|refine ⟨(dxX (by kernel_rfl)),?_⟩|exact (dxX (by kernel_rfl))|simp -dsimp (maxSteps:=20000000) (disch:=omega) only [simx,zzC,zzB,tys,ite_self,A8,A2,Ax,Aq,Ao,At,Az,Ac,A5,PV.sk,Ai,Ar,As,Ap,Ay,Ab,Aj,Am,A9,Value.oneCell',Ah,Ba,Aw,A4,A1,Al,An,Ae,Ak,isZ,A6,A3,Ad,Aa,Ag,A0,Af,↓reduceIte,reduceSub,reduceEqDiff,reduceAdd,reduceMul,reduceLT,reduceLeDiff,reduceToNat,reduceLE,Int.reduceLT,reduceNeg,reduceCtorEq,gos,Int.reduceAdd,Int.reduceSub,Int.reduceMul,reduceEq,ek,k0,kr,g1,g2,hzl,List.length_map,ul])
      refine B5 [1,2,3,6,7,28,29,30] [] (0) (C) (fun j => True) (fun j => [(7,u64 (S j)),(30,i64 j)]) (fun j => (Heap.none.put [(950,0)] (.row false (X.map iu))).put ((0,0)::base) (.var [li rw0,li cw,llP cc,llP uu,u64 p,i64 R,i64 C,lu l,lu vs])) ?_ ?_ ?_ ?_ ?_ (by decide) ?_
      · exact (Bl)
      · ((simp -dsimp (disch:=omega) only [simx,zzB,tys,ite_self,A8,A2,Ax,Aq,Ao,At,Az,Ac,A5,PV.sk,Ai,Ar,As,Ap,Ay,Ab,Aj,Am,A9,Value.oneCell',Ah,Ba,Aw,A4,A1,Al,An,Ae,Ak,isZ,A6,A3,Ad,Aa,Ag,A0,Af,↓reduceIte,reduceSub,reduceEqDiff,reduceAdd,reduceMul,reduceLT,reduceLeDiff,reduceToNat,reduceLE,Int.reduceLT,reduceNeg,reduceCtorEq,gos,Int.reduceAdd,Int.reduceSub,Int.reduceMul,reduceEq]) <;> first|rfl|simp)
      · exact drop_nil _
      · omega
      · trivial
      · intro j hj _
        by_cases cj:j < C
        · have g5:(U.map iu)[j]?=some (iu (U.getD j 0)):=by rw [List.getElem?_map,getD_some u1 cj]; rfl
          have g6:(X.map iu)[j]?=some (iu (X.getD j 0)):=by rw [List.getElem?_map,getD_some xl cj]; rfl
          have m1:=Kq R C l (rw0,cw,cc,uu) vs hp (Ce u2 (i:=j) (by omega)) (Ce xi (i:=j) (by omega))
          have m2:=Ko R C l (rw0,cw,cc,uu) vs hp (sn j) (Dl hp (U.getD j 0 * X.getD j 0))
          have s1:=ss j
          by_cases e:(j:Int)=(q:Int)
          · rw [if_pos e] at s1
            rw [← s1]
            have ejq:j=q:=by omega
            subst ejq
            repeat (first|refine Bg rfl ?_|refine Bb rfl ?_|refine ⟨(dxX (by kernel_rfl)),?_⟩|exact (dxX (by kernel_rfl))|simp -dsimp (maxSteps:=20000000) (disch:=omega) only [simx,zzC,zzB,tys,ite_self,A8,A2,Ax,Aq,Ao,At,Az,Ac,A5,PV.sk,Ai,Ar,As,Ap,Ay,Ab,Aj,Am,A9,Value.oneCell',Ah,Ba,Aw,A4,A1,Al,An,Ae,Ak,isZ,A6,A3,Ad,Aa,Ag,A0,Af,↓reduceIte,reduceSub,reduceEqDiff,reduceAdd,reduceMul,reduceLT,reduceLeDiff,reduceToNat,reduceLE,Int.reduceLT,reduceNeg,reduceCtorEq,gos,Int.reduceAdd,Int.reduceSub,Int.reduceMul,reduceEq,cj,g5,g3,ek,k0,kr,ql,List.length_map])
            refine ⟨cj,(Bl),rfl,drop_nil _⟩
          · rw [if_neg e] at s1
            rw [← s1] at m2
            repeat (first|((first|refine Bd rfl (by simp only [tys]) ?_|refine Bc rfl (by simp only [tys]) ?_); apply Exists.intro; apply And.intro; (focus (simp -dsimp only [simx,zzC,zzB,tys,ite_self,A8,A2,Ax,Aq,Ao,At,Az,Ac,A5,PV.sk,Ai,Ar,As,Ap,Ay,Ab,Aj,Am,A9,Value.oneCell',Ah,Ba,Aw,A4,A1,Al,An,Ae,Ak,isZ,A6,A3,Ad,Aa,Ag,A0,Af,↓reduceIte,reduceSub,reduceEqDiff,reduceAdd,reduceMul,reduceLT,reduceLeDiff,reduceToNat,reduceLE,Int.reduceLT,reduceNeg,reduceCtorEq,zzL,if_true,if_false] <;> rfl)); apply Exists.intro; apply And.intro; (focus (first|exact m1|exact m2)))|refine Bg rfl ?_|refine Bb rfl ?_|refine ⟨(dxX (by kernel_rfl)),?_⟩|exact (dxX (by kernel_rfl))|simp -dsimp (maxSteps:=20000000) (disch:=omega) only [simx,zzC,zzB,tys,ite_self,A8,A2,Ax,Aq,Ao,At,Az,Ac,A5,PV.sk,Ai,Ar,As,Ap,Ay,Ab,Aj,Am,A9,Value.oneCell',Ah,Ba,Aw,A4,A1,Al,An,Ae,Ak,isZ,A6,A3,Ad,Aa,Ag,A0,Af,↓reduceIte,reduceSub,reduceEqDiff,reduceAdd,reduceMul,reduceLT,reduceLeDiff,reduceToNat,reduceLE,Int.reduceLT,reduceNeg,reduceCtorEq,gos,Int.reduceAdd,Int.reduceSub,Int.reduceMul,reduceEq,cj,g5,g6,g3,ek,k0,kr,ql,List.length_map,e,xl])
            refine ⟨cj,(Bl),rfl,drop_nil _⟩
        · have ej:C=j:=by omega
          subst ej
          have m1:=Kq R C l (rw0,cw,cc,uu) vs hp (sn C) vi
          have q1':q + 1 ≤ C:=qC
          have px:=Du (fun i => X.getD i 0) (S C * V % p) qC
          rw [← xt] at px
          repeat (first|((first|refine Bd rfl (by simp only [tys]) ?_|refine Bc rfl (by simp only [tys]) ?_); apply Exists.intro; apply And.intro; (focus (simp -dsimp only [simx,zzC,zzB,tys,ite_self,A8,A2,Ax,Aq,Ao,At,Az,Ac,A5,PV.sk,Ai,Ar,As,Ap,Ay,Ab,Aj,Am,A9,Value.oneCell',Ah,Ba,Aw,A4,A1,Al,An,Ae,Ak,isZ,A6,A3,Ad,Aa,Ag,A0,Af,↓reduceIte,reduceSub,reduceEqDiff,reduceAdd,reduceMul,reduceLT,reduceLeDiff,reduceToNat,reduceLE,Int.reduceLT,reduceNeg,reduceCtorEq,zzL,if_true,if_false] <;> rfl)); apply Exists.intro; apply And.intro; (focus (first|exact m1)))|refine Bg rfl ?_|refine Bb rfl ?_|refine ⟨(dxX (by kernel_rfl)),?_⟩|exact (dxX (by kernel_rfl))|simp -dsimp (maxSteps:=20000000) (disch:=omega) only [simx,zzC,zzB,tys,ite_self,A8,A2,Ax,Aq,Ao,At,Az,Ac,A5,PV.sk,Ai,Ar,As,Ap,Ay,Ab,Aj,Am,A9,Value.oneCell',Ah,Ba,Aw,A4,A1,Al,An,Ae,Ak,isZ,A6,A3,Ad,Aa,Ag,A0,Af,↓reduceIte,reduceSub,reduceEqDiff,reduceAdd,reduceMul,reduceLT,reduceLeDiff,reduceToNat,reduceLE,Int.reduceLT,reduceNeg,reduceCtorEq,gos,Int.reduceAdd,Int.reduceSub,Int.reduceMul,reduceEq,g3,g4,ek,k0,kr,ql,hvl,List.length_map,qC,q1',xl])
          refine ⟨cd,(Bl),?_,?_⟩
          · rw [show ((rw0.length:Int) - 1 - ((d + 1:Nat):Int))=(k:Int) - 1 by omega]
          · rw [drop_nil,px,sl]
            funext c
            simp (maxSteps:=20000000) only [Heap.drop_at,Bh,Heap.put_at,Heap.none_at,List.mem_cons,List.not_mem_nil,or_false]
            by_cases e0:c=[(950,0)]
            · subst e0; simp []
            by_cases e1:c=(0,0)::base
            · subst e1; simp []
            simp [e0,e1]
    · have ed:rw0.length=d:=by omega
      subst ed
      have e1:(rw0.length:Int) - 1 - (rw0.length:Int)=-1:=by omega
      repeat (first|refine Bg rfl ?_|refine Bb rfl ?_|refine ⟨(dxX (by kernel_rfl)),?_⟩|exact (dxX (by kernel_rfl))|simp -dsimp (maxSteps:=20000000) (disch:=omega) only [simx,zzC,zzB,tys,ite_self,A8,A2,Ax,Aq,Ao,At,Az,Ac,A5,PV.sk,Ai,Ar,As,Ap,Ay,Ab,Aj,Am,A9,Value.oneCell',Ah,Ba,Aw,A4,A1,Al,An,Ae,Ak,isZ,A6,A3,Ad,Aa,Ag,A0,Af,↓reduceIte,reduceSub,reduceEqDiff,reduceAdd,reduceMul,reduceLT,reduceLeDiff,reduceToNat,reduceLE,Int.reduceLT,reduceNeg,reduceCtorEq,zzR,gos,Int.reduceAdd,Int.reduceSub,Int.reduceMul,reduceEq,e1])
      rfl
end Go.Proofs.Ythnfphgjfpcpbaa.TM
namespace Go.Proofs.Ythnfphgjfpcpbaa.TM
open Go Go.RowKit Go.Shelf Go.Lib
set_option maxHeartbeats 2000000 in
set_option maxRecDepth 100000 in
theorem Wg:CallsP Try.prog 101 [.i (.l 0 [])] (.i (.l 0 [])):=by
  intro base
  refine ⟨.i (.l 0 []),Heap.none,CallR.of_sound ?_,rfl⟩
  intro β w rargs H Hr
  obtain ⟨h1,h2⟩:=Hr
  have h3:=h2 0 _ rfl
  obtain ⟨x,rfl⟩:∃ x,rargs=#[x]:=by
    obtain ⟨l⟩:=rargs
    match l,h1 with
    | [x],_ => exact ⟨x,rfl⟩
  have h3:Rep β Heap.none w (.i (.l 0 [])) x:=h3
  have t23:Try.prog.underlying 23=some (.slice 22):=Ox (by simp only [tys])
  have q22:∀ (w:World) (a:Option Addr) (n c n' c':Nat),(binOp .eql 23 (.slice a n c) (.slice none n' c')).run Try.prog w=.ok (.bool a.isNone) w:=fun w a n c n' c' => Lib.run_eql_slice_nil w _ _ a n c n' c' t23
  have u22:∀ w,Sem.run Try.prog (underlying 23) w=.ok (TypeDesc.slice 22) w:=run_underlying t23
  cases h3 with|i _ _ h3 => cases h3 with
  | nil =>
    go_enter Try.func101,Try.ntmps101
    go_wp2
    go_ret
    exact ⟨_,β,rfl,H,.i _ _ .nil,Ext.refl _ _ _⟩
  | l _ _ a cap f hc hr h1 hs =>
    go_enter Try.func101,Try.ntmps101
    go_wp2
    go_ret
    refine ⟨_,β,rfl,HInv.none fun blk hb => ?_,.i _ _ (.l 0 [] ⟨w.heap.size,0,none⟩ 0 (fun _ => undef) (Nat.le_refl _) (fun j hj => absurd hj (Nat.not_lt_zero j)) (fun j hj => absurd hj (Nat.not_lt_zero j)) (fun j x hj => by simp at hj)),?_⟩
    · have:=H.flt blk hb
      show blk < (w.heap.push _).size
      simp; omega
    · refine ⟨rfl,rfl,rfl,?_,rfl,fun blk hb hs => ⟨hs,hao w _ blk hb⟩,fun b x hb => (by cases hb),fun blk hb => Mu w _ blk hb⟩
      show w.heap.size ≤ (w.heap.push _).size
      simp
end Go.Proofs.Ythnfphgjfpcpbaa.TM
namespace Go.Proofs.Ythnfphgjfpcpbaa.TM
open Go Go.RowKit
attribute [local irreducible] K W Dg Effs Xg Xo Xr Xdg Xdo Xdr Xif CallsP CallR
def Mw (p:Int) (c:Cy) (k:Nat) (x:List Int) (j:Nat):List Int:=tbl c.1.length (fun m => if m < j then (x.getD m 0 - x.getD k 0 * (c.2.2.1.getD (c.1.getD k 0).toNat []).getD m 0 % p) % p else x.getD m 0)
def Ao2 (p:Int) (R:Nat) (c:Cy) (k:Nat) (x y:List Int):List Int:=tbl R (fun m => if m=(c.1.getD k 0).toNat then (0 - x.getD k 0) % p else y.getD m 0)
def rwS (p:Int) (R:Nat) (c:Cy) (i:Nat):Nat → List Int × List Int
  | 0 => (c.2.2.1.getD i [],tbl R (fun m => if m=i then 1 else 0))
  | d + 1 => (Mw p c (c.1.length - 1 - d) (rwS p R c i d).1 (c.1.length - 1 - d),Ao2 p R c (c.1.length - 1 - d) (rwS p R c i d).1 (rwS p R c i d).2)
def Dc (p:Int) (R:Nat) (c:Cy) (i:Nat):List Int:=(rwS p R c i c.1.length).2
theorem Oh {p:Int} {R C:Nat} {c:Cy} (hw:CupW p R C c) {i:Nat} (hi:i < R):∀ d,(rwS p R c i d).1.length=c.1.length ∧ (rwS p R c i d).2.length=R
  | 0 => ⟨(hw.cr _ (C0 (by rw [hw.cl]; exact hi))).1,Ca ..⟩
  | d + 1 => ⟨Ca ..,Ca ..⟩
theorem Xb {p:Int} {R C:Nat} {c:Cy} (hp:Md p) (hw:CupW p R C c) {i:Nat} (hi:i < R):∀ d,(∀ a ∈ (rwS p R c i d).1,In p a) ∧ ∀ a ∈ (rwS p R c i d).2,In p a
  | 0 => ⟨(hw.cr _ (C0 (by rw [hw.cl]; exact hi))).2,fun a ha => by
    obtain ⟨m,_,rfl⟩:=Dh ha
    (try simp only)
    split
    · exact ⟨by decide,by have:=hp.1; omega⟩
    · exact ⟨by decide,by have:=hp.1; omega⟩⟩
  | d + 1 => by
    obtain ⟨h1,h2⟩:=Xb hp hw hi d
    obtain ⟨l1,l2⟩:=Oh hw hi d
    refine ⟨fun a ha => ?_,fun a ha => ?_⟩
    · obtain ⟨m,hm,rfl⟩:=Dh ha
      (try simp only)
      split
      · exact Dl hp _
      · exact Ce h1 (by omega)
    · obtain ⟨m,hm,rfl⟩:=Dh ha
      (try simp only)
      split
      · exact Dl hp _
      · exact Ce h2 (by omega)
theorem Ad3 {p:Int} {c:Cy} {k:Nat} {x:List Int} (hx:x.length=c.1.length):Mw p c k x 0=x:=by
  unfold Mw
  simp only [Nat.not_lt_zero,if_false]
  exact (Mr hx).symm
set_option maxHeartbeats 4000000 in
theorem Xi {p:Int} {R C:Nat} {l:List Int} {c:Cy} {vs:List Int} {i:Nat} (hp:Md p) (hw:CupW p R C c) (hR:R ≤ 64) (hi:i < R) (hr:c.1.length=0) :
    CallsP Try.prog 65 [D1 p R C l c vs,i64 i] (lu (Dc p R c i)):=by
  have e:Dc p R c i=tbl R (fun m => if m=i then 1 else 0):=by unfold Dc; rw [hr]; rfl
  rw [e]
  obtain ⟨rw0,cw,cc,uu⟩:=c
  have ccl:=hw.cl
  obtain ⟨x1,x2⟩:=hw.cr (cc.getD i []) (C0 (by rw [ccl]; exact hi))
  simp only at ccl x1 hr
  have e0:cc.getD i []=[]:=List.eq_nil_of_length_eq_zero (by omega)
  have g3:(cc.map fun u => IV.l u.length (u.map iu))[i]?=some (.l 0 []):=by rw [List.getElem?_map,D3 (d:=[]) (by omega),Option.map_some,e0]; rfl
  have cl:=Wg
  have rl:((Cc [Value.int .u64 0] R).map IV.v).length=R:=by rw [List.length_map,C8]; simp
  have px:=Du (fun _ => 0) 1 hi
  have i1:i + 1 ≤ R:=hi
  have b1:R * 8 ≤ 140737488355328:=by omega
  have b2:R ≤ 140737488355328:=by omega
  rw [← Ey R] at px
  refine Bj (n:=78) (m:=2) (rs:=[.tmp 4]) Try.func65 rfl rfl rfl rfl (by decide) fun base => ?_
  repeat (first|((first|refine Bd rfl (by simp only [tys]) ?_|refine Bc rfl (by simp only [tys]) ?_); apply Exists.intro; apply And.intro; (focus (simp -dsimp only [simx,zzC,zzB,tys,ite_self,A8,A2,Ax,Aq,Ao,At,Az,Ac,A5,PV.sk,Ai,Ar,As,Ap,Ay,Ab,Aj,Am,A9,Value.oneCell',Ah,Ba,Aw,A4,A1,Al,An,Ae,Ak,isZ,A6,A3,Ad,Aa,Ag,A0,Af,↓reduceIte,reduceSub,reduceEqDiff,reduceAdd,reduceMul,reduceLT,reduceLeDiff,reduceToNat,reduceLE,Int.reduceLT,reduceNeg,reduceCtorEq,zzL,if_true,if_false] <;> rfl)); apply Exists.intro; apply And.intro; (focus (first|exact cl)))|refine Bg rfl ?_|refine Bb rfl ?_|refine ⟨(dxX (by kernel_rfl)),?_⟩|exact (dxX (by kernel_rfl))|simp -dsimp (maxSteps:=20000000) (disch:=omega) only [simx,zzC,zzB,tys,ite_self,A8,A2,Ax,Aq,Ao,At,Az,Ac,A5,PV.sk,Ai,Ar,As,Ap,Ay,Ab,Aj,Am,A9,Value.oneCell',Ah,Ba,Aw,A4,A1,Al,An,Ae,Ak,isZ,A6,A3,Ad,Aa,Ag,A0,Af,↓reduceIte,reduceSub,reduceEqDiff,reduceAdd,reduceMul,reduceLT,reduceLeDiff,reduceToNat,reduceLE,Int.reduceLT,reduceNeg,reduceCtorEq,gos,Int.reduceAdd,Int.reduceSub,Int.reduceMul,reduceEq,g3,ccl,hi,i1,List.length_map,hr,b1,b2,rl,px])
  refine B5 [2,5,6,7] [] (0) (0) (fun j => True) (fun j => [(7,i64 (-1))]) (fun j => (Heap.none.put ((0,0)::base) (.var [li rw0,li cw,llP cc,llP uu,u64 p,i64 R,i64 C,lu l,lu vs])).put ((2,3)::base) (.row false ((tbl R (fun m => if m=i then 1 else 0)).map iu))) ?_ ?_ ?_ ?_ ?_ (by decide) ?_
  · exact (Bl)
  · repeat (first|refine Bg rfl ?_|refine Bb rfl ?_|refine ⟨(dxX (by kernel_rfl)),?_⟩|exact (dxX (by kernel_rfl))|simp -dsimp (maxSteps:=20000000) (disch:=omega) only [simx,zzC,zzB,tys,ite_self,A8,A2,Ax,Aq,Ao,At,Az,Ac,A5,PV.sk,Ai,Ar,As,Ap,Ay,Ab,Aj,Am,A9,Value.oneCell',Ah,Ba,Aw,A4,A1,Al,An,Ae,Ak,isZ,A6,A3,Ad,Aa,Ag,A0,Af,↓reduceIte,reduceSub,reduceEqDiff,reduceAdd,reduceMul,reduceLT,reduceLeDiff,reduceToNat,reduceLE,Int.reduceLT,reduceNeg,reduceCtorEq,gos,Int.reduceAdd,Int.reduceSub,Int.reduceMul,reduceEq])
    rfl
  · funext c
    simp (maxSteps:=20000000) only [Heap.drop_at,Bh,Heap.put_at,Heap.none_at,List.mem_cons,List.not_mem_nil,or_false]
    by_cases e0:c=(0,0)::base
    · subst e0; simp []
    by_cases e1:c=(2,3)::base
    · subst e1; simp []
    simp [e0,e1]
  · omega
  · trivial
  · intro j hj _
    have tl:=Ca R (fun m => if m=i then 1 else 0)
    generalize tbl R (fun m => if m=i then 1 else 0)=Y at tl ⊢
    have nt:(Y.map iu).take R=Y.map iu:=List.take_of_length_le (by simp [tl])
    repeat (first|refine Bg rfl ?_|refine Bb rfl ?_|refine ⟨(dxX (by kernel_rfl)),?_⟩|exact (dxX (by kernel_rfl))|simp -dsimp (maxSteps:=20000000) (disch:=omega) only [simx,zzC,zzB,tys,ite_self,A8,A2,Ax,Aq,Ao,At,Az,Ac,A5,PV.sk,Ai,Ar,As,Ap,Ay,Ab,Aj,Am,A9,Value.oneCell',Ah,Ba,Aw,A4,A1,Al,An,Ae,Ak,isZ,A6,A3,Ad,Aa,Ag,A0,Af,↓reduceIte,reduceSub,reduceEqDiff,reduceAdd,reduceMul,reduceLT,reduceLeDiff,reduceToNat,reduceLE,Int.reduceLT,reduceNeg,reduceCtorEq,zzR,gos,Int.reduceAdd,Int.reduceSub,Int.reduceMul,reduceEq,List.length_map,tl,nt])
    simp [tl]
theorem Ad4 {p:Int} {c:Cy} {k j:Nat} {x:List Int} (hx:x.length=c.1.length) (hj:j < c.1.length):((Mw p c k x j).map iu).take j ++ [iu ((x.getD j 0 - x.getD k 0 * (c.2.2.1.getD (c.1.getD k 0).toNat []).getD j 0 % p) % p)] ++ ((Mw p c k x j).map iu).drop (j + 1)=(Mw p c k x (j + 1)).map iu:=by
  rw [Mw,Du _ _ hj]
  congr 1
  apply F2
  intro m _
  by_cases e:m=j
  · subst e; rw [if_pos rfl,if_pos (by omega)]
  · rw [if_neg e]
    by_cases d:m < j
    · rw [if_pos d,if_pos (by omega)]
    · rw [if_neg d,if_neg (by omega)]
theorem Az6 {p:Int} {c:Cy} {k j m n:Nat} {x:List Int} (hn:c.1.length=n) (hm:m < n) (h:j ≤ m):((Mw p c k x j).map iu)[m]?=some (iu (x.getD m 0)):=by
  rw [List.getElem?_map,Mw,G7 _ (by omega),if_neg (by omega)]; rfl
set_option maxHeartbeats 8000000 in
theorem Xh {p:Int} {R C:Nat} {l:List Int} {c:Cy} {vs:List Int} {i n:Nat} (hp:Md p) (hw:CupW p R C c) (hR:R ≤ 64) (hi:i < R) (hr:c.1.length=n) (h0:0 < n) :
    CallsP Try.prog 65 [D1 p R C l c vs,i64 i] (lu (Dc p R c i)):=by
  obtain ⟨rw0,cw,cc,uu⟩:=c
  have ccl:=hw.cl
  have rle:=hw.rle
  obtain ⟨x1,x2⟩:=hw.cr (cc.getD i []) (C0 (by rw [ccl]; exact hi))
  simp only at ccl x1 hr rle
  have g3:(cc.map fun u => IV.l u.length (u.map iu))[i]?=some (.l n ((cc.getD i []).map iu)):=by rw [List.getElem?_map,D3 (d:=[]) (by omega),Option.map_some,x1,hr]
  have dc:=(Ln (l:=cc.getD i []) (n:=n) (by omega) h0 (by omega)).toA
  have rl:((Cc [Value.int .u64 0] R).map IV.v).length=R:=by rw [List.length_map,C8]; simp
  have px:=Du (fun _ => 0) 1 hi
  have i1:i + 1 ≤ R:=hi
  have b1:R * 8 ≤ 140737488355328:=by omega
  have b2:R ≤ 140737488355328:=by omega
  rw [← Ey R] at px
  refine Bj (n:=78) (m:=2) (rs:=[.tmp 4]) Try.func65 rfl rfl rfl rfl (by decide) fun base => ?_
  repeat (first|refine Bg rfl ?_|refine Bb rfl ?_|refine ⟨(dxX (by kernel_rfl)),?_⟩|exact (dxX (by kernel_rfl))|simp -dsimp (maxSteps:=20000000) (disch:=omega) only [simx,zzC,zzB,tys,ite_self,A8,A2,Ax,Aq,Ao,At,Az,Ac,A5,PV.sk,Ai,Ar,As,Ap,Ay,Ab,Aj,Am,A9,Value.oneCell',Ah,Ba,Aw,A4,A1,Al,An,Ae,Ak,isZ,A6,A3,Ad,Aa,Ag,A0,Af,↓reduceIte,reduceSub,reduceEqDiff,reduceAdd,reduceMul,reduceLT,reduceLeDiff,reduceToNat,reduceLE,Int.reduceLT,reduceNeg,reduceCtorEq,gos,Int.reduceAdd,Int.reduceSub,Int.reduceMul,reduceEq,g3,ccl,hi,i1,List.length_map,hr,b1,b2,rl,px])
  ((first|refine K1 (dc) rfl (by simp only [tys]) (by (simp -dsimp only [simx,zzC,zzB,tys,ite_self,A8,A2,Ax,Aq,Ao,At,Az,Ac,A5,PV.sk,Ai,Ar,As,Ap,Ay,Ab,Aj,Am,A9,Value.oneCell',Ah,Ba,Aw,A4,A1,Al,An,Ae,Ak,isZ,A6,A3,Ad,Aa,Ag,A0,Af,↓reduceIte,reduceSub,reduceEqDiff,reduceAdd,reduceMul,reduceLT,reduceLeDiff,reduceToNat,reduceLE,Int.reduceLT,reduceNeg,reduceCtorEq,zzL,if_true,if_false] <;> rfl)) (by simp [Heap.put_at,Heap.none_at,Bh]) ?_|refine Jp (dc) rfl (by simp only [tys]) (by (simp -dsimp only [simx,zzC,zzB,tys,ite_self,A8,A2,Ax,Aq,Ao,At,Az,Ac,A5,PV.sk,Ai,Ar,As,Ap,Ay,Ab,Aj,Am,A9,Value.oneCell',Ah,Ba,Aw,A4,A1,Al,An,Ae,Ak,isZ,A6,A3,Ad,Aa,Ag,A0,Af,↓reduceIte,reduceSub,reduceEqDiff,reduceAdd,reduceMul,reduceLT,reduceLeDiff,reduceToNat,reduceLE,Int.reduceLT,reduceNeg,reduceCtorEq,zzL,if_true,if_false] <;> rfl)) (by simp [Heap.put_at,Heap.none_at,Bh]) ?_))
  repeat (first|refine Bg rfl ?_|refine Bb rfl ?_|refine ⟨(dxX (by kernel_rfl)),?_⟩|exact (dxX (by kernel_rfl))|simp -dsimp (maxSteps:=20000000) (disch:=omega) only [simx,zzC,zzB,tys,ite_self,A8,A2,Ax,Aq,Ao,At,Az,Ac,A5,PV.sk,Ai,Ar,As,Ap,Ay,Ab,Aj,Am,A9,Value.oneCell',Ah,Ba,Aw,A4,A1,Al,An,Ae,Ak,isZ,A6,A3,Ad,Aa,Ag,A0,Af,↓reduceIte,reduceSub,reduceEqDiff,reduceAdd,reduceMul,reduceLT,reduceLeDiff,reduceToNat,reduceLE,Int.reduceLT,reduceNeg,reduceCtorEq,gos,Int.reduceAdd,Int.reduceSub,Int.reduceMul,reduceEq,g3,ccl,hi,i1,List.length_map,hr,b1,b2,rl,px])
  refine B5 [2,5,6,7] [] (0) (n) (fun j => True) (fun j => [(7,i64 ((n:Int) - 1 - (j:Int)))]) (fun j => ((Heap.none.put ((0,0)::base) (.var [li rw0,li cw,llP cc,llP uu,u64 p,i64 R,i64 C,lu l,lu vs])).put ((1,6)::base) (.row false ((rwS p R (rw0,cw,cc,uu) i j).1.map iu))).put ((2,3)::base) (.row false ((rwS p R (rw0,cw,cc,uu) i j).2.map iu))) ?_ ?_ ?_ ?_ ?_ (by decide) ?_
  · exact (Bl)
  · repeat (first|refine Bg rfl ?_|refine Bb rfl ?_|refine ⟨(dxX (by kernel_rfl)),?_⟩|exact (dxX (by kernel_rfl))|simp -dsimp (maxSteps:=20000000) (disch:=omega) only [simx,zzC,zzB,tys,ite_self,A8,A2,Ax,Aq,Ao,At,Az,Ac,A5,PV.sk,Ai,Ar,As,Ap,Ay,Ab,Aj,Am,A9,Value.oneCell',Ah,Ba,Aw,A4,A1,Al,An,Ae,Ak,isZ,A6,A3,Ad,Aa,Ag,A0,Af,↓reduceIte,reduceSub,reduceEqDiff,reduceAdd,reduceMul,reduceLT,reduceLeDiff,reduceToNat,reduceLE,Int.reduceLT,reduceNeg,reduceCtorEq,gos,Int.reduceAdd,Int.reduceSub,Int.reduceMul,reduceEq])
    rw [show ((n:Int) - 1 - ((0:Nat):Int))=(n:Int) - 1 by omega]
  · funext c
    simp (maxSteps:=20000000) only [Heap.drop_at,Bh,Heap.put_at,Heap.none_at,List.mem_cons,List.not_mem_nil,or_false]
    by_cases e0:c=(0,0)::base
    · subst e0; simp [rwS]
    by_cases e1:c=(1,6)::base
    · subst e1; simp [rwS]
    by_cases e2:c=(2,3)::base
    · subst e2; simp [rwS]
    simp [e0,e1,e2,rwS]
  · omega
  · trivial
  · intro d hd _
    by_cases cd:d < n
    · obtain ⟨k,hk⟩:∃ k,n=d + k + 1:=⟨n - d - 1,by omega⟩
      have ek:(n:Int) - 1 - (d:Int)=(k:Int):=by omega
      have kn:k < n:=by omega
      have k0:(0:Int) ≤ (k:Int):=by omega
      obtain ⟨q0,q1⟩:=hw.rb (rw0.getD k 0) (C0 (by simp only; omega))
      (try simp only at q0 q1)
      obtain ⟨q,hq⟩:∃ q:Nat,rw0.getD k 0=q:=⟨(rw0.getD k 0).toNat,by omega⟩
      have qR:q < R:=by omega
      obtain ⟨w1,w2⟩:=hw.cr (cc.getD q []) (C0 (by rw [ccl]; exact qR))
      simp only [hr] at w1
      obtain ⟨l1,l2⟩:=Oh hw hi d
      obtain ⟨s1,s2⟩:=Xb hp hw hi d
      simp only [hr] at l1
      have sn:rwS p R (rw0,cw,cc,uu) i (d + 1)=(Mw p (rw0,cw,cc,uu) k (rwS p R (rw0,cw,cc,uu) i d).1 k,Ao2 p R (rw0,cw,cc,uu) k (rwS p R (rw0,cw,cc,uu) i d).1 (rwS p R (rw0,cw,cc,uu) i d).2):=by
        rw [rwS]; simp only [hr,show n - 1 - d=k by omega]
      generalize rwS p R (rw0,cw,cc,uu) i d=S at l1 l2 s1 s2 sn ⊢
      obtain ⟨X,Y⟩:=S
      simp only at l1 l2 s1 s2 sn ⊢
      have g1:(rw0.map ii)[k]?=some (ii (q:Int)):=by rw [List.getElem?_map,D3 (d:=0) (by omega),Option.map_some,hq]
      have g2:(X.map iu)[k]?=some (iu (X.getD k 0)):=by rw [List.getElem?_map,getD_some l1 kn]; rfl
      have g4:(cc.map fun u => IV.l u.length (u.map iu))[q]?=some (.l n ((cc.getD q []).map iu)):=by rw [List.getElem?_map,D3 (d:=[]) (by omega),Option.map_some,w1]
      have xk:=Ce s1 (i:=k) (by omega)
      have z0:In p 0:=⟨by decide,by have:=hp.1; omega⟩
      have m0:=Ko R C l (rw0,cw,cc,uu) vs hp z0 xk
      have yt:=Mr l2
      have py:=Du (fun m => Y.getD m 0) ((0 - X.getD k 0) % p) qR
      have ye:Ao2 p R (rw0,cw,cc,uu) k X Y=tbl R (fun m => if m=q then (0 - X.getD k 0) % p else Y.getD m 0):=by unfold Ao2; simp only [hq,Int.toNat_natCast]
      rw [← yt,← ye] at py
      have lz:=Ad3 (p:=p) (c:=(rw0,cw,cc,uu)) (k:=k) (x:=X) (by simp only; omega)
      have lat:=fun j m (hm:m < n) (h:j ≤ m) => Az6 (p:=p) (c:=(rw0,cw,cc,uu)) (k:=k) (j:=j) (m:=m) (x:=X) hr hm h
      have lnx:=fun j (hj:j < n) => Ad4 (p:=p) (c:=(rw0,cw,cc,uu)) (k:=k) (j:=j) (x:=X) (by simp only; omega) (by simp only; omega)
      have lln:∀ j,(Mw p (rw0,cw,cc,uu) k X j).length=n:=fun j => by unfold Mw; rw [Ca]; exact hr
      simp only [hq,Int.toNat_natCast,hr] at lnx
      have q1':q + 1 ≤ R:=qR
      generalize cc.getD q []=D at w1 w2 g4 lnx
      clear ye yt
      repeat (first|((first|refine Bd rfl (by simp only [tys]) ?_|refine Bc rfl (by simp only [tys]) ?_); apply Exists.intro; apply And.intro; (focus (simp -dsimp only [simx,zzC,zzB,tys,ite_self,A8,A2,Ax,Aq,Ao,At,Az,Ac,A5,PV.sk,Ai,Ar,As,Ap,Ay,Ab,Aj,Am,A9,Value.oneCell',Ah,Ba,Aw,A4,A1,Al,An,Ae,Ak,isZ,A6,A3,Ad,Aa,Ag,A0,Af,↓reduceIte,reduceSub,reduceEqDiff,reduceAdd,reduceMul,reduceLT,reduceLeDiff,reduceToNat,reduceLE,Int.reduceLT,reduceNeg,reduceCtorEq,zzL,if_true,if_false] <;> rfl)); apply Exists.intro; apply And.intro; (focus (first|exact m0)))|refine Bg rfl ?_|refine Bb rfl ?_|refine ⟨(dxX (by kernel_rfl)),?_⟩|exact (dxX (by kernel_rfl))|simp -dsimp (maxSteps:=20000000) (disch:=omega) only [simx,zzC,zzB,tys,ite_self,A8,A2,Ax,Aq,Ao,At,Az,Ac,A5,PV.sk,Ai,Ar,As,Ap,Ay,Ab,Aj,Am,A9,Value.oneCell',Ah,Ba,Aw,A4,A1,Al,An,Ae,Ak,isZ,A6,A3,Ad,Aa,Ag,A0,Af,↓reduceIte,reduceSub,reduceEqDiff,reduceAdd,reduceMul,reduceLT,reduceLeDiff,reduceToNat,reduceLE,Int.reduceLT,reduceNeg,reduceCtorEq,gos,Int.reduceAdd,Int.reduceSub,Int.reduceMul,reduceEq,ek,k0,kn,g1,g2,hr,l1,l2,qR,q1',List.length_map,py])
      generalize Ao2 p R (rw0,cw,cc,uu) k X Y=Y' at sn ⊢
      refine B5 [2,5,6,7,8,48,49] [] (0) (k) (fun j => True) (fun j => [(48,i64 k),(49,i64 j)]) (fun j => ((Heap.none.put ((0,0)::base) (.var [li rw0,li cw,llP cc,llP uu,u64 p,i64 R,i64 C,lu l,lu vs])).put ((1,6)::base) (.row false ((Mw p (rw0,cw,cc,uu) k X j).map iu))).put ((2,3)::base) (.row false (Y'.map iu))) ?_ ?_ ?_ ?_ ?_ (by decide) ?_
      · exact (Bl)
      · repeat (first|refine Bg rfl ?_|refine Bb rfl ?_|refine ⟨(dxX (by kernel_rfl)),?_⟩|exact (dxX (by kernel_rfl))|simp -dsimp (maxSteps:=20000000) (disch:=omega) only [simx,zzC,zzB,tys,ite_self,A8,A2,Ax,Aq,Ao,At,Az,Ac,A5,PV.sk,Ai,Ar,As,Ap,Ay,Ab,Aj,Am,A9,Value.oneCell',Ah,Ba,Aw,A4,A1,Al,An,Ae,Ak,isZ,A6,A3,Ad,Aa,Ag,A0,Af,↓reduceIte,reduceSub,reduceEqDiff,reduceAdd,reduceMul,reduceLT,reduceLeDiff,reduceToNat,reduceLE,Int.reduceLT,reduceNeg,reduceCtorEq,gos,Int.reduceAdd,Int.reduceSub,Int.reduceMul,reduceEq])
        rfl
      · funext c
        simp (maxSteps:=20000000) only [Heap.drop_at,Bh,Heap.put_at,Heap.none_at,List.mem_cons,List.not_mem_nil,or_false]
        by_cases e0:c=(0,0)::base
        · subst e0; simp [lz]
        by_cases e1:c=(1,6)::base
        · subst e1; simp [lz]
        by_cases e2:c=(2,3)::base
        · subst e2; simp [lz]
        simp [e0,e1,e2,lz]
      · omega
      · trivial
      · intro j hj _
        by_cases cj:j < k
        · have jn:j < n:=by omega
          have j1:j + 1 ≤ n:=jn
          have la:=lat j j jn (Nat.le_refl j)
          have lb:=lat j k kn (by omega)
          have lc:=lln j
          have ld:=lnx j jn
          have g5:(D.map iu)[j]?=some (iu (D.getD j 0)):=by rw [List.getElem?_map,getD_some w1 jn]; rfl
          have m1:=Kq R C l (rw0,cw,cc,uu) vs hp xk (Ce w2 (i:=j) (by omega))
          have m2:=Ko R C l (rw0,cw,cc,uu) vs hp (Ce s1 (i:=j) (by omega)) (Dl hp (X.getD k 0 * D.getD j 0))
          repeat (first|((first|refine Bd rfl (by simp only [tys]) ?_|refine Bc rfl (by simp only [tys]) ?_); apply Exists.intro; apply And.intro; (focus (simp -dsimp only [simx,zzC,zzB,tys,ite_self,A8,A2,Ax,Aq,Ao,At,Az,Ac,A5,PV.sk,Ai,Ar,As,Ap,Ay,Ab,Aj,Am,A9,Value.oneCell',Ah,Ba,Aw,A4,A1,Al,An,Ae,Ak,isZ,A6,A3,Ad,Aa,Ag,A0,Af,↓reduceIte,reduceSub,reduceEqDiff,reduceAdd,reduceMul,reduceLT,reduceLeDiff,reduceToNat,reduceLE,Int.reduceLT,reduceNeg,reduceCtorEq,zzL,if_true,if_false] <;> rfl)); apply Exists.intro; apply And.intro; (focus (first|exact m1|exact m2)))|refine Bg rfl ?_|refine Bb rfl ?_|refine ⟨(dxX (by kernel_rfl)),?_⟩|exact (dxX (by kernel_rfl))|simp -dsimp (maxSteps:=20000000) (disch:=omega) only [simx,zzC,zzB,tys,ite_self,A8,A2,Ax,Aq,Ao,At,Az,Ac,A5,PV.sk,Ai,Ar,As,Ap,Ay,Ab,Aj,Am,A9,Value.oneCell',Ah,Ba,Aw,A4,A1,Al,An,Ae,Ak,isZ,A6,A3,Ad,Aa,Ag,A0,Af,↓reduceIte,reduceSub,reduceEqDiff,reduceAdd,reduceMul,reduceLT,reduceLeDiff,reduceToNat,reduceLE,Int.reduceLT,reduceNeg,reduceCtorEq,gos,Int.reduceAdd,Int.reduceSub,Int.reduceMul,reduceEq,cj,jn,j1,kn,la,lb,lc,ld,g4,g5,ccl,qR,List.length_map])
          refine ⟨cj,(Bl),rfl,?_⟩
          funext c
          simp (maxSteps:=20000000) only [Heap.drop_at,Bh,Heap.put_at,Heap.none_at,List.mem_cons,List.not_mem_nil,or_false]
          by_cases e0:c=(0,0)::base
          · subst e0; simp []
          by_cases e1:c=(1,6)::base
          · subst e1; simp []
          by_cases e2:c=(2,3)::base
          · subst e2; simp []
          simp [e0,e1,e2]
        · have ej:k=j:=by omega
          subst ej
          repeat (first|refine Bg rfl ?_|refine Bb rfl ?_|refine ⟨(dxX (by kernel_rfl)),?_⟩|exact (dxX (by kernel_rfl))|simp -dsimp (maxSteps:=20000000) (disch:=omega) only [simx,zzC,zzB,tys,ite_self,A8,A2,Ax,Aq,Ao,At,Az,Ac,A5,PV.sk,Ai,Ar,As,Ap,Ay,Ab,Aj,Am,A9,Value.oneCell',Ah,Ba,Aw,A4,A1,Al,An,Ae,Ak,isZ,A6,A3,Ad,Aa,Ag,A0,Af,↓reduceIte,reduceSub,reduceEqDiff,reduceAdd,reduceMul,reduceLT,reduceLeDiff,reduceToNat,reduceLE,Int.reduceLT,reduceNeg,reduceCtorEq,gos,Int.reduceAdd,Int.reduceSub,Int.reduceMul,reduceEq])
          refine ⟨cd,(Bl),?_,?_⟩
          · rw [show ((n:Int) - 1 - ((d + 1:Nat):Int))=(k:Int) - 1 by omega]
          · rw [drop_nil,sn]
    · have ed:n=d:=by omega
      subst ed
      have e1:(n:Int) - 1 - (n:Int)=-1:=by omega
      have ev:Dc p R (rw0,cw,cc,uu) i=(rwS p R (rw0,cw,cc,uu) i n).2:=by unfold Dc; rw [hr]
      rw [ev]
      have tl:=(Oh hw hi n).2
      generalize (rwS p R (rw0,cw,cc,uu) i n).2=Y at tl ⊢
      have nt:(Y.map iu).take R=Y.map iu:=List.take_of_length_le (by simp [tl])
      repeat (first|refine Bg rfl ?_|refine Bb rfl ?_|refine ⟨(dxX (by kernel_rfl)),?_⟩|exact (dxX (by kernel_rfl))|simp -dsimp (maxSteps:=20000000) (disch:=omega) only [simx,zzC,zzB,tys,ite_self,A8,A2,Ax,Aq,Ao,At,Az,Ac,A5,PV.sk,Ai,Ar,As,Ap,Ay,Ab,Aj,Am,A9,Value.oneCell',Ah,Ba,Aw,A4,A1,Al,An,Ae,Ak,isZ,A6,A3,Ad,Aa,Ag,A0,Af,↓reduceIte,reduceSub,reduceEqDiff,reduceAdd,reduceMul,reduceLT,reduceLeDiff,reduceToNat,reduceLE,Int.reduceLT,reduceNeg,reduceCtorEq,zzR,gos,Int.reduceAdd,Int.reduceSub,Int.reduceMul,reduceEq,e1,List.length_map,tl,nt])
      simp [tl]
end Go.Proofs.Ythnfphgjfpcpbaa.TM
namespace Go.Proofs.Ythnfphgjfpcpbaa.TM
open Go Go.RowKit
attribute [local irreducible] K W Dg Effs Xg Xo Xr Xdg Xdo Xdr Xif CallsP CallR
def Jt (rws:List Int) (S:Nat → Bool) (R:Nat):Option Nat:=(List.range R).find? fun i => !decide ((i:Int) ∈ rws) && S i
theorem G0 {rws:List Int} {S:Nat → Bool} {R j:Nat} (hj:j < R) (h:∀ i,i < j → (!decide ((i:Int) ∈ rws) && S i)=false) (h1:(!decide ((j:Int) ∈ rws) && S j)=true):Jt rws S R=some j:=by
  unfold Jt
  rw [List.find?_range_eq_some]
  exact ⟨h1,List.mem_range.2 hj,fun i hi => by rw [h i hi]; rfl⟩
theorem G1 {rws:List Int} {S:Nat → Bool} {R:Nat} (h:∀ i,i < R → (!decide ((i:Int) ∈ rws) && S i)=false):Jt rws S R=none:=by
  unfold Jt
  rw [List.find?_eq_none]
  intro i hi
  rw [h i (List.mem_range.1 hi)]; simp
def Kc (p:Int) (R:Nat) (c:Cy) (S:List Int → Bool):List Int × Int:=match Jt c.1 (fun i => S (Dc p R c i)) R with
  | some i => (Dc p R c i,0)
  | none => ([],6)
def Aj3 (p:Int) (R:Nat) (c:Cy) (S:List Int → Bool):PV:=match Jt c.1 (fun i => S (Dc p R c i)) R with
  | some i => .tup [lu (Dc p R c i),i64 0]
  | none => .tup [Dk,i64 6]
theorem Mz {p:Int} {R C:Nat} {c:Cy} (hw:CupW p R C c) {i:Nat} (hi:i < R):(Dc p R c i).length=R:=(Oh hw hi _).2
theorem O9 {p:Int} {R C:Nat} {c:Cy} (hp:Md p) (hw:CupW p R C c) {i:Nat} (hi:i < R):∀ a ∈ Dc p R c i,In p a:=(Xb hp hw hi _).2
theorem Lb {p:Int} {R C:Nat} {l:List Int} {c:Cy} {vs:List Int} {i:Nat} (hp:Md p) (hw:CupW p R C c) (hR:R ≤ 64) (hi:i < R) :
    CallsP Try.prog 65 [D1 p R C l c vs,i64 i] (lu (Dc p R c i)):=by
  rcases Nat.eq_zero_or_pos c.1.length with h|h
  · exact Xi hp hw hR hi h
  · exact Xh hp hw hR hi rfl h
theorem X4 (y:List Int):CallsP Try.prog 64 [lu y] (bl true):=by
  refine Bj (n:=3) (m:=1) (rs:=[.tmp 2]) Try.func64 rfl rfl rfl rfl (by decide) fun base => ?_
  repeat (first|refine Bg rfl ?_|refine Bb rfl ?_|refine ⟨(dxX (by kernel_rfl)),?_⟩|exact (dxX (by kernel_rfl))|simp -dsimp (maxSteps:=20000000) (disch:=omega) only [simx,zzC,zzB,tys,ite_self,A8,A2,Ax,Aq,Ao,At,Az,Ac,A5,PV.sk,Ai,Ar,As,Ap,Ay,Ab,Aj,Am,A9,Value.oneCell',Ah,Ba,Aw,A4,A1,Al,An,Ae,Ak,isZ,A6,A3,Ad,Aa,Ag,A0,Af,↓reduceIte,reduceSub,reduceEqDiff,reduceAdd,reduceMul,reduceLT,reduceLeDiff,reduceToNat,reduceLE,Int.reduceLT,reduceNeg,reduceCtorEq,zzR,gos,Int.reduceAdd,Int.reduceSub,Int.reduceMul,reduceEq])
def Gh (p:Int) (y b:List Int):Bool:=decide (D5 y b % p ≠ 0)
theorem Bb7 {p:Int} {y b:List Int} (hp:Md p) (hy:∀ a ∈ y,In p a) (hb:∀ a ∈ b,In p a) (hl:y.length=b.length):Yl p y b=(D5 y b % p,0):=by
  unfold Yl
  rw [if_pos]
  rw [(Ei p y).2 ⟨fun x hx => (hy x hx).2,hp.1,hp.2⟩,(Ei p b).2 ⟨fun x hx => (hb x hx).2,hp.1,hp.2⟩,decide_eq_true hl]; rfl
theorem Q4 {h:Heap} {base b1 b2:Name} {p:Int} {y b:List Int} {n:Nat} (hp:Md p) (hy:∀ a ∈ y,In p a) (hb:∀ a ∈ b,In p a) (hl:y.length=n) (hl2:b.length=n) (hn:n ≤ 64) (h1:h b1=some (.var [u64 p])) (h2:h b2=some (.var [lu b])) :
    CallR Try.prog base 62 [lu y,.ref b1 0 1,.ref b2 0 1] h (bl (Gh p y b)) h:=by
  have q:=Wd p y b (by rw [hl,B3]; omega) (by rw [hl2,B3]; omega) (fun a ha => I9 hp (hy a ha)) (fun a ha => I9 hp (hb a ha))
  rw [Bb7 hp hy hb (by omega)] at q
  unfold Gh
  generalize D5 y b % p=x at q
  refine Kl (n:=16) (m:=3) (rs:=[.tmp 4]) Try.func62 rfl rfl rfl rfl (by decide) ?_
  repeat (first|((first|refine Bd rfl (by simp only [tys]) ?_|refine Bc rfl (by simp only [tys]) ?_); apply Exists.intro; apply And.intro; (focus (simp -dsimp only [simx,zzC,zzB,tys,ite_self,A8,A2,Ax,Aq,Ao,At,Az,Ac,A5,PV.sk,Ai,Ar,As,Ap,Ay,Ab,Aj,Am,A9,Value.oneCell',Ah,Ba,Aw,A4,A1,Al,An,Ae,Ak,isZ,A6,A3,Ad,Aa,Ag,A0,Af,↓reduceIte,reduceSub,reduceEqDiff,reduceAdd,reduceMul,reduceLT,reduceLeDiff,reduceToNat,reduceLE,Int.reduceLT,reduceNeg,reduceCtorEq,zzL,if_true,if_false] <;> rfl)); apply Exists.intro; apply And.intro; (focus (first|exact q)))|refine Bg rfl ?_|refine Bb rfl ?_|refine ⟨(dxX (by kernel_rfl)),?_⟩|exact (dxX (by kernel_rfl))|simp -dsimp (maxSteps:=20000000) (disch:=omega) only [simx,zzC,zzB,tys,ite_self,A8,A2,Ax,Aq,Ao,At,Az,Ac,A5,PV.sk,Ai,Ar,As,Ap,Ay,Ab,Aj,Am,A9,Value.oneCell',Ah,Ba,Aw,A4,A1,Al,An,Ae,Ak,isZ,A6,A3,Ad,Aa,Ag,A0,Af,↓reduceIte,reduceSub,reduceEqDiff,reduceAdd,reduceMul,reduceLT,reduceLeDiff,reduceToNat,reduceLE,Int.reduceLT,reduceNeg,reduceCtorEq,zzR,gos,Int.reduceAdd,Int.reduceSub,Int.reduceMul,reduceEq,h1,h2])
  by_cases e:x=0
  · subst e; rfl
  · rw [decide_eq_true e]; simp [e]
set_option maxHeartbeats 2000000 in
theorem Wa {base:Name} {h:Heap} {p:Int} {R C:Nat} {l:List Int} {c:Cy} {vs:List Int} (hp:Md p) (hw:CupW p R C c) (hR:R ≤ 64) (h0:h ((0,0)::base)=none) :
    CallR Try.prog base 61 [D1 p R C l c vs,fnc 64] h (Aj3 p R c (fun _ => true)) (h.put ((0,0)::base) (.var [li c.1,li c.2.1,llP c.2.2.1,llP c.2.2.2,u64 p,i64 R,i64 C,lu l,lu vs])):=by
  have rle:=hw.rle
  have rw1:=fun i (hi:i < R) => Lb (l:=l) (vs:=vs) hp hw hR hi
  have rwl:=fun i (hi:i < R) => Mz hw hi
  have rwi:=fun i (hi:i < R) => O9 hp hw hi
  unfold Aj3
  generalize hV:Dc p R c=V at rw1 rwl rwi ⊢
  obtain ⟨rw0,cw,cc,uu⟩:=c
  simp only at rle ⊢
  refine Kl (n:=27) (m:=2) (rs:=[.tmp 4,.tmp 5]) Try.func61 rfl rfl rfl rfl (by decide) ?_
  repeat (first|refine Bg rfl ?_|refine Bb rfl ?_|refine ⟨(dxX (by kernel_rfl)),?_⟩|exact (dxX (by kernel_rfl))|simp -dsimp (maxSteps:=20000000) (disch:=omega) only [simx,zzC,zzB,tys,ite_self,A8,A2,Ax,Aq,Ao,At,Az,Ac,A5,PV.sk,Ai,Ar,As,Ap,Ay,Ab,Aj,Am,A9,Value.oneCell',Ah,Ba,Aw,A4,A1,Al,An,Ae,Ak,isZ,A6,A3,Ad,Aa,Ag,A0,Af,↓reduceIte,reduceSub,reduceEqDiff,reduceAdd,reduceMul,reduceLT,reduceLeDiff,reduceToNat,reduceLE,Int.reduceLT,reduceNeg,reduceCtorEq,gos,Int.reduceAdd,Int.reduceSub,Int.reduceMul,reduceEq,h0])
  refine B5 [1,2,10,11] [] (0) (R) (fun j => ∀ i,i < j → (!decide ((i:Int) ∈ rw0) && true)=false) (fun j => [(11,i64 j)]) (fun j => h.put ((0,0)::base) (.var [li rw0,li cw,llP cc,llP uu,u64 p,i64 R,i64 C,lu l,lu vs])) ?_ ?_ ?_ ?_ ?_ (by decide) ?_
  · exact (Bl)
  · ((simp -dsimp (disch:=omega) only [simx,zzB,tys,ite_self,A8,A2,Ax,Aq,Ao,At,Az,Ac,A5,PV.sk,Ai,Ar,As,Ap,Ay,Ab,Aj,Am,A9,Value.oneCell',Ah,Ba,Aw,A4,A1,Al,An,Ae,Ak,isZ,A6,A3,Ad,Aa,Ag,A0,Af,↓reduceIte,reduceSub,reduceEqDiff,reduceAdd,reduceMul,reduceLT,reduceLeDiff,reduceToNat,reduceLE,Int.reduceLT,reduceNeg,reduceCtorEq,gos,Int.reduceAdd,Int.reduceSub,Int.reduceMul,reduceEq]) <;> first|rfl|simp)
  · exact drop_nil _
  · omega
  · intro i hi; omega
  · intro j hj hf
    by_cases cj:j < R
    · have k1:=F1 rw0 (j:Int) (by rw [B3]; omega)
      by_cases cm:(j:Int) ∈ rw0
      · rw [decide_eq_true cm] at k1
        repeat (first|((first|refine Bd rfl (by simp only [tys]) ?_|refine Bc rfl (by simp only [tys]) ?_); apply Exists.intro; apply And.intro; (focus (simp -dsimp only [simx,zzC,zzB,tys,ite_self,A8,A2,Ax,Aq,Ao,At,Az,Ac,A5,PV.sk,Ai,Ar,As,Ap,Ay,Ab,Aj,Am,A9,Value.oneCell',Ah,Ba,Aw,A4,A1,Al,An,Ae,Ak,isZ,A6,A3,Ad,Aa,Ag,A0,Af,↓reduceIte,reduceSub,reduceEqDiff,reduceAdd,reduceMul,reduceLT,reduceLeDiff,reduceToNat,reduceLE,Int.reduceLT,reduceNeg,reduceCtorEq,zzL,if_true,if_false] <;> rfl)); apply Exists.intro; apply And.intro; (focus (first|exact k1)))|refine Bg rfl ?_|refine Bb rfl ?_|refine ⟨(dxX (by kernel_rfl)),?_⟩|exact (dxX (by kernel_rfl))|simp -dsimp (maxSteps:=20000000) (disch:=omega) only [simx,zzC,zzB,tys,ite_self,A8,A2,Ax,Aq,Ao,At,Az,Ac,A5,PV.sk,Ai,Ar,As,Ap,Ay,Ab,Aj,Am,A9,Value.oneCell',Ah,Ba,Aw,A4,A1,Al,An,Ae,Ak,isZ,A6,A3,Ad,Aa,Ag,A0,Af,↓reduceIte,reduceSub,reduceEqDiff,reduceAdd,reduceMul,reduceLT,reduceLeDiff,reduceToNat,reduceLE,Int.reduceLT,reduceNeg,reduceCtorEq,gos,Int.reduceAdd,Int.reduceSub,Int.reduceMul,reduceEq,cj])
        refine ⟨cj,(Bl),?_,rfl,drop_nil _⟩
        intro i hi
        by_cases e:i=j
        · subst e; rw [decide_eq_true cm]; rfl
        · have:=hf i (by omega); simpa using this
      · rw [decide_eq_false cm] at k1
        have k2:=rw1 j cj
        have k3:=X4 (V j)
        have e:Jt rw0 (fun i => true) R=some j:=G0 cj hf (by rw [decide_eq_false cm]; rfl)
        rw [e]
        repeat (first|((first|refine Bd rfl (by simp only [tys]) ?_|refine Bc rfl (by simp only [tys]) ?_); apply Exists.intro; apply And.intro; (focus (simp -dsimp only [simx,zzC,zzB,tys,ite_self,A8,A2,Ax,Aq,Ao,At,Az,Ac,A5,PV.sk,Ai,Ar,As,Ap,Ay,Ab,Aj,Am,A9,Value.oneCell',Ah,Ba,Aw,A4,A1,Al,An,Ae,Ak,isZ,A6,A3,Ad,Aa,Ag,A0,Af,↓reduceIte,reduceSub,reduceEqDiff,reduceAdd,reduceMul,reduceLT,reduceLeDiff,reduceToNat,reduceLE,Int.reduceLT,reduceNeg,reduceCtorEq,zzL,if_true,if_false] <;> rfl)); apply Exists.intro; apply And.intro; (focus (first|exact k1|exact k2|exact k3)))|(refine Fv rfl ?_; apply Exists.intro; apply And.intro; (focus (simp -dsimp only [simx,zzC,zzB,tys,ite_self,A8,A2,Ax,Aq,Ao,At,Az,Ac,A5,PV.sk,Ai,Ar,As,Ap,Ay,Ab,Aj,Am,A9,Value.oneCell',Ah,Ba,Aw,A4,A1,Al,An,Ae,Ak,isZ,A6,A3,Ad,Aa,Ag,A0,Af,↓reduceIte,reduceSub,reduceEqDiff,reduceAdd,reduceMul,reduceLT,reduceLeDiff,reduceToNat,reduceLE,Int.reduceLT,reduceNeg,reduceCtorEq,zzL,if_true,if_false] <;> rfl)); apply And.intro; (focus (first|simp only [tys]|exact such_enter _)); apply Exists.intro; apply And.intro; (focus (simp -dsimp only [simx,zzC,zzB,tys,ite_self,A8,A2,Ax,Aq,Ao,At,Az,Ac,A5,PV.sk,Ai,Ar,As,Ap,Ay,Ab,Aj,Am,A9,Value.oneCell',Ah,Ba,Aw,A4,A1,Al,An,Ae,Ak,isZ,A6,A3,Ad,Aa,Ag,A0,Af,↓reduceIte,reduceSub,reduceEqDiff,reduceAdd,reduceMul,reduceLT,reduceLeDiff,reduceToNat,reduceLE,Int.reduceLT,reduceNeg,reduceCtorEq,zzL,if_true,if_false] <;> rfl)); apply Exists.intro; apply And.intro; (focus (first|exact k1|exact k2|exact k3)))|refine Bg rfl ?_|refine Bb rfl ?_|refine ⟨(dxX (by kernel_rfl)),?_⟩|exact (dxX (by kernel_rfl))|simp -dsimp (maxSteps:=20000000) (disch:=omega) only [simx,zzC,zzB,tys,ite_self,A8,A2,Ax,Aq,Ao,At,Az,Ac,A5,PV.sk,Ai,Ar,As,Ap,Ay,Ab,Aj,Am,A9,Value.oneCell',Ah,Ba,Aw,A4,A1,Al,An,Ae,Ak,isZ,A6,A3,Ad,Aa,Ag,A0,Af,↓reduceIte,reduceSub,reduceEqDiff,reduceAdd,reduceMul,reduceLT,reduceLeDiff,reduceToNat,reduceLE,Int.reduceLT,reduceNeg,reduceCtorEq,zzR,gos,Int.reduceAdd,Int.reduceSub,Int.reduceMul,reduceEq,cj])
    · have ej:R=j:=by omega
      subst ej
      have e:Jt rw0 (fun i => true) R=none:=G1 hf
      rw [e]
      repeat (first|refine Bg rfl ?_|refine Bb rfl ?_|refine ⟨(dxX (by kernel_rfl)),?_⟩|exact (dxX (by kernel_rfl))|simp -dsimp (maxSteps:=20000000) (disch:=omega) only [simx,zzC,zzB,tys,ite_self,A8,A2,Ax,Aq,Ao,At,Az,Ac,A5,PV.sk,Ai,Ar,As,Ap,Ay,Ab,Aj,Am,A9,Value.oneCell',Ah,Ba,Aw,A4,A1,Al,An,Ae,Ak,isZ,A6,A3,Ad,Aa,Ag,A0,Af,↓reduceIte,reduceSub,reduceEqDiff,reduceAdd,reduceMul,reduceLT,reduceLeDiff,reduceToNat,reduceLE,Int.reduceLT,reduceNeg,reduceCtorEq,zzR,gos,Int.reduceAdd,Int.reduceSub,Int.reduceMul,reduceEq])
set_option maxHeartbeats 2000000 in
theorem Wb {base b1 b2:Name} {h:Heap} {p:Int} {R C:Nat} {l:List Int} {c:Cy} {vs b:List Int} (hp:Md p) (hw:CupW p R C c) (hR:R ≤ 64) (h0:h ((0,0)::base)=none) (hb:∀ a ∈ b,In p a) (hbl:b.length=R) (h1:h b1=some (.var [u64 p])) (h2:h b2=some (.var [lu b])) (n1:b1 ≠ (0,0)::base) (n2:b2 ≠ (0,0)::base) :
    CallR Try.prog base 61 [D1 p R C l c vs,.clo 62 [.ref b1 0 1,.ref b2 0 1]] h (Aj3 p R c (fun y => Gh p y b)) (h.put ((0,0)::base) (.var [li c.1,li c.2.1,llP c.2.2.1,llP c.2.2.2,u64 p,i64 R,i64 C,lu l,lu vs])):=by
  have rle:=hw.rle
  have rw1:=fun i (hi:i < R) => Lb (l:=l) (vs:=vs) hp hw hR hi
  have rwl:=fun i (hi:i < R) => Mz hw hi
  have rwi:=fun i (hi:i < R) => O9 hp hw hi
  unfold Aj3
  generalize hV:Dc p R c=V at rw1 rwl rwi ⊢
  obtain ⟨rw0,cw,cc,uu⟩:=c
  simp only at rle ⊢
  refine Kl (n:=27) (m:=2) (rs:=[.tmp 4,.tmp 5]) Try.func61 rfl rfl rfl rfl (by decide) ?_
  repeat (first|refine Bg rfl ?_|refine Bb rfl ?_|refine ⟨(dxX (by kernel_rfl)),?_⟩|exact (dxX (by kernel_rfl))|simp -dsimp (maxSteps:=20000000) (disch:=omega) only [simx,zzC,zzB,tys,ite_self,A8,A2,Ax,Aq,Ao,At,Az,Ac,A5,PV.sk,Ai,Ar,As,Ap,Ay,Ab,Aj,Am,A9,Value.oneCell',Ah,Ba,Aw,A4,A1,Al,An,Ae,Ak,isZ,A6,A3,Ad,Aa,Ag,A0,Af,↓reduceIte,reduceSub,reduceEqDiff,reduceAdd,reduceMul,reduceLT,reduceLeDiff,reduceToNat,reduceLE,Int.reduceLT,reduceNeg,reduceCtorEq,gos,Int.reduceAdd,Int.reduceSub,Int.reduceMul,reduceEq,h0])
  refine B5 [1,2,10,11] [] (0) (R) (fun j => ∀ i,i < j → (!decide ((i:Int) ∈ rw0) && Gh p (V i) b)=false) (fun j => [(11,i64 j)]) (fun j => h.put ((0,0)::base) (.var [li rw0,li cw,llP cc,llP uu,u64 p,i64 R,i64 C,lu l,lu vs])) ?_ ?_ ?_ ?_ ?_ (by decide) ?_
  · exact (Bl)
  · ((simp -dsimp (disch:=omega) only [simx,zzB,tys,ite_self,A8,A2,Ax,Aq,Ao,At,Az,Ac,A5,PV.sk,Ai,Ar,As,Ap,Ay,Ab,Aj,Am,A9,Value.oneCell',Ah,Ba,Aw,A4,A1,Al,An,Ae,Ak,isZ,A6,A3,Ad,Aa,Ag,A0,Af,↓reduceIte,reduceSub,reduceEqDiff,reduceAdd,reduceMul,reduceLT,reduceLeDiff,reduceToNat,reduceLE,Int.reduceLT,reduceNeg,reduceCtorEq,gos,Int.reduceAdd,Int.reduceSub,Int.reduceMul,reduceEq]) <;> first|rfl|simp)
  · exact drop_nil _
  · omega
  · intro i hi; omega
  · intro j hj hf
    by_cases cj:j < R
    · have k1:=F1 rw0 (j:Int) (by rw [B3]; omega)
      by_cases cm:(j:Int) ∈ rw0
      · rw [decide_eq_true cm] at k1
        repeat (first|((first|refine Bd rfl (by simp only [tys]) ?_|refine Bc rfl (by simp only [tys]) ?_); apply Exists.intro; apply And.intro; (focus (simp -dsimp only [simx,zzC,zzB,tys,ite_self,A8,A2,Ax,Aq,Ao,At,Az,Ac,A5,PV.sk,Ai,Ar,As,Ap,Ay,Ab,Aj,Am,A9,Value.oneCell',Ah,Ba,Aw,A4,A1,Al,An,Ae,Ak,isZ,A6,A3,Ad,Aa,Ag,A0,Af,↓reduceIte,reduceSub,reduceEqDiff,reduceAdd,reduceMul,reduceLT,reduceLeDiff,reduceToNat,reduceLE,Int.reduceLT,reduceNeg,reduceCtorEq,zzL,if_true,if_false] <;> rfl)); apply Exists.intro; apply And.intro; (focus (first|exact k1)))|refine Bg rfl ?_|refine Bb rfl ?_|refine ⟨(dxX (by kernel_rfl)),?_⟩|exact (dxX (by kernel_rfl))|simp -dsimp (maxSteps:=20000000) (disch:=omega) only [simx,zzC,zzB,tys,ite_self,A8,A2,Ax,Aq,Ao,At,Az,Ac,A5,PV.sk,Ai,Ar,As,Ap,Ay,Ab,Aj,Am,A9,Value.oneCell',Ah,Ba,Aw,A4,A1,Al,An,Ae,Ak,isZ,A6,A3,Ad,Aa,Ag,A0,Af,↓reduceIte,reduceSub,reduceEqDiff,reduceAdd,reduceMul,reduceLT,reduceLeDiff,reduceToNat,reduceLE,Int.reduceLT,reduceNeg,reduceCtorEq,gos,Int.reduceAdd,Int.reduceSub,Int.reduceMul,reduceEq,cj])
        refine ⟨cj,(Bl),?_,rfl,drop_nil _⟩
        intro i hi
        by_cases e:i=j
        · subst e; rw [decide_eq_true cm]; rfl
        · have:=hf i (by omega); simpa using this
      · rw [decide_eq_false cm] at k1
        have k2:=rw1 j cj
        have g1:(h.put ((0,0)::base) (.var [li rw0,li cw,llP cc,llP uu,u64 p,i64 R,i64 C,lu l,lu vs])) b1=some (.var [u64 p]):=by rw [Heap.put_ne _ _ n1]; exact h1
        have g2:(h.put ((0,0)::base) (.var [li rw0,li cw,llP cc,llP uu,u64 p,i64 R,i64 C,lu l,lu vs])) b2=some (.var [lu b]):=by rw [Heap.put_ne _ _ n2]; exact h2
        have k3:=fun b0 => Q4 (base:=b0) hp (rwi j cj) hb (rwl j cj) hbl hR g1 g2
        repeat (first|((first|refine Bd rfl (by simp only [tys]) ?_|refine Bc rfl (by simp only [tys]) ?_); apply Exists.intro; apply And.intro; (focus (simp -dsimp only [simx,zzC,zzB,tys,ite_self,A8,A2,Ax,Aq,Ao,At,Az,Ac,A5,PV.sk,Ai,Ar,As,Ap,Ay,Ab,Aj,Am,A9,Value.oneCell',Ah,Ba,Aw,A4,A1,Al,An,Ae,Ak,isZ,A6,A3,Ad,Aa,Ag,A0,Af,↓reduceIte,reduceSub,reduceEqDiff,reduceAdd,reduceMul,reduceLT,reduceLeDiff,reduceToNat,reduceLE,Int.reduceLT,reduceNeg,reduceCtorEq,zzL,if_true,if_false] <;> rfl)); apply Exists.intro; apply And.intro; (focus (first|exact k1|exact k2)))|refine Bg rfl ?_|refine Bb rfl ?_|refine ⟨(dxX (by kernel_rfl)),?_⟩|exact (dxX (by kernel_rfl))|simp -dsimp (maxSteps:=20000000) (disch:=omega) only [simx,zzC,zzB,tys,ite_self,A8,A2,Ax,Aq,Ao,At,Az,Ac,A5,PV.sk,Ai,Ar,As,Ap,Ay,Ab,Aj,Am,A9,Value.oneCell',Ah,Ba,Aw,A4,A1,Al,An,Ae,Ak,isZ,A6,A3,Ad,Aa,Ag,A0,Af,↓reduceIte,reduceSub,reduceEqDiff,reduceAdd,reduceMul,reduceLT,reduceLeDiff,reduceToNat,reduceLE,Int.reduceLT,reduceNeg,reduceCtorEq,gos,Int.reduceAdd,Int.reduceSub,Int.reduceMul,reduceEq,cj])
        refine Q5 (k3 _) rfl (by simp -dsimp only [Db,simx,zzB,tys,ite_self,A8,A2,Ax,Aq,Ao,At,Az,Ac,A5,PV.sk,Ai,Ar,As,Ap,Ay,Ab,Aj,Am,A9,Value.oneCell',Ah,Ba,Aw,A4,A1,Al,An,Ae,Ak,isZ,A6,A3,Ad,Aa,Ag,A0,Af,↓reduceIte,reduceSub,reduceEqDiff,reduceAdd,reduceMul,reduceLT,reduceLeDiff,reduceToNat,reduceLE,Int.reduceLT,reduceNeg,reduceCtorEq,gos,Int.reduceAdd,Int.reduceSub,Int.reduceMul,reduceEq]) (by simp only [tys]) ?_
        cases cd:Gh p (V j) b with
        | true =>
          have e:Jt rw0 (fun i => Gh p (V i) b) R=some j:=G0 cj hf (by rw [decide_eq_false cm,cd]; rfl)
          rw [e]
          repeat (first|refine Bg rfl ?_|refine Bb rfl ?_|refine ⟨(dxX (by kernel_rfl)),?_⟩|exact (dxX (by kernel_rfl))|simp -dsimp (maxSteps:=20000000) (disch:=omega) only [simx,zzC,zzB,tys,ite_self,A8,A2,Ax,Aq,Ao,At,Az,Ac,A5,PV.sk,Ai,Ar,As,Ap,Ay,Ab,Aj,Am,A9,Value.oneCell',Ah,Ba,Aw,A4,A1,Al,An,Ae,Ak,isZ,A6,A3,Ad,Aa,Ag,A0,Af,↓reduceIte,reduceSub,reduceEqDiff,reduceAdd,reduceMul,reduceLT,reduceLeDiff,reduceToNat,reduceLE,Int.reduceLT,reduceNeg,reduceCtorEq,zzR,gos,Int.reduceAdd,Int.reduceSub,Int.reduceMul,reduceEq])
        | false =>
          repeat (first|refine Bg rfl ?_|refine Bb rfl ?_|refine ⟨(dxX (by kernel_rfl)),?_⟩|exact (dxX (by kernel_rfl))|simp -dsimp (maxSteps:=20000000) (disch:=omega) only [simx,zzC,zzB,tys,ite_self,A8,A2,Ax,Aq,Ao,At,Az,Ac,A5,PV.sk,Ai,Ar,As,Ap,Ay,Ab,Aj,Am,A9,Value.oneCell',Ah,Ba,Aw,A4,A1,Al,An,Ae,Ak,isZ,A6,A3,Ad,Aa,Ag,A0,Af,↓reduceIte,reduceSub,reduceEqDiff,reduceAdd,reduceMul,reduceLT,reduceLeDiff,reduceToNat,reduceLE,Int.reduceLT,reduceNeg,reduceCtorEq,gos,Int.reduceAdd,Int.reduceSub,Int.reduceMul,reduceEq])
          refine ⟨cj,(Bl),?_,rfl,drop_nil _⟩
          intro i hi
          by_cases e:i=j
          · subst e; rw [cd]; simp
          · exact hf i (by omega)
    · have ej:R=j:=by omega
      subst ej
      have e:Jt rw0 (fun i => Gh p (V i) b) R=none:=G1 hf
      rw [e]
      repeat (first|refine Bg rfl ?_|refine Bb rfl ?_|refine ⟨(dxX (by kernel_rfl)),?_⟩|exact (dxX (by kernel_rfl))|simp -dsimp (maxSteps:=20000000) (disch:=omega) only [simx,zzC,zzB,tys,ite_self,A8,A2,Ax,Aq,Ao,At,Az,Ac,A5,PV.sk,Ai,Ar,As,Ap,Ay,Ab,Aj,Am,A9,Value.oneCell',Ah,Ba,Aw,A4,A1,Al,An,Ae,Ak,isZ,A6,A3,Ad,Aa,Ag,A0,Af,↓reduceIte,reduceSub,reduceEqDiff,reduceAdd,reduceMul,reduceLT,reduceLeDiff,reduceToNat,reduceLE,Int.reduceLT,reduceNeg,reduceCtorEq,zzR,gos,Int.reduceAdd,Int.reduceSub,Int.reduceMul,reduceEq])
end Go.Proofs.Ythnfphgjfpcpbaa.TM
namespace Go.Proofs.Ythnfphgjfpcpbaa.TM
open Go Go.RowKit
attribute [local irreducible] K W Dg Effs Xg Xo Xr Xdg Xdo Xdr Xif CallsP CallR
theorem Bb1 (p:Nat) (hp:p < 1048576):∃ b,CallsP Try.prog 55 [u64 p] (bl b) ∧ (b=true → Prm p):=by
  by_cases h2:p < 2
  · refine ⟨false,?_,fun h => by cases h⟩
    refine Bj (n:=17) (m:=1) (rs:=[.tmp 2]) Try.func55 rfl rfl rfl rfl (by decide) fun base => ?_
    repeat (first|refine Bg rfl ?_|refine Bb rfl ?_|refine ⟨(dxX (by kernel_rfl)),?_⟩|exact (dxX (by kernel_rfl))|simp -dsimp (maxSteps:=20000000) (disch:=omega) only [simx,zzC,zzB,tys,ite_self,A8,A2,Ax,Aq,Ao,At,Az,Ac,A5,PV.sk,Ai,Ar,As,Ap,Ay,Ab,Aj,Am,A9,Value.oneCell',Ah,Ba,Aw,A4,A1,Al,An,Ae,Ak,isZ,A6,A3,Ad,Aa,Ag,A0,Af,↓reduceIte,reduceSub,reduceEqDiff,reduceAdd,reduceMul,reduceLT,reduceLeDiff,reduceToNat,reduceLE,Int.reduceLT,reduceNeg,reduceCtorEq,zzR,gos,Int.reduceAdd,Int.reduceSub,Int.reduceMul,reduceEq])
  obtain ⟨d0,⟨d2,dd⟩,dl⟩:=least (fun d => 2 ≤ d ∧ (p < d * d ∨ p % d=0)) p ⟨by omega,.inr (Nat.mod_self p)⟩
  have lo:∀ d,2 ≤ d → d < d0 → d * d ≤ p ∧ p % d ≠ 0:=fun d h1 h3 => by
    have:=dl d h3
    constructor
    · rcases Nat.lt_or_ge p (d * d) with h|h
      · exact absurd ⟨h1,.inl h⟩ this
      · exact h
    · intro h; exact this ⟨h1,.inr h⟩
  have dm:d0 ≤ 1024:=by
    rcases Nat.lt_or_ge 1024 d0 with h|h
    · have:=(lo 1024 (by omega) h).1; omega
    · exact h
  have sq:∀ j:Nat,j ≤ 1024 → j * j ≤ 1024 * 1024:=fun j h => Nat.mul_le_mul h h
  refine ⟨decide (p < d0 * d0),?_,fun h => Ap6 (by omega) fun d h1 h3 => ?_⟩
  · refine Bj (n:=17) (m:=1) (rs:=[.tmp 2]) Try.func55 rfl rfl rfl rfl (by decide) fun base => ?_
    repeat (first|refine Bg rfl ?_|refine Bb rfl ?_|refine ⟨(dxX (by kernel_rfl)),?_⟩|exact (dxX (by kernel_rfl))|simp -dsimp (maxSteps:=20000000) (disch:=omega) only [simx,zzC,zzB,tys,ite_self,A8,A2,Ax,Aq,Ao,At,Az,Ac,A5,PV.sk,Ai,Ar,As,Ap,Ay,Ab,Aj,Am,A9,Value.oneCell',Ah,Ba,Aw,A4,A1,Al,An,Ae,Ak,isZ,A6,A3,Ad,Aa,Ag,A0,Af,↓reduceIte,reduceSub,reduceEqDiff,reduceAdd,reduceMul,reduceLT,reduceLeDiff,reduceToNat,reduceLE,Int.reduceLT,reduceNeg,reduceCtorEq,gos,Int.reduceAdd,Int.reduceSub,Int.reduceMul,reduceEq])
    refine B5 [0,3] [] (0) (d0 - 2) (fun j => True) (fun j => [(3,u64 ((2 + j:Nat):Int))]) (fun j => Heap.none) ?_ ?_ ?_ ?_ ?_ (by decide) ?_
    · exact (Bl)
    · ((simp -dsimp (disch:=omega) only [simx,zzB,tys,ite_self,A8,A2,Ax,Aq,Ao,At,Az,Ac,A5,PV.sk,Ai,Ar,As,Ap,Ay,Ab,Aj,Am,A9,Value.oneCell',Ah,Ba,Aw,A4,A1,Al,An,Ae,Ak,isZ,A6,A3,Ad,Aa,Ag,A0,Af,↓reduceIte,reduceSub,reduceEqDiff,reduceAdd,reduceMul,reduceLT,reduceLeDiff,reduceToNat,reduceLE,Int.reduceLT,reduceNeg,reduceCtorEq,gos,Int.reduceAdd,Int.reduceSub,Int.reduceMul,reduceEq]) <;> first|rfl|simp)
    · exact drop_nil _
    · omega
    · trivial
    · intro j hj _
      have s1:=sq (2 + j) (by omega)
      have e1:IntKind.u64.wrap (((2 + j:Nat):Int) * ((2 + j:Nat):Int))=(((2 + j) * (2 + j):Nat):Int):=by rw [← Int.natCast_mul]; exact D6 (by omega) (by omega)
      by_cases cj:j < d0 - 2
      · obtain ⟨l1,l2⟩:=lo (2 + j) (by omega) (by omega)
        have e2:(((2 + j) * (2 + j):Nat):Int) ≤ (p:Int):=by omega
        have e3:¬ (p:Int) % ((2 + j:Nat):Int)=0:=by rw [← Int.natCast_emod]; omega
        have e4:IntKind.u64.wrap (((2 + j:Nat):Int) + 1)=((2 + (j + 1):Nat):Int):=by
          rw [show ((2 + j:Nat):Int) + 1=((2 + (j + 1):Nat):Int) by omega]
          exact D6 (by omega) (by omega)
        have e5:¬ ((2 + j:Nat):Int)=0:=by omega
        generalize (((2 + j) * (2 + j):Nat):Int)=sq2 at *
        clear lo dl dd sq
        repeat (first|refine Bg rfl ?_|refine Bb rfl ?_|refine ⟨(dxX (by kernel_rfl)),?_⟩|exact (dxX (by kernel_rfl))|simp -dsimp (maxSteps:=20000000) (disch:=omega) only [simx,zzC,zzB,tys,ite_self,A8,A2,Ax,Aq,Ao,At,Az,Ac,A5,PV.sk,Ai,Ar,As,Ap,Ay,Ab,Aj,Am,A9,Value.oneCell',Ah,Ba,Aw,A4,A1,Al,An,Ae,Ak,isZ,A6,A3,Ad,Aa,Ag,A0,Af,↓reduceIte,reduceSub,reduceEqDiff,reduceAdd,reduceMul,reduceLT,reduceLeDiff,reduceToNat,reduceLE,Int.reduceLT,reduceNeg,reduceCtorEq,gos,Int.reduceAdd,Int.reduceSub,Int.reduceMul,reduceEq,e1,e2,e3,e4,e5])
        exact ⟨cj,(Bl),by first|exact drop_nil _|exact ⟨rfl,drop_nil _⟩⟩
      · have hj':2 + j=d0:=by omega
        rw [hj'] at e1 s1 ⊢
        by_cases c:p < d0 * d0
        · rw [decide_eq_true c]
          have e2:¬ ((d0 * d0:Nat):Int) ≤ (p:Int):=by omega
          generalize ((d0 * d0:Nat):Int)=sq2 at *
          clear lo dl dd sq
          repeat (first|refine Bg rfl ?_|refine Bb rfl ?_|refine ⟨(dxX (by kernel_rfl)),?_⟩|exact (dxX (by kernel_rfl))|simp -dsimp (maxSteps:=20000000) (disch:=omega) only [simx,zzC,zzB,tys,ite_self,A8,A2,Ax,Aq,Ao,At,Az,Ac,A5,PV.sk,Ai,Ar,As,Ap,Ay,Ab,Aj,Am,A9,Value.oneCell',Ah,Ba,Aw,A4,A1,Al,An,Ae,Ak,isZ,A6,A3,Ad,Aa,Ag,A0,Af,↓reduceIte,reduceSub,reduceEqDiff,reduceAdd,reduceMul,reduceLT,reduceLeDiff,reduceToNat,reduceLE,Int.reduceLT,reduceNeg,reduceCtorEq,zzR,gos,Int.reduceAdd,Int.reduceSub,Int.reduceMul,reduceEq,e1,e2])
        · rw [decide_eq_false c]
          have e2:((d0 * d0:Nat):Int) ≤ (p:Int):=by omega
          have e3:(p:Int) % (d0:Int)=0:=by
            rcases dd with h|h
            · exact absurd h c
            · rw [← Int.natCast_emod]; omega
          have e5:¬ (d0:Int)=0:=by omega
          generalize ((d0 * d0:Nat):Int)=sq2 at *
          clear lo dl dd sq
          repeat (first|refine Bg rfl ?_|refine Bb rfl ?_|refine ⟨(dxX (by kernel_rfl)),?_⟩|exact (dxX (by kernel_rfl))|simp -dsimp (maxSteps:=20000000) (disch:=omega) only [simx,zzC,zzB,tys,ite_self,A8,A2,Ax,Aq,Ao,At,Az,Ac,A5,PV.sk,Ai,Ar,As,Ap,Ay,Ab,Aj,Am,A9,Value.oneCell',Ah,Ba,Aw,A4,A1,Al,An,Ae,Ak,isZ,A6,A3,Ad,Aa,Ag,A0,Af,↓reduceIte,reduceSub,reduceEqDiff,reduceAdd,reduceMul,reduceLT,reduceLeDiff,reduceToNat,reduceLE,Int.reduceLT,reduceNeg,reduceCtorEq,zzR,gos,Int.reduceAdd,Int.reduceSub,Int.reduceMul,reduceEq,e1,e2,e3,e5])
  · rw [decide_eq_true_eq] at h
    exact (lo d h1 (sq_lt (Nat.lt_of_le_of_lt h3 h))).2
theorem Yi (a b:List Int) (hl:a.length ≤ maxLen):CallsP Try.prog 60 [lu a,lu b] (bl (decide (a=b))):=by
  rw [B3] at hl
  by_cases c0:(a.length:Int)=b.length
  case neg =>
    rw [decide_eq_false (by rintro rfl; exact c0 rfl)]
    refine Bj (n:=26) (m:=2) (rs:=[.tmp 4]) Try.func60 rfl rfl rfl rfl (by decide) fun base => ?_
    repeat (first|refine Bg rfl ?_|refine Bb rfl ?_|refine ⟨(dxX (by kernel_rfl)),?_⟩|exact (dxX (by kernel_rfl))|simp -dsimp (maxSteps:=20000000) (disch:=omega) only [simx,zzC,zzB,tys,ite_self,A8,A2,Ax,Aq,Ao,At,Az,Ac,A5,PV.sk,Ai,Ar,As,Ap,Ay,Ab,Aj,Am,A9,Value.oneCell',Ah,Ba,Aw,A4,A1,Al,An,Ae,Ak,isZ,A6,A3,Ad,Aa,Ag,A0,Af,↓reduceIte,reduceSub,reduceEqDiff,reduceAdd,reduceMul,reduceLT,reduceLeDiff,reduceToNat,reduceLE,Int.reduceLT,reduceNeg,reduceCtorEq,zzR,gos,Int.reduceAdd,Int.reduceSub,Int.reduceMul,reduceEq])
  refine Bj (n:=26) (m:=2) (rs:=[.tmp 4]) Try.func60 rfl rfl rfl rfl (by decide) fun base => ?_
  repeat (first|refine Bg rfl ?_|refine Bb rfl ?_|refine ⟨(dxX (by kernel_rfl)),?_⟩|exact (dxX (by kernel_rfl))|simp -dsimp (maxSteps:=20000000) (disch:=omega) only [simx,zzC,zzB,tys,ite_self,A8,A2,Ax,Aq,Ao,At,Az,Ac,A5,PV.sk,Ai,Ar,As,Ap,Ay,Ab,Aj,Am,A9,Value.oneCell',Ah,Ba,Aw,A4,A1,Al,An,Ae,Ak,isZ,A6,A3,Ad,Aa,Ag,A0,Af,↓reduceIte,reduceSub,reduceEqDiff,reduceAdd,reduceMul,reduceLT,reduceLeDiff,reduceToNat,reduceLE,Int.reduceLT,reduceNeg,reduceCtorEq,gos,Int.reduceAdd,Int.reduceSub,Int.reduceMul,reduceEq])
  refine B5 [0,1,12,13] [] (0) (a.length) (fun j => a.take j=b.take j) (fun j => [(13,i64 j)]) (fun j => Heap.none) ?_ ?_ ?_ ?_ ?_ (by decide) ?_
  · exact (Bl)
  · ((simp -dsimp (disch:=omega) only [simx,zzB,tys,ite_self,A8,A2,Ax,Aq,Ao,At,Az,Ac,A5,PV.sk,Ai,Ar,As,Ap,Ay,Ab,Aj,Am,A9,Value.oneCell',Ah,Ba,Aw,A4,A1,Al,An,Ae,Ak,isZ,A6,A3,Ad,Aa,Ag,A0,Af,↓reduceIte,reduceSub,reduceEqDiff,reduceAdd,reduceMul,reduceLT,reduceLeDiff,reduceToNat,reduceLE,Int.reduceLT,reduceNeg,reduceCtorEq,gos,Int.reduceAdd,Int.reduceSub,Int.reduceMul,reduceEq]) <;> first|rfl|simp)
  · exact drop_nil _
  · omega
  · rfl
  · intro j hj hf
    by_cases c:j < a.length
    · have c':j < b.length:=by omega
      have g1:a[j]?=some a[j]:=List.getElem?_eq_getElem c
      have g2:b[j]?=some b[j]:=List.getElem?_eq_getElem c'
      by_cases e:a[j]=b[j]
      · have nx:=Ri c c' hf e
        rw [e] at g1
        generalize b[j]=y at g1 g2
        repeat (first|refine Bg rfl ?_|refine Bb rfl ?_|refine ⟨(dxX (by kernel_rfl)),?_⟩|exact (dxX (by kernel_rfl))|simp -dsimp (maxSteps:=20000000) (disch:=omega) only [simx,zzC,zzB,tys,ite_self,A8,A2,Ax,Aq,Ao,At,Az,Ac,A5,PV.sk,Ai,Ar,As,Ap,Ay,Ab,Aj,Am,A9,Value.oneCell',Ah,Ba,Aw,A4,A1,Al,An,Ae,Ak,isZ,A6,A3,Ad,Aa,Ag,A0,Af,↓reduceIte,reduceSub,reduceEqDiff,reduceAdd,reduceMul,reduceLT,reduceLeDiff,reduceToNat,reduceLE,Int.reduceLT,reduceNeg,reduceCtorEq,gos,Int.reduceAdd,Int.reduceSub,Int.reduceMul,reduceEq,c,c',g1,g2])
        exact ⟨c,(Bl),nx,rfl,drop_nil _⟩
      · rw [decide_eq_false (by rintro rfl; exact e rfl)]
        generalize a[j]=x at g1 e
        generalize b[j]=y at g2 e
        repeat (first|refine Bg rfl ?_|refine Bb rfl ?_|refine ⟨(dxX (by kernel_rfl)),?_⟩|exact (dxX (by kernel_rfl))|simp -dsimp (maxSteps:=20000000) (disch:=omega) only [simx,zzC,zzB,tys,ite_self,A8,A2,Ax,Aq,Ao,At,Az,Ac,A5,PV.sk,Ai,Ar,As,Ap,Ay,Ab,Aj,Am,A9,Value.oneCell',Ah,Ba,Aw,A4,A1,Al,An,Ae,Ak,isZ,A6,A3,Ad,Aa,Ag,A0,Af,↓reduceIte,reduceSub,reduceEqDiff,reduceAdd,reduceMul,reduceLT,reduceLeDiff,reduceToNat,reduceLE,Int.reduceLT,reduceNeg,reduceCtorEq,zzR,gos,Int.reduceAdd,Int.reduceSub,Int.reduceMul,reduceEq,c,c',g1,g2])
    · have hj:j=a.length:=by omega
      subst hj
      rw [List.take_length,List.take_of_length_le (by omega)] at hf
      rw [decide_eq_true hf]
      repeat (first|refine Bg rfl ?_|refine Bb rfl ?_|refine ⟨(dxX (by kernel_rfl)),?_⟩|exact (dxX (by kernel_rfl))|simp -dsimp (maxSteps:=20000000) (disch:=omega) only [simx,zzC,zzB,tys,ite_self,A8,A2,Ax,Aq,Ao,At,Az,Ac,A5,PV.sk,Ai,Ar,As,Ap,Ay,Ab,Aj,Am,A9,Value.oneCell',Ah,Ba,Aw,A4,A1,Al,An,Ae,Ak,isZ,A6,A3,Ad,Aa,Ag,A0,Af,↓reduceIte,reduceSub,reduceEqDiff,reduceAdd,reduceMul,reduceLT,reduceLeDiff,reduceToNat,reduceLE,Int.reduceLT,reduceNeg,reduceCtorEq,zzR,gos,Int.reduceAdd,Int.reduceSub,Int.reduceMul,reduceEq])
end Go.Proofs.Ythnfphgjfpcpbaa.TM
