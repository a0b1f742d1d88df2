/- What is proved of functions, and plain facts, part 6. Conditions: none. -/
import Derived.Test.YthnfphgjfpcpbaaSSolveRight5
open Nat (reduceSub reduceEqDiff reduceAdd reduceMul reduceLT reduceLeDiff)
open Int (reduceToNat reduceLE reduceNeg reduceEq)
set_option linter.defProp false
set_option linter.unusedSectionVars false
set_option linter.unusedSimpArgs false
set_option linter.unusedVariables false
namespace Go.Proofs.Ythnfphgjfpcpbaa.TM
open Go Go.RowKit
attribute [local irreducible] K W Dg Effs Xg Xo Xr Xdg Xdo Xdr Xif CallsP CallR
theorem Iu {p a:Int}:a % p % p=a % p:=Int.emod_emod_of_dvd _ (Int.dvd_refl _)
def mnL (n k:Nat) (l:List Int):List Int:=tbl ((n + 1) * (n + 1)) (fun q => cl (n + 2) l (q / (n + 1) + 1) (skip k (q % (n + 1))))
theorem L6 (n k:Nat) (l:List Int):(mnL n k l).length=(n + 1) * (n + 1):=Ca ..
theorem Aq6 {n k:Nat} {l:List Int} {i j:Nat} (hi:i < n + 1) (hj:j < n + 1):cl (n + 1) (mnL n k l) i j=mnr (cl (n + 2) l) k i j:=by
  unfold mnL mnr
  rw [Tw _ hi hj,Lm hj,Nc hj]
theorem Aq5 {p:Int} {n k:Nat} {l:List Int} (hl:l.length=(n + 2) * (n + 2)) (h:∀ a ∈ l,In p a):∀ a ∈ mnL n k l,In p a:=fun a ha => by
  obtain ⟨q,hq,rfl⟩:=Dh ha
  have h1:q / (n + 1) < n + 1:=Nat.div_lt_of_lt_mul hq
  have h2:=Sz (k:=k) (Nat.mod_lt q (show 0 < n + 1 by omega))
  exact h _ (cl_mem hl (by omega) h2)
def mnC (n k i j:Nat):Nat:=i * (n + 1) + (if j ≤ k then j else j - 1)
theorem Ba5 {n k:Nat} {l:List Int} {i j:Nat} (hi:i < n + 1) (hj:j < n + 2) (hk:k < n + 2) (hne:j ≠ k):mnC n k i j < (n + 1) * (n + 1) ∧ mnC n k i (j + 1)=mnC n k i j + 1 ∧ (mnL n k l).getD (mnC n k i j) 0=l.getD ((i + 1) * (n + 2) + j) 0:=by
  have hb:=Fb (c:=n + 1) hi
  obtain ⟨m,hm,hm2⟩:∃ m,m < n + 1 ∧ mnC n k i j=i * (n + 1) + m ∧ skip k m=j:=by
    unfold mnC skip
    by_cases h:j ≤ k
    · exact ⟨j,by omega,by rw [if_pos h],by rw [if_pos (by omega)]⟩
    · exact ⟨j - 1,by omega,by rw [if_neg h],by rw [if_neg (by omega)]; omega⟩
  obtain ⟨hc,hs⟩:=hm2
  refine ⟨by omega,?_,?_⟩
  · unfold mnC
    by_cases h:j ≤ k
    · rw [if_pos (show j + 1 ≤ k by omega),if_pos h]; omega
    · rw [if_neg (show ¬ j + 1 ≤ k by omega),if_neg h]; omega
  · rw [hc]
    have h:=Aq6 (k:=k) (l:=l) hi hm
    unfold cl mnr at h
    rw [h,hs]
theorem Aq8 (n k i:Nat):mnC n k i (k + 1)=mnC n k i k:=by
  unfold mnC; rw [if_neg (by omega),if_pos (Nat.le_refl _)]; omega
theorem Ba6 {n k:Nat} (i:Nat) (hk:k < n + 2):mnC n k i (n + 2)=mnC n k (i + 1) 0:=by
  unfold mnC; rw [if_neg (by omega),if_pos (Nat.zero_le _),Nat.succ_mul]; omega
theorem Aq7 (n k:Nat):mnC n k 0 0=0:=by unfold mnC; rw [if_pos (Nat.zero_le _)]; omega
theorem Aq9 {n k:Nat}:mnC n k (n + 1) 0=(n + 1) * (n + 1):=by unfold mnC; rw [if_pos (Nat.zero_le _)]; omega
theorem Az5 {k:Nat} (h:k % 2=0):sg k=1:=if_pos h
theorem sg_odd {k:Nat} (h:¬ k % 2=0):sg k=-1:=if_neg h
theorem Bb9 {p S a D:Int}:(S % p + a * (D % p) % p) % p=(S + 1 * a * D) % p:=by
  rw [Int.one_mul]; exact Jk Iu (Iu.trans (D4 rfl Iu))
theorem Bb8 {p S a D:Int}:(S % p - a * (D % p) % p) % p=(S + -1 * a * D) % p:=by
  rw [show S + -1 * a * D=S - a * D by rw [show (-1:Int) * a * D=-(a * D) by rw [Int.neg_mul,Int.one_mul,Int.neg_mul]]; omega]
  exact Jj Iu (Iu.trans (D4 rfl Iu))
set_option maxHeartbeats 8000000 in
theorem M0 {p:Nat} (hp:Md p):∀ (n:Nat) (l:List Int),n + 1 ≤ 64 → l.length=(n + 1) * (n + 1) → (∀ a ∈ l,In p a) → CallsP Try.prog 44 [u64 p,C3 ((n + 1:Nat):Int) ((n + 1:Nat):Int) l] (u64 (Lp (n + 1) (cl (n + 1) l) % p))
  | 0,l,_,hl,hin => by
    have e:Lp 1 (cl 1 l) % p=l.getD 0 0:=by
      have h:In p (l.getD 0 0):=Ce hin (by omega)
      rw [show Lp 1 (cl 1 l)=l.getD 0 0 by simp [Lp,B8,sg,cl]]
      exact Int.emod_eq_of_lt h.1 h.2
    rw [e]
    have g:(l.map iu)[0]?=some (iu (l.getD 0 0)):=by rw [List.getElem?_map,getD_some hl (by omega)]; rfl
    have hl1:0 < l.length:=by omega
    change CallsP Try.prog 44 [u64 p,C3 1 1 l] (u64 (l.getD 0 0))
    refine Bj (n:=77) (m:=2) (rs:=[.tmp 4]) Try.func44 rfl rfl rfl rfl (by decide) fun base => ?_
    repeat (first|refine Bg rfl ?_|refine Bb rfl ?_|refine ⟨(dxX (by kernel_rfl)),?_⟩|exact (dxX (by kernel_rfl))|simp -dsimp (maxSteps:=20000000) (disch:=omega) only [simx,zzC,zzB,tys,ite_self,A8,A2,Ax,Aq,Ao,At,Az,Ac,A5,PV.sk,Ai,Ar,As,Ap,Ay,Ab,Aj,Am,A9,Value.oneCell',Ah,Ba,Aw,A4,A1,Al,An,Ae,Ak,isZ,A6,A3,Ad,Aa,Ag,A0,Af,↓reduceIte,reduceSub,reduceEqDiff,reduceAdd,reduceMul,reduceLT,reduceLeDiff,reduceToNat,reduceLE,Int.reduceLT,reduceNeg,reduceCtorEq,zzR,gos,Int.reduceAdd,Int.reduceSub,Int.reduceMul,reduceEq,g,SK.len,hl1,List.length_map])
  | n + 1,l,h64,hl,hin => by
    have ih:=fun k => M0 hp n (mnL n k l) (by omega) (L6 n k l) (Aq5 hl hin)
    have hp0:(0:Int) < p:=by have:=hp.1; omega
    have hlp:∀ k,Lp (n + 1) (cl (n + 1) (mnL n k l))=Lp (n + 1) (mnr (cl (n + 2) l) k):=fun k => Iz _ fun i j hi hj => Aq6 hi hj
    have e0:IntKind.i64.wrap (((n + 1 + 1:Nat):Int) - 1)=((n + 1:Nat):Int):=by rw [show ((n + 1 + 1:Nat):Int) - 1=((n + 1:Nat):Int) by omega]; exact Fa (by omega) (by omega)
    rw [Ew]
    obtain ⟨R,hR⟩:∃ R,R=n + 2:=⟨_,rfl⟩
    have hn:n + 1 + 1=R:=by omega
    rw [hn]
    have r1:¬ (R:Int)=1:=by omega
    rw [hn] at e0
    have hbig:(n + 1) * (n + 1) ≤ 64 * 64:=Nat.mul_le_mul (by omega) (by omega)
    refine Bj (n:=77) (m:=2) (rs:=[.tmp 4]) Try.func44 rfl rfl rfl rfl (by decide) fun base => ?_
    repeat (first|refine Bg rfl ?_|refine Bb rfl ?_|refine ⟨(dxX (by kernel_rfl)),?_⟩|exact (dxX (by kernel_rfl))|simp -dsimp (maxSteps:=20000000) (disch:=omega) only [simx,zzC,zzB,tys,ite_self,A8,A2,Ax,Aq,Ao,At,Az,Ac,A5,PV.sk,Ai,Ar,As,Ap,Ay,Ab,Aj,Am,A9,Value.oneCell',Ah,Ba,Aw,A4,A1,Al,An,Ae,Ak,isZ,A6,A3,Ad,Aa,Ag,A0,Af,↓reduceIte,reduceSub,reduceEqDiff,reduceAdd,reduceMul,reduceLT,reduceLeDiff,reduceToNat,reduceLE,Int.reduceLT,reduceNeg,reduceCtorEq,gos,Int.reduceAdd,Int.reduceSub,Int.reduceMul,reduceEq,r1])
    refine B5 [0,3,5,6] [(7,7)::base,(15,7)::base] (0) (R) (fun j => True) (fun j => [(5,u64 (B8 j (fun k => sg k * cl R l 0 k * Lp (n + 1) (mnr (cl R l) k)) % p)),(6,i64 j)]) (fun j => Heap.none.put ((0,0)::base) (.var [i64 R,i64 R,lu l])) ?_ ?_ ?_ ?_ ?_ (by decide) ?_
    · exact (Bv (by simp only [Heap.none_at]) (by (simp -dsimp only [zzB,tys,ite_self,A8,A2,Ax,Aq,Ao,At,Az,Ac,A5,PV.sk,Ai,Ar,As,Ap,Ay,Ab,Aj,Am,A9,Value.oneCell',Ah,Ba,Aw,A4,A1,Al,An,Ae,Ak,isZ,A6,A3,Ad,Aa,Ag,A0,Af,↓reduceIte,reduceSub,reduceEqDiff,reduceAdd,reduceMul,reduceLT,reduceLeDiff,reduceToNat,reduceLE,Int.reduceLT,reduceNeg,reduceCtorEq,Bm,Bo]) <;> simp [Bs,Bn,Be]) (by repeat (first|exact Bx _|refine Bp ?_|refine B4 ?_|refine Bt ?_|refine Bu ?_ (by simp [Bs,Bn,Be]))) (Bv (by simp only [Heap.none_at]) (by (simp -dsimp only [zzB,tys,ite_self,A8,A2,Ax,Aq,Ao,At,Az,Ac,A5,PV.sk,Ai,Ar,As,Ap,Ay,Ab,Aj,Am,A9,Value.oneCell',Ah,Ba,Aw,A4,A1,Al,An,Ae,Ak,isZ,A6,A3,Ad,Aa,Ag,A0,Af,↓reduceIte,reduceSub,reduceEqDiff,reduceAdd,reduceMul,reduceLT,reduceLeDiff,reduceToNat,reduceLE,Int.reduceLT,reduceNeg,reduceCtorEq,Bm,Bo]) <;> simp [Bs,Bn,Be]) (by repeat (first|exact Bx _|refine Bp ?_|refine B4 ?_|refine Bt ?_|refine Bu ?_ (by simp [Bs,Bn,Be]))) (Bl)))
    · ((simp -dsimp (disch:=omega) only [simx,zzB,tys,ite_self,A8,A2,Ax,Aq,Ao,At,Az,Ac,A5,PV.sk,Ai,Ar,As,Ap,Ay,Ab,Aj,Am,A9,Value.oneCell',Ah,Ba,Aw,A4,A1,Al,An,Ae,Ak,isZ,A6,A3,Ad,Aa,Ag,A0,Af,↓reduceIte,reduceSub,reduceEqDiff,reduceAdd,reduceMul,reduceLT,reduceLeDiff,reduceToNat,reduceLE,Int.reduceLT,reduceNeg,reduceCtorEq,gos,Int.reduceAdd,Int.reduceSub,Int.reduceMul,reduceEq]) <;> first|rfl|simp [B8])
    · funext c
      simp (maxSteps:=20000000) only [Heap.drop_at,Bh,Heap.put_at,Heap.none_at,List.mem_cons,List.not_mem_nil,or_false]
      by_cases e0:c=(0,0)::base
      · subst e0; simp []
      by_cases e1:c=(7,7)::base
      · subst e1; simp []
      by_cases e2:c=(15,7)::base
      · subst e2; simp []
      simp [e0,e1,e2]
    · omega
    · trivial
    · intro k hk _
      by_cases ck:k < R
      · repeat (first|refine Bg rfl ?_|refine Bb rfl ?_|refine ⟨(dxX (by kernel_rfl)),?_⟩|exact (dxX (by kernel_rfl))|simp -dsimp (maxSteps:=20000000) (disch:=omega) only [simx,zzC,zzB,tys,ite_self,A8,A2,Ax,Aq,Ao,At,Az,Ac,A5,PV.sk,Ai,Ar,As,Ap,Ay,Ab,Aj,Am,A9,Value.oneCell',Ah,Ba,Aw,A4,A1,Al,An,Ae,Ak,isZ,A6,A3,Ad,Aa,Ag,A0,Af,↓reduceIte,reduceSub,reduceEqDiff,reduceAdd,reduceMul,reduceLT,reduceLeDiff,reduceToNat,reduceLE,Int.reduceLT,reduceNeg,reduceCtorEq,gos,Int.reduceAdd,Int.reduceSub,Int.reduceMul,reduceEq,ck,e0])
        refine B5 [0,3,5,6,7,8] [] (1) (R) (fun j => 1 ≤ j) (fun j => [(5,u64 (B8 k (fun k => sg k * cl R l 0 k * Lp (n + 1) (mnr (cl R l) k)) % p)),(6,i64 k),(8,i64 j)]) (fun j => C9 ((Heap.none.put ((0,0)::base) (.var [i64 R,i64 R,lu l])).put ((7,7)::base) (.var [i64 ((n + 1:Nat):Int),i64 ((n + 1:Nat):Int),rowP ((15,7)::base) 1 (mnC n k (j - 1) 0) (((mnL n k l).take (mnC n k (j - 1) 0)).map iu)])) ((15,7)::base) (mnC n k (j - 1) 0) (((mnL n k l).take (mnC n k (j - 1) 0)).map iu)) ?_ ?_ ?_ ?_ ?_ (by decide) ?_
        · exact (Bl)
        · ((simp -dsimp (disch:=omega) only [simx,zzB,tys,ite_self,A8,A2,Ax,Aq,Ao,At,Az,Ac,A5,PV.sk,Ai,Ar,As,Ap,Ay,Ab,Aj,Am,A9,Value.oneCell',Ah,Ba,Aw,A4,A1,Al,An,Ae,Ak,isZ,A6,A3,Ad,Aa,Ag,A0,Af,↓reduceIte,reduceSub,reduceEqDiff,reduceAdd,reduceMul,reduceLT,reduceLeDiff,reduceToNat,reduceLE,Int.reduceLT,reduceNeg,reduceCtorEq,gos,Int.reduceAdd,Int.reduceSub,Int.reduceMul,reduceEq]) <;> first|rfl|simp)
        · rw [Nat.sub_self,Aq7]
          funext c
          simp (maxSteps:=20000000) only [Heap.drop_at,Bh,Heap.put_at,Heap.none_at,List.mem_cons,List.not_mem_nil,or_false]
          by_cases e0:c=(0,0)::base
          · subst e0; simp [rowP]
          by_cases e1:c=(7,7)::base
          · subst e1; simp [rowP]
          by_cases e2:c=(15,7)::base
          · subst e2; simp [rowP]
          simp [e0,e1,e2,rowP]
        · omega
        · exact Nat.le_refl 1
        · intro i1 hi1 hi2
          obtain ⟨i,rfl⟩:∃ i,i1=i + 1:=⟨i1 - 1,by omega⟩
          rw [Nat.add_sub_cancel]
          by_cases ci:i + 1 < R
          · repeat (first|refine Bg rfl ?_|refine Bb rfl ?_|refine ⟨(dxX (by kernel_rfl)),?_⟩|exact (dxX (by kernel_rfl))|simp -dsimp (maxSteps:=20000000) (disch:=omega) only [simx,zzC,zzB,tys,ite_self,A8,A2,Ax,Aq,Ao,At,Az,Ac,A5,PV.sk,Ai,Ar,As,Ap,Ay,Ab,Aj,Am,A9,Value.oneCell',Ah,Ba,Aw,A4,A1,Al,An,Ae,Ak,isZ,A6,A3,Ad,Aa,Ag,A0,Af,↓reduceIte,reduceSub,reduceEqDiff,reduceAdd,reduceMul,reduceLT,reduceLeDiff,reduceToNat,reduceLE,Int.reduceLT,reduceNeg,reduceCtorEq,gos,Int.reduceAdd,Int.reduceSub,Int.reduceMul,reduceEq,ci])
            refine B5 [0,3,5,6,7,8,9] [(15,6)::base] (0) (R) (fun j => True) (fun j => [(5,u64 (B8 k (fun k => sg k * cl R l 0 k * Lp (n + 1) (mnr (cl R l) k)) % p)),(6,i64 k),(8,i64 ((i + 1:Nat):Int)),(9,i64 j)]) (fun j => C9 ((Heap.none.put ((0,0)::base) (.var [i64 R,i64 R,lu l])).put ((7,7)::base) (.var [i64 ((n + 1:Nat):Int),i64 ((n + 1:Nat):Int),rowP ((15,7)::base) 1 (mnC n k i j) (((mnL n k l).take (mnC n k i j)).map iu)])) ((15,7)::base) (mnC n k i j) (((mnL n k l).take (mnC n k i j)).map iu)) ?_ ?_ ?_ ?_ ?_ (by decide) ?_
            · exact (Bv (by simp only [Heap.none_at]) (by (simp -dsimp only [zzB,tys,ite_self,A8,A2,Ax,Aq,Ao,At,Az,Ac,A5,PV.sk,Ai,Ar,As,Ap,Ay,Ab,Aj,Am,A9,Value.oneCell',Ah,Ba,Aw,A4,A1,Al,An,Ae,Ak,isZ,A6,A3,Ad,Aa,Ag,A0,Af,↓reduceIte,reduceSub,reduceEqDiff,reduceAdd,reduceMul,reduceLT,reduceLeDiff,reduceToNat,reduceLE,Int.reduceLT,reduceNeg,reduceCtorEq,Bm,Bo]) <;> simp [Bs,Bn,Be]) (by repeat (first|exact Bx _|refine Bp ?_|refine B4 ?_|refine Bt ?_|refine Bu ?_ (by simp [Bs,Bn,Be]))) (Bl))
            · ((simp -dsimp (disch:=omega) only [simx,zzB,tys,ite_self,A8,A2,Ax,Aq,Ao,At,Az,Ac,A5,PV.sk,Ai,Ar,As,Ap,Ay,Ab,Aj,Am,A9,Value.oneCell',Ah,Ba,Aw,A4,A1,Al,An,Ae,Ak,isZ,A6,A3,Ad,Aa,Ag,A0,Af,↓reduceIte,reduceSub,reduceEqDiff,reduceAdd,reduceMul,reduceLT,reduceLeDiff,reduceToNat,reduceLE,Int.reduceLT,reduceNeg,reduceCtorEq,gos,Int.reduceAdd,Int.reduceSub,Int.reduceMul,reduceEq]) <;> first|rfl|simp)
            · funext c
              simp (maxSteps:=20000000) only [Heap.drop_at,Bh,Heap.put_at,Heap.none_at,List.mem_cons,List.not_mem_nil,or_false]
              by_cases e0:c=(0,0)::base
              · subst e0; simp [rowP]
              by_cases e1:c=(7,7)::base
              · subst e1; simp [rowP]
              by_cases e2:c=(15,6)::base
              · subst e2; simp [rowP]
              by_cases e3:c=(15,7)::base
              · subst e3; simp [rowP]
              simp [e0,e1,e2,e3,rowP]
            · omega
            · trivial
            · intro j hj _
              by_cases cj:j < R
              · by_cases hjk:j=k
                · subst hjk
                  repeat (first|refine Bg rfl ?_|refine Bb rfl ?_|refine ⟨(dxX (by kernel_rfl)),?_⟩|exact (dxX (by kernel_rfl))|simp -dsimp (maxSteps:=20000000) (disch:=omega) only [simx,zzC,zzB,tys,ite_self,A8,A2,Ax,Aq,Ao,At,Az,Ac,A5,PV.sk,Ai,Ar,As,Ap,Ay,Ab,Aj,Am,A9,Value.oneCell',Ah,Ba,Aw,A4,A1,Al,An,Ae,Ak,isZ,A6,A3,Ad,Aa,Ag,A0,Af,↓reduceIte,reduceSub,reduceEqDiff,reduceAdd,reduceMul,reduceLT,reduceLeDiff,reduceToNat,reduceLE,Int.reduceLT,reduceNeg,reduceCtorEq,gos,Int.reduceAdd,Int.reduceSub,Int.reduceMul,reduceEq,cj])
                  refine ⟨cj,(Bv (by simp only [Heap.none_at]) (by (simp -dsimp only [zzB,tys,ite_self,A8,A2,Ax,Aq,Ao,At,Az,Ac,A5,PV.sk,Ai,Ar,As,Ap,Ay,Ab,Aj,Am,A9,Value.oneCell',Ah,Ba,Aw,A4,A1,Al,An,Ae,Ak,isZ,A6,A3,Ad,Aa,Ag,A0,Af,↓reduceIte,reduceSub,reduceEqDiff,reduceAdd,reduceMul,reduceLT,reduceLeDiff,reduceToNat,reduceLE,Int.reduceLT,reduceNeg,reduceCtorEq,Bm,Bo]) <;> simp [Bs,Bn,Be]) (by repeat (first|exact Bx _|refine Bp ?_|refine B4 ?_|refine Bt ?_|refine Bu ?_ (by simp [Bs,Bn,Be]))) (Bl)),rfl,?_⟩
                  rw [Aq8]
                  generalize ((mnL n j l).take (mnC n j i j)).map iu=acc
                  generalize mnC n j i j=q
                  funext c
                  simp (maxSteps:=20000000) only [Heap.drop_at,Bh,Heap.put_at,Heap.none_at,List.mem_cons,List.not_mem_nil,or_false]
                  by_cases e0:c=(0,0)::base
                  · subst e0; simp []
                  by_cases e1:c=(7,7)::base
                  · subst e1; simp []
                  by_cases e2:c=(15,6)::base
                  · subst e2; simp []
                  by_cases e3:c=(15,7)::base
                  · subst e3; simp []
                  simp [e0,e1,e2,e3]
                · obtain ⟨q1,q2,ce⟩:=Ba5 (n:=n) (k:=k) (l:=l) (i:=i) (j:=j) (by omega) (by omega) (by omega) hjk
                  have hjk':¬ (j:Int)=k:=by omega
                  have tk:=Ms (l:=mnL n k l) (q:=mnC n k i j) (by rw [L6]; exact q1)
                  rw [ce] at tk
                  have a1:=Kz (r:=R) (c:=R) (l:=l) (by rw [hR]; exact hl) (by omega) (by omega) ci cj
                  rw [← hR] at tk
                  generalize l.getD ((i + 1) * R + j) 0=v at tk a1
                  have tl:(((mnL n k l).take (mnC n k i j)).map iu).length=(mnC n k i j) * 1:=by rw [List.length_map,List.length_take,L6]; omega
                  have nle:mnC n k i j ≤ 4096:=by omega
                  clear ce
                  generalize (mnL n k l).take (mnC n k i j)=acc at tk tl ⊢
                  generalize hq:mnC n k i j=q at tk tl nle q2 ⊢
                  cases q with
                  | zero =>
                    obtain rfl:acc=[]:=by cases acc; rfl; simp at tl
                    repeat (first|((first|refine Bd rfl (by simp only [tys]) ?_|refine Bc rfl (by simp only [tys]) ?_); apply Exists.intro; apply And.intro; (focus (simp -dsimp only [simx,zzC,zzB,tys,ite_self,A8,A2,Ax,Aq,Ao,At,Az,Ac,A5,PV.sk,Ai,Ar,As,Ap,Ay,Ab,Aj,Am,A9,Value.oneCell',Ah,Ba,Aw,A4,A1,Al,An,Ae,Ak,isZ,A6,A3,Ad,Aa,Ag,A0,Af,↓reduceIte,reduceSub,reduceEqDiff,reduceAdd,reduceMul,reduceLT,reduceLeDiff,reduceToNat,reduceLE,Int.reduceLT,reduceNeg,reduceCtorEq,zzL,if_true,if_false] <;> rfl)); apply Exists.intro; apply And.intro; (focus (first|exact a1)))|refine Bg rfl ?_|refine Bb rfl ?_|refine ⟨(dxX (by kernel_rfl)),?_⟩|exact (dxX (by kernel_rfl))|simp -dsimp (maxSteps:=20000000) (disch:=omega) only [simx,zzC,zzB,tys,ite_self,A8,A2,Ax,Aq,Ao,At,Az,Ac,A5,PV.sk,Ai,Ar,As,Ap,Ay,Ab,Aj,Am,A9,Value.oneCell',Ah,Ba,Aw,A4,A1,Al,An,Ae,Ak,isZ,A6,A3,Ad,Aa,Ag,A0,Af,↓reduceIte,reduceSub,reduceEqDiff,reduceAdd,reduceMul,reduceLT,reduceLeDiff,reduceToNat,reduceLE,Int.reduceLT,reduceNeg,reduceCtorEq,gos,Int.reduceAdd,Int.reduceSub,Int.reduceMul,reduceEq,cj,hjk',Co,Cn])
                    refine Cg 22 [.int .u64 0] [iu v] (by simp only [tys]) (by simp only [tys]) rfl (by decide) (by simp) (by simp [Heap.put_at,Heap.none_at,Bh]) (by simp [Heap.put_at]; rfl) rfl (by simp only [tys]; omega) (by rw [B3]; omega) ?_
                    repeat (first|refine Bg rfl ?_|refine Bb rfl ?_|refine ⟨(dxX (by kernel_rfl)),?_⟩|exact (dxX (by kernel_rfl))|simp -dsimp (maxSteps:=20000000) (disch:=omega) only [simx,zzC,zzB,tys,ite_self,A8,A2,Ax,Aq,Ao,At,Az,Ac,A5,PV.sk,Ai,Ar,As,Ap,Ay,Ab,Aj,Am,A9,Value.oneCell',Ah,Ba,Aw,A4,A1,Al,An,Ae,Ak,isZ,A6,A3,Ad,Aa,Ag,A0,Af,↓reduceIte,reduceSub,reduceEqDiff,reduceAdd,reduceMul,reduceLT,reduceLeDiff,reduceToNat,reduceLE,Int.reduceLT,reduceNeg,reduceCtorEq,gos,Int.reduceAdd,Int.reduceSub,Int.reduceMul,reduceEq,cj,Co,Cn,Bi])
                    refine ⟨cj,(Bv (by simp only [Heap.none_at]) (by (simp -dsimp only [zzB,tys,ite_self,A8,A2,Ax,Aq,Ao,At,Az,Ac,A5,PV.sk,Ai,Ar,As,Ap,Ay,Ab,Aj,Am,A9,Value.oneCell',Ah,Ba,Aw,A4,A1,Al,An,Ae,Ak,isZ,A6,A3,Ad,Aa,Ag,A0,Af,↓reduceIte,reduceSub,reduceEqDiff,reduceAdd,reduceMul,reduceLT,reduceLeDiff,reduceToNat,reduceLE,Int.reduceLT,reduceNeg,reduceCtorEq,Bm,Bo]) <;> simp [Bs,Bn,Be]) (by repeat (first|exact Bx _|refine Bp ?_|refine B4 ?_|refine Bt ?_|refine Bu ?_ (by simp [Bs,Bn,Be]))) (Bl)),rfl,?_⟩
                    rw [q2,tk]
                    funext c
                    simp (maxSteps:=20000000) only [Heap.drop_at,Bh,Heap.put_at,Heap.none_at,List.mem_cons,List.not_mem_nil,or_false]
                    by_cases e0:c=(0,0)::base
                    · subst e0; simp [rowP]
                    by_cases e1:c=(7,7)::base
                    · subst e1; simp [rowP]
                    by_cases e2:c=(15,6)::base
                    · subst e2; simp [rowP]
                    by_cases e3:c=(15,7)::base
                    · subst e3; simp [rowP]
                    simp [e0,e1,e2,e3,rowP]
                  | succ q =>
                    repeat (first|((first|refine Bd rfl (by simp only [tys]) ?_|refine Bc rfl (by simp only [tys]) ?_); apply Exists.intro; apply And.intro; (focus (simp -dsimp only [simx,zzC,zzB,tys,ite_self,A8,A2,Ax,Aq,Ao,At,Az,Ac,A5,PV.sk,Ai,Ar,As,Ap,Ay,Ab,Aj,Am,A9,Value.oneCell',Ah,Ba,Aw,A4,A1,Al,An,Ae,Ak,isZ,A6,A3,Ad,Aa,Ag,A0,Af,↓reduceIte,reduceSub,reduceEqDiff,reduceAdd,reduceMul,reduceLT,reduceLeDiff,reduceToNat,reduceLE,Int.reduceLT,reduceNeg,reduceCtorEq,zzL,if_true,if_false] <;> rfl)); apply Exists.intro; apply And.intro; (focus (first|exact a1)))|refine Bg rfl ?_|refine Bb rfl ?_|refine ⟨(dxX (by kernel_rfl)),?_⟩|exact (dxX (by kernel_rfl))|simp -dsimp (maxSteps:=20000000) (disch:=omega) only [simx,zzC,zzB,tys,ite_self,A8,A2,Ax,Aq,Ao,At,Az,Ac,A5,PV.sk,Ai,Ar,As,Ap,Ay,Ab,Aj,Am,A9,Value.oneCell',Ah,Ba,Aw,A4,A1,Al,An,Ae,Ak,isZ,A6,A3,Ad,Aa,Ag,A0,Af,↓reduceIte,reduceSub,reduceEqDiff,reduceAdd,reduceMul,reduceLT,reduceLeDiff,reduceToNat,reduceLE,Int.reduceLT,reduceNeg,reduceCtorEq,gos,Int.reduceAdd,Int.reduceSub,Int.reduceMul,reduceEq,cj,hjk',Co,Cn])
                    refine Cg 22 [.int .u64 0] [iu v] (by simp only [tys]) (by simp only [tys]) rfl (by decide) tl (by simp [Heap.put_at,Heap.none_at,Bh]) (by simp [Heap.put_at]; rfl) rfl (by simp only [tys]; omega) (by rw [B3]; omega) ?_
                    repeat (first|refine Bg rfl ?_|refine Bb rfl ?_|refine ⟨(dxX (by kernel_rfl)),?_⟩|exact (dxX (by kernel_rfl))|simp -dsimp (maxSteps:=20000000) (disch:=omega) only [simx,zzC,zzB,tys,ite_self,A8,A2,Ax,Aq,Ao,At,Az,Ac,A5,PV.sk,Ai,Ar,As,Ap,Ay,Ab,Aj,Am,A9,Value.oneCell',Ah,Ba,Aw,A4,A1,Al,An,Ae,Ak,isZ,A6,A3,Ad,Aa,Ag,A0,Af,↓reduceIte,reduceSub,reduceEqDiff,reduceAdd,reduceMul,reduceLT,reduceLeDiff,reduceToNat,reduceLE,Int.reduceLT,reduceNeg,reduceCtorEq,gos,Int.reduceAdd,Int.reduceSub,Int.reduceMul,reduceEq,cj,Co,Cn,Bi])
                    refine ⟨cj,(Bv (by simp only [Heap.none_at]) (by (simp -dsimp only [zzB,tys,ite_self,A8,A2,Ax,Aq,Ao,At,Az,Ac,A5,PV.sk,Ai,Ar,As,Ap,Ay,Ab,Aj,Am,A9,Value.oneCell',Ah,Ba,Aw,A4,A1,Al,An,Ae,Ak,isZ,A6,A3,Ad,Aa,Ag,A0,Af,↓reduceIte,reduceSub,reduceEqDiff,reduceAdd,reduceMul,reduceLT,reduceLeDiff,reduceToNat,reduceLE,Int.reduceLT,reduceNeg,reduceCtorEq,Bm,Bo]) <;> simp [Bs,Bn,Be]) (by repeat (first|exact Bx _|refine Bp ?_|refine B4 ?_|refine Bt ?_|refine Bu ?_ (by simp [Bs,Bn,Be]))) (Bl)),rfl,?_⟩
                    rw [q2,tk]
                    funext c
                    simp (maxSteps:=20000000) only [Heap.drop_at,Bh,Heap.put_at,Heap.none_at,List.mem_cons,List.not_mem_nil,or_false]
                    by_cases e0:c=(0,0)::base
                    · subst e0; simp [rowP]
                    by_cases e1:c=(7,7)::base
                    · subst e1; simp [rowP]
                    by_cases e2:c=(15,6)::base
                    · subst e2; simp [rowP]
                    by_cases e3:c=(15,7)::base
                    · subst e3; simp [rowP]
                    simp [e0,e1,e2,e3,rowP]
              · obtain rfl:R=j:=by omega
                repeat (first|refine Bg rfl ?_|refine Bb rfl ?_|refine ⟨(dxX (by kernel_rfl)),?_⟩|exact (dxX (by kernel_rfl))|simp -dsimp (maxSteps:=20000000) (disch:=omega) only [simx,zzC,zzB,tys,ite_self,A8,A2,Ax,Aq,Ao,At,Az,Ac,A5,PV.sk,Ai,Ar,As,Ap,Ay,Ab,Aj,Am,A9,Value.oneCell',Ah,Ba,Aw,A4,A1,Al,An,Ae,Ak,isZ,A6,A3,Ad,Aa,Ag,A0,Af,↓reduceIte,reduceSub,reduceEqDiff,reduceAdd,reduceMul,reduceLT,reduceLeDiff,reduceToNat,reduceLE,Int.reduceLT,reduceNeg,reduceCtorEq,gos,Int.reduceAdd,Int.reduceSub,Int.reduceMul,reduceEq])
                refine ⟨ci,(Bl),rfl,?_⟩
                rw [Nat.add_sub_cancel,show R=n + 2 from hR,Ba6 i (by omega)]
                exact drop_nil _
          · have hi:i=n + 1:=by omega
            subst hi
            have q1:=ih k
            have m0:=hlp k
            rw [Aq9,List.take_of_length_le (by rw [L6]; exact Nat.le_refl _)]
            have ol:=L6 n k l
            have oin:=Aq5 (k:=k) hl hin
            generalize mnL n k l=o at q1 ol oin m0 ⊢
            rw [m0] at q1
            have g0:(l.map iu)[k]?=some (iu (l.getD k 0)):=by rw [List.getElem?_map,getD_some hl (by have:=Fb (c:=n + 1 + 1) (show 0 < n + 1 + 1 by omega); omega)]; rfl
            have kl:k < l.length:=by rw [hl]; have:=Fb (c:=n + 1 + 1) (show 0 < n + 1 + 1 by omega); omega
            have in0:In (p:Int) (l.getD k 0):=Ce hin kl
            have sk:B8 (k + 1) (fun k => sg k * cl R l 0 k * Lp (n + 1) (mnr (cl R l) k))=B8 k (fun k => sg k * cl R l 0 k * Lp (n + 1) (mnr (cl R l) k)) + sg k * cl R l 0 k * Lp (n + 1) (mnr (cl R l) k):=rfl
            have c0:cl R l 0 k=l.getD k 0:=by unfold cl; rw [Nat.zero_mul,Nat.zero_add]
            rw [c0] at sk
            have hpos:0 < (n + 1) * (n + 1):=Nat.mul_pos (by omega) (by omega)
            have rp:=fun s z cs => Hb s z cs hpos
            have rh:=fun h s cs => Ge h s cs hpos
            generalize (n + 1) * (n + 1)=N at ol rp rh hbig ⊢
            clear ih hlp hin oin hl
            have k2:(k:Int).tmod 2=((k % 2:Nat):Int):=by rw [Sv (by omega)]; rfl
            generalize hD:Lp (n + 1) (mnr (cl R l) k)=D at q1 sk
            rw [show Lp (n + 1) (mnr (cl (n + 2) l) k)=D by rw [← hR]; exact hD] at q1
            have m1:=F3 p (l.getD k 0) (D % p) hp in0 ⟨Int.emod_nonneg _ (by omega),by have:=Int.emod_lt_of_pos D hp0; have:=hp.2; omega⟩
            have i1:=E8 (p:=p) (l.getD k 0 * (D % p)) hp0
            generalize B8 k (fun k => sg k * cl R l 0 k * Lp (n + 1) (mnr (cl R l) k))=S at sk ⊢
            have i2:=E8 (p:=p) S hp0
            rw [show C3 ((n + 1:Nat):Int) ((n + 1:Nat):Int) o=.agg [i64 ((n + 1:Nat):Int),i64 ((n + 1:Nat):Int),.i (.l N (o.map iu))] by rw [C3,lu,ol]] at q1
            have tkN:(o.map iu).take N=o.map iu:=List.take_of_length_le (by rw [List.length_map,ol]; exact Nat.le_refl _)
            rcases Nat.mod_two_eq_zero_or_one k with h2|h2
            · have m2:=Ik p _ _ hp i2 i1
              rw [Bb9,← Az5 h2,← sk] at m2
              rw [h2] at k2
              repeat (first|((first|refine Bd rfl (by simp only [tys]) ?_|refine Bc rfl (by simp only [tys]) ?_); apply Exists.intro; apply And.intro; (focus (simp -dsimp only [simx,zzC,zzB,tys,ite_self,A8,A2,Ax,Aq,Ao,At,Az,Ac,A5,PV.sk,Ai,Ar,As,Ap,Ay,Ab,Aj,Am,A9,Value.oneCell',Ah,Ba,Aw,A4,A1,Al,An,Ae,Ak,isZ,A6,A3,Ad,Aa,Ag,A0,Af,↓reduceIte,reduceSub,reduceEqDiff,reduceAdd,reduceMul,reduceLT,reduceLeDiff,reduceToNat,reduceLE,Int.reduceLT,reduceNeg,reduceCtorEq,zzL,if_true,if_false,List.length_map,ol,tkN,hpos] <;> rfl)); apply Exists.intro; apply And.intro; (focus (first|exact q1|exact m1|exact m2)))|refine Bg rfl ?_|refine Bb rfl ?_|refine ⟨(dxX (by kernel_rfl)),?_⟩|exact (dxX (by kernel_rfl))|simp -dsimp (maxSteps:=20000000) (disch:=omega) only [simx,zzC,zzB,tys,ite_self,A8,A2,Ax,Aq,Ao,At,Az,Ac,A5,PV.sk,Ai,Ar,As,Ap,Ay,Ab,Aj,Am,A9,Value.oneCell',Ah,Ba,Aw,A4,A1,Al,An,Ae,Ak,isZ,A6,A3,Ad,Aa,Ag,A0,Af,↓reduceIte,reduceSub,reduceEqDiff,reduceAdd,reduceMul,reduceLT,reduceLeDiff,reduceToNat,reduceLE,Int.reduceLT,reduceNeg,reduceCtorEq,gos,Int.reduceAdd,Int.reduceSub,Int.reduceMul,reduceEq,ck,g0,kl,rp,rh,k2,List.length_map,ol,tkN,hpos])
              refine ⟨ck,M8 (h':=Heap.none.put ((0,0)::base) (.var [i64 R,i64 R,lu l])) ?_ ?_ ?_ ?_,rfl,?_⟩
              rotate_left
              · intro b _; rfl
              · intro b hb; simp only [List.mem_cons,List.not_mem_nil,or_false] at hb; rcases hb with rfl|rfl <;> simp [Js,Bn,upd,toL]
              · intro b hb; exact Bu (Bx _) (by simp [Bs,Bn])
              · funext c
                simp (maxSteps:=20000000) only [Heap.drop_at,Bh,Heap.put_at,Heap.none_at,List.mem_cons,List.not_mem_nil,or_false]
                by_cases e0:c=(0,0)::base
                · subst e0; simp []
                by_cases e1:c=(7,7)::base
                · subst e1; simp []
                by_cases e2:c=(15,7)::base
                · subst e2; simp []
                simp [e0,e1,e2]
              · funext c
                simp (maxSteps:=20000000) only [Heap.drop_at,Bh,Heap.put_at,Heap.none_at,List.mem_cons,List.not_mem_nil,or_false]
                by_cases e0:c=(0,0)::base
                · subst e0; simp []
                by_cases e1:c=(7,7)::base
                · subst e1; simp []
                by_cases e2:c=(15,7)::base
                · subst e2; simp []
                simp [e0,e1,e2]
            · have m2:=Ii p _ _ hp i2 i1
              rw [Bb8,← sg_odd (show ¬ k % 2=0 by omega),← sk] at m2
              rw [h2] at k2
              repeat (first|((first|refine Bd rfl (by simp only [tys]) ?_|refine Bc rfl (by simp only [tys]) ?_); apply Exists.intro; apply And.intro; (focus (simp -dsimp only [simx,zzC,zzB,tys,ite_self,A8,A2,Ax,Aq,Ao,At,Az,Ac,A5,PV.sk,Ai,Ar,As,Ap,Ay,Ab,Aj,Am,A9,Value.oneCell',Ah,Ba,Aw,A4,A1,Al,An,Ae,Ak,isZ,A6,A3,Ad,Aa,Ag,A0,Af,↓reduceIte,reduceSub,reduceEqDiff,reduceAdd,reduceMul,reduceLT,reduceLeDiff,reduceToNat,reduceLE,Int.reduceLT,reduceNeg,reduceCtorEq,zzL,if_true,if_false,List.length_map,ol,tkN,hpos] <;> rfl)); apply Exists.intro; apply And.intro; (focus (first|exact q1|exact m1|exact m2)))|refine Bg rfl ?_|refine Bb rfl ?_|refine ⟨(dxX (by kernel_rfl)),?_⟩|exact (dxX (by kernel_rfl))|simp -dsimp (maxSteps:=20000000) (disch:=omega) only [simx,zzC,zzB,tys,ite_self,A8,A2,Ax,Aq,Ao,At,Az,Ac,A5,PV.sk,Ai,Ar,As,Ap,Ay,Ab,Aj,Am,A9,Value.oneCell',Ah,Ba,Aw,A4,A1,Al,An,Ae,Ak,isZ,A6,A3,Ad,Aa,Ag,A0,Af,↓reduceIte,reduceSub,reduceEqDiff,reduceAdd,reduceMul,reduceLT,reduceLeDiff,reduceToNat,reduceLE,Int.reduceLT,reduceNeg,reduceCtorEq,gos,Int.reduceAdd,Int.reduceSub,Int.reduceMul,reduceEq,ck,g0,kl,rp,rh,k2,List.length_map,ol,tkN,hpos])
              refine ⟨ck,M8 (h':=Heap.none.put ((0,0)::base) (.var [i64 R,i64 R,lu l])) ?_ ?_ ?_ ?_,rfl,?_⟩
              rotate_left
              · intro b _; rfl
              · intro b hb; simp only [List.mem_cons,List.not_mem_nil,or_false] at hb; rcases hb with rfl|rfl <;> simp [Js,Bn,upd,toL]
              · intro b hb; exact Bu (Bx _) (by simp [Bs,Bn])
              · funext c
                simp (maxSteps:=20000000) only [Heap.drop_at,Bh,Heap.put_at,Heap.none_at,List.mem_cons,List.not_mem_nil,or_false]
                by_cases e0:c=(0,0)::base
                · subst e0; simp []
                by_cases e1:c=(7,7)::base
                · subst e1; simp []
                by_cases e2:c=(15,7)::base
                · subst e2; simp []
                simp [e0,e1,e2]
              · funext c
                simp (maxSteps:=20000000) only [Heap.drop_at,Bh,Heap.put_at,Heap.none_at,List.mem_cons,List.not_mem_nil,or_false]
                by_cases e0:c=(0,0)::base
                · subst e0; simp []
                by_cases e1:c=(7,7)::base
                · subst e1; simp []
                by_cases e2:c=(15,7)::base
                · subst e2; simp []
                simp [e0,e1,e2]
      · have ek:k=R:=by omega
        subst ek
        repeat (first|refine Bg rfl ?_|refine Bb rfl ?_|refine ⟨(dxX (by kernel_rfl)),?_⟩|exact (dxX (by kernel_rfl))|simp -dsimp (maxSteps:=20000000) (disch:=omega) only [simx,zzC,zzB,tys,ite_self,A8,A2,Ax,Aq,Ao,At,Az,Ac,A5,PV.sk,Ai,Ar,As,Ap,Ay,Ab,Aj,Am,A9,Value.oneCell',Ah,Ba,Aw,A4,A1,Al,An,Ae,Ak,isZ,A6,A3,Ad,Aa,Ag,A0,Af,↓reduceIte,reduceSub,reduceEqDiff,reduceAdd,reduceMul,reduceLT,reduceLeDiff,reduceToNat,reduceLE,Int.reduceLT,reduceNeg,reduceCtorEq,zzR,gos,Int.reduceAdd,Int.reduceSub,Int.reduceMul,reduceEq])
end Go.Proofs.Ythnfphgjfpcpbaa.TM
namespace Go.Proofs.Ythnfphgjfpcpbaa.TM
open Go Go.RowKit
attribute [local irreducible] K W Dg Effs Xg Xo Xr Xdg Xdo Xdr Xif CallsP CallR
theorem Qg {P : Program} {C : B9} {h h0 : Heap} {base : Name} {Qf : Ex → List PV → Heap → Prop} {k : List It} {t : List PV} {R : It} {d : Option Tmp} {s b : Name} {ty : TypeId} (e : TypeId) (zs : List Value) {n m : Nat} {cs : List IV} (xs : List IV)
    (he:Bw P ty=some e) (hz:B6 P e=some zs) (hzl:zs.length=1) (hb:h b=some (.row false cs)) (hl:cs.length=n) (hm:0 < m) (hx:xs.length=m)
    (hby:(n + m) * P.bytesOf e ≤ 140737488355328) (hmx:n + m ≤ maxLen)
    (hk:K P C h0 base Qf (R::k) .normal (Cx t d (.view b 0 1 (n + m) (n + m))) (h.put b (.row false (cs ++ xs)))) :
    Xr P C h0 base Qf (Do P h s ty (.view b 0 1 n n) (.i (.l m xs))) d R k t h:=by
  refine Ab0 (out:=⟨.view b 0 1 (n + m) (n + m),[(b,.row false (cs ++ xs))]⟩) ?_ hk
  have h1:¬ m=0:=by omega
  subst hl
  simp only [Do,he,hz,hzl,PV.sk,SK.cells,SK.len,hx,hb,Nat.mul_one,if_true,h1,if_false,hby,hmx,Nat.zero_lt_one,and_self,true_and,List.length_append]
theorem Ln {n:Nat} {l:List Int} (hl:l.length=n) (h0:0 < n) (hn:n ≤ 4096):CallsO Try.prog 101 [.i (.l n (l.map iu))] 1 n n (l.map iu):=by
  intro base
  refine ⟨(3,0)::base,Heap.none.put ((3,0)::base) (.row false (l.map iu)),?_,by simp [Heap.put_at],by simp [hl]⟩
  have h1:¬ n=0:=by omega
  refine Kl (n:=8) (m:=1) (rs:=[.tmp 2]) Try.func101 rfl rfl rfl rfl (by decide) ?_
  repeat (first|refine Bg rfl ?_|refine Bb rfl ?_|refine ⟨(dxX (by kernel_rfl)),?_⟩|exact (dxX (by kernel_rfl))|simp -dsimp (maxSteps:=20000000) (disch:=omega) only [simx,zzC,zzB,tys,ite_self,A8,A2,Ax,Aq,Ao,At,Az,Ac,A5,PV.sk,Ai,Ar,As,Ap,Ay,Ab,Aj,Am,A9,Value.oneCell',Ah,Ba,Aw,A4,A1,Al,An,Ae,Ak,isZ,A6,A3,Ad,Aa,Ag,A0,Af,↓reduceIte,reduceSub,reduceEqDiff,reduceAdd,reduceMul,reduceLT,reduceLeDiff,reduceToNat,reduceLE,Int.reduceLT,reduceNeg,reduceCtorEq,gos,Int.reduceAdd,Int.reduceSub,Int.reduceMul,reduceEq,h1,h0])
  refine Qg (cs:=[]) 22 [.int .u64 0] (l.map iu) (by simp only [tys]) (by simp only [tys]) rfl (by simp [Heap.put_at]) rfl h0 (by simp [hl]) (by simp only [tys]; omega) (by rw [B3]; omega) ?_
  repeat (first|refine Bg rfl ?_|refine Bb rfl ?_|refine ⟨(dxX (by kernel_rfl)),?_⟩|exact (dxX (by kernel_rfl))|simp -dsimp (maxSteps:=20000000) (disch:=omega) only [simx,zzC,zzB,tys,ite_self,A8,A2,Ax,Aq,Ao,At,Az,Ac,A5,PV.sk,Ai,Ar,As,Ap,Ay,Ab,Aj,Am,A9,Value.oneCell',Ah,Ba,Aw,A4,A1,Al,An,Ae,Ak,isZ,A6,A3,Ad,Aa,Ag,A0,Af,↓reduceIte,reduceSub,reduceEqDiff,reduceAdd,reduceMul,reduceLT,reduceLeDiff,reduceToNat,reduceLE,Int.reduceLT,reduceNeg,reduceCtorEq,zzR,gos,Int.reduceAdd,Int.reduceSub,Int.reduceMul,reduceEq])
  funext c
  simp only [Heap.put_at,List.nil_append]
  split <;> rfl
def nzA:List Int → Nat → Int
  | [],_ => -1
  | a::l,k => if a=0 then nzA l (k + 1) else k
theorem Ad8 (a:Int):CallsP Try.prog 107 [u64 a] (bl (a != 0)):=by
  refine Bj (n:=5) (m:=1) (rs:=[.tmp 2]) Try.func107 rfl rfl rfl rfl (by decide) fun base => ?_
  repeat (first|refine Bg rfl ?_|refine Bb rfl ?_|refine ⟨(dxX (by kernel_rfl)),?_⟩|exact (dxX (by kernel_rfl))|simp -dsimp (maxSteps:=20000000) (disch:=omega) only [simx,zzC,zzB,tys,ite_self,A8,A2,Ax,Aq,Ao,At,Az,Ac,A5,PV.sk,Ai,Ar,As,Ap,Ay,Ab,Aj,Am,A9,Value.oneCell',Ah,Ba,Aw,A4,A1,Al,An,Ae,Ak,isZ,A6,A3,Ad,Aa,Ag,A0,Af,↓reduceIte,reduceSub,reduceEqDiff,reduceAdd,reduceMul,reduceLT,reduceLeDiff,reduceToNat,reduceLE,Int.reduceLT,reduceNeg,reduceCtorEq,zzR,gos,Int.reduceAdd,Int.reduceSub,Int.reduceMul,reduceEq])
theorem Ny {l:List Int} (hl:l.length ≤ maxLen):CallsP Try.prog 106 [lu l,fnc 107] (i64 (nzA l 0)):=by
  rw [B3] at hl
  refine Bj (n:=19) (m:=2) (rs:=[.tmp 4]) Try.func106 rfl rfl rfl rfl (by decide) fun base => ?_
  repeat (first|refine Bg rfl ?_|refine Bb rfl ?_|refine ⟨(dxX (by kernel_rfl)),?_⟩|exact (dxX (by kernel_rfl))|simp -dsimp (maxSteps:=20000000) (disch:=omega) only [simx,zzC,zzB,tys,ite_self,A8,A2,Ax,Aq,Ao,At,Az,Ac,A5,PV.sk,Ai,Ar,As,Ap,Ay,Ab,Aj,Am,A9,Value.oneCell',Ah,Ba,Aw,A4,A1,Al,An,Ae,Ak,isZ,A6,A3,Ad,Aa,Ag,A0,Af,↓reduceIte,reduceSub,reduceEqDiff,reduceAdd,reduceMul,reduceLT,reduceLeDiff,reduceToNat,reduceLE,Int.reduceLT,reduceNeg,reduceCtorEq,gos,Int.reduceAdd,Int.reduceSub,Int.reduceMul,reduceEq])
  refine B5 [0,1,7,8] [] (0) (l.length) (fun j => nzA (l.drop j) j=nzA l 0) (fun j => [(8,i64 j)]) (fun j => Heap.none) ?_ ?_ ?_ ?_ ?_ (by decide) ?_
  · exact (Bl)
  · ((simp -dsimp (disch:=omega) only [simx,zzB,tys,ite_self,A8,A2,Ax,Aq,Ao,At,Az,Ac,A5,PV.sk,Ai,Ar,As,Ap,Ay,Ab,Aj,Am,A9,Value.oneCell',Ah,Ba,Aw,A4,A1,Al,An,Ae,Ak,isZ,A6,A3,Ad,Aa,Ag,A0,Af,↓reduceIte,reduceSub,reduceEqDiff,reduceAdd,reduceMul,reduceLT,reduceLeDiff,reduceToNat,reduceLE,Int.reduceLT,reduceNeg,reduceCtorEq,gos,Int.reduceAdd,Int.reduceSub,Int.reduceMul,reduceEq]) <;> first|rfl|simp)
  · exact drop_nil _
  · omega
  · rfl
  · intro j hj hf
    by_cases c:j < l.length
    · have g1:l[j]?=some l[j]:=List.getElem?_eq_getElem c
      have d:=Ad8 l[j]
      rw [List.drop_eq_getElem_cons c,nzA] at hf
      generalize l[j]=a at g1 d hf
      by_cases e:a=0
      · rw [if_pos e] at hf
        subst e
        rw [show ((0:Int) != 0)=false from rfl] at d
        repeat (first|((first|refine Bd rfl (by simp only [tys]) ?_|refine Bc rfl (by simp only [tys]) ?_); apply Exists.intro; apply And.intro; (focus (simp -dsimp only [simx,zzC,zzB,tys,ite_self,A8,A2,Ax,Aq,Ao,At,Az,Ac,A5,PV.sk,Ai,Ar,As,Ap,Ay,Ab,Aj,Am,A9,Value.oneCell',Ah,Ba,Aw,A4,A1,Al,An,Ae,Ak,isZ,A6,A3,Ad,Aa,Ag,A0,Af,↓reduceIte,reduceSub,reduceEqDiff,reduceAdd,reduceMul,reduceLT,reduceLeDiff,reduceToNat,reduceLE,Int.reduceLT,reduceNeg,reduceCtorEq,zzL,if_true,if_false] <;> rfl)); apply Exists.intro; apply And.intro; (focus (first|exact d)))|(refine Fv rfl ?_; apply Exists.intro; apply And.intro; (focus (simp -dsimp only [simx,zzC,zzB,tys,ite_self,A8,A2,Ax,Aq,Ao,At,Az,Ac,A5,PV.sk,Ai,Ar,As,Ap,Ay,Ab,Aj,Am,A9,Value.oneCell',Ah,Ba,Aw,A4,A1,Al,An,Ae,Ak,isZ,A6,A3,Ad,Aa,Ag,A0,Af,↓reduceIte,reduceSub,reduceEqDiff,reduceAdd,reduceMul,reduceLT,reduceLeDiff,reduceToNat,reduceLE,Int.reduceLT,reduceNeg,reduceCtorEq,zzL,if_true,if_false] <;> rfl)); apply And.intro; (focus (first|simp only [tys]|exact such_enter _)); apply Exists.intro; apply And.intro; (focus (simp -dsimp only [simx,zzC,zzB,tys,ite_self,A8,A2,Ax,Aq,Ao,At,Az,Ac,A5,PV.sk,Ai,Ar,As,Ap,Ay,Ab,Aj,Am,A9,Value.oneCell',Ah,Ba,Aw,A4,A1,Al,An,Ae,Ak,isZ,A6,A3,Ad,Aa,Ag,A0,Af,↓reduceIte,reduceSub,reduceEqDiff,reduceAdd,reduceMul,reduceLT,reduceLeDiff,reduceToNat,reduceLE,Int.reduceLT,reduceNeg,reduceCtorEq,zzL,if_true,if_false] <;> rfl)); apply Exists.intro; apply And.intro; (focus (first|exact d)))|refine Bg rfl ?_|refine Bb rfl ?_|refine ⟨(dxX (by kernel_rfl)),?_⟩|exact (dxX (by kernel_rfl))|simp -dsimp (maxSteps:=20000000) (disch:=omega) only [simx,zzC,zzB,tys,ite_self,A8,A2,Ax,Aq,Ao,At,Az,Ac,A5,PV.sk,Ai,Ar,As,Ap,Ay,Ab,Aj,Am,A9,Value.oneCell',Ah,Ba,Aw,A4,A1,Al,An,Ae,Ak,isZ,A6,A3,Ad,Aa,Ag,A0,Af,↓reduceIte,reduceSub,reduceEqDiff,reduceAdd,reduceMul,reduceLT,reduceLeDiff,reduceToNat,reduceLE,Int.reduceLT,reduceNeg,reduceCtorEq,zzR,gos,Int.reduceAdd,Int.reduceSub,Int.reduceMul,reduceEq,c,g1])
        exact ⟨c,(Bl),hf,rfl,drop_nil _⟩
      · rw [if_neg e] at hf
        rw [← hf]
        rw [show (a != 0)=true by simp [e]] at d
        repeat (first|((first|refine Bd rfl (by simp only [tys]) ?_|refine Bc rfl (by simp only [tys]) ?_); apply Exists.intro; apply And.intro; (focus (simp -dsimp only [simx,zzC,zzB,tys,ite_self,A8,A2,Ax,Aq,Ao,At,Az,Ac,A5,PV.sk,Ai,Ar,As,Ap,Ay,Ab,Aj,Am,A9,Value.oneCell',Ah,Ba,Aw,A4,A1,Al,An,Ae,Ak,isZ,A6,A3,Ad,Aa,Ag,A0,Af,↓reduceIte,reduceSub,reduceEqDiff,reduceAdd,reduceMul,reduceLT,reduceLeDiff,reduceToNat,reduceLE,Int.reduceLT,reduceNeg,reduceCtorEq,zzL,if_true,if_false] <;> rfl)); apply Exists.intro; apply And.intro; (focus (first|exact d)))|(refine Fv rfl ?_; apply Exists.intro; apply And.intro; (focus (simp -dsimp only [simx,zzC,zzB,tys,ite_self,A8,A2,Ax,Aq,Ao,At,Az,Ac,A5,PV.sk,Ai,Ar,As,Ap,Ay,Ab,Aj,Am,A9,Value.oneCell',Ah,Ba,Aw,A4,A1,Al,An,Ae,Ak,isZ,A6,A3,Ad,Aa,Ag,A0,Af,↓reduceIte,reduceSub,reduceEqDiff,reduceAdd,reduceMul,reduceLT,reduceLeDiff,reduceToNat,reduceLE,Int.reduceLT,reduceNeg,reduceCtorEq,zzL,if_true,if_false] <;> rfl)); apply And.intro; (focus (first|simp only [tys]|exact such_enter _)); apply Exists.intro; apply And.intro; (focus (simp -dsimp only [simx,zzC,zzB,tys,ite_self,A8,A2,Ax,Aq,Ao,At,Az,Ac,A5,PV.sk,Ai,Ar,As,Ap,Ay,Ab,Aj,Am,A9,Value.oneCell',Ah,Ba,Aw,A4,A1,Al,An,Ae,Ak,isZ,A6,A3,Ad,Aa,Ag,A0,Af,↓reduceIte,reduceSub,reduceEqDiff,reduceAdd,reduceMul,reduceLT,reduceLeDiff,reduceToNat,reduceLE,Int.reduceLT,reduceNeg,reduceCtorEq,zzL,if_true,if_false] <;> rfl)); apply Exists.intro; apply And.intro; (focus (first|exact d)))|refine Bg rfl ?_|refine Bb rfl ?_|refine ⟨(dxX (by kernel_rfl)),?_⟩|exact (dxX (by kernel_rfl))|simp -dsimp (maxSteps:=20000000) (disch:=omega) only [simx,zzC,zzB,tys,ite_self,A8,A2,Ax,Aq,Ao,At,Az,Ac,A5,PV.sk,Ai,Ar,As,Ap,Ay,Ab,Aj,Am,A9,Value.oneCell',Ah,Ba,Aw,A4,A1,Al,An,Ae,Ak,isZ,A6,A3,Ad,Aa,Ag,A0,Af,↓reduceIte,reduceSub,reduceEqDiff,reduceAdd,reduceMul,reduceLT,reduceLeDiff,reduceToNat,reduceLE,Int.reduceLT,reduceNeg,reduceCtorEq,zzR,gos,Int.reduceAdd,Int.reduceSub,Int.reduceMul,reduceEq,c,g1])
    · have hj:j=l.length:=by omega
      subst hj
      rw [List.drop_length,nzA] at hf
      rw [← hf]
      repeat (first|refine Bg rfl ?_|refine Bb rfl ?_|refine ⟨(dxX (by kernel_rfl)),?_⟩|exact (dxX (by kernel_rfl))|simp -dsimp (maxSteps:=20000000) (disch:=omega) only [simx,zzC,zzB,tys,ite_self,A8,A2,Ax,Aq,Ao,At,Az,Ac,A5,PV.sk,Ai,Ar,As,Ap,Ay,Ab,Aj,Am,A9,Value.oneCell',Ah,Ba,Aw,A4,A1,Al,An,Ae,Ak,isZ,A6,A3,Ad,Aa,Ag,A0,Af,↓reduceIte,reduceSub,reduceEqDiff,reduceAdd,reduceMul,reduceLT,reduceLeDiff,reduceToNat,reduceLE,Int.reduceLT,reduceNeg,reduceCtorEq,zzR,gos,Int.reduceAdd,Int.reduceSub,Int.reduceMul,reduceEq])
end Go.Proofs.Ythnfphgjfpcpbaa.TM
namespace Go.Proofs.Ythnfphgjfpcpbaa.TM
open Go Go.RowKit
def D7 (p a:Int):Int:=match (List.range p.toNat).find? (fun x:Nat => a * (x:Int) % p == 1) with
  | some x => (x:Int)
  | none => 0
theorem Tt (p a:Int):finv p a=D7 p a:=by
  unfold D7
  cases h:(List.range p.toNat).find? (fun x:Nat => a * (x:Int) % p == 1) with
  | some x =>
    have h1:=List.find?_some h
    have h2:=List.mem_range.1 (List.mem_of_find?_eq_some h)
    show finv p a=(x:Int)
    exact Iq ⟨by omega,by omega⟩ (by simpa using h1)
  | none =>
    have h1:=List.find?_eq_none.1 h
    unfold finv
    rw [dif_neg]
    · rintro ⟨x,hx,hm⟩
      have h0:=hx.1
      have h2:=hx.2
      have:=h1 x.toNat (List.mem_range.2 (by omega))
      rw [show ((x.toNat:Nat):Int)=x by have:=hx.1; omega,hm] at this
      simp at this
theorem Ir {p a:Int} (hp2:2 ≤ p) (hp:p < 9223372036854775808) (ha:In p a) (h:Int.gcd p a=1):In p (D7 p a) ∧ a * D7 p a % p=1:=by
  rw [← Tt]; exact Bb5 hp2 hp ha h
structure Tk where
  rows:List Int
  cols:List Int
  cs:List (List Int)
  us:List (List Int)
  vs:List Int
def elR (p:Int) (T:Tk) (row:List Int):Nat → List Int
  | 0 => row
  | k + 1 => Nv p ((elR p T row k).getD (T.cols.getD k 0).toNat 0 * T.vs.getD k 0 % p) (elR p T row k) (T.us.getD k [])
def elX (p:Int) (T:Tk) (row:List Int) (k:Nat):Int:=(elR p T row k).getD (T.cols.getD k 0).toNat 0 * T.vs.getD k 0 % p
theorem Kf (p:Int) (T:Tk) (row:List Int) (k:Nat):elR p T row (k + 1)=Nv p (elX p T row k) (elR p T row k) (T.us.getD k []):=rfl
theorem Gt (p:Int) (T:Tk) (row:List Int):∀ k,(elR p T row k).length=row.length
  | 0 => rfl
  | k + 1 => by rw [Kf,Ag4,Gt p T row k]
theorem M9 {p:Int} (hp:Md p) (T:Tk) {row:List Int} (h:∀ a ∈ row,In p a):∀ k,∀ a ∈ elR p T row k,In p a
  | 0 => h
  | k + 1 => by rw [Kf]; exact As1 hp _ _ _
theorem Yj {p:Int} (hp:Md p) (T:Tk) (row:List Int) (k:Nat):In p (elX p T row k):=Dl hp _
def Eb (p:Int) (T:Tk) (row:List Int):List Int:=elR p T row T.us.length
def xsT (p:Int) (T:Tk) (row:List Int):List Int:=tbl T.us.length (elX p T row)
def Cz (p:Int) (T:Tk) (i:Int) (row:List Int):Tk :=
  if nzA (Eb p T row) 0 < 0 then { T with cs:=T.cs ++ [xsT p T row] } else
  { rows:=T.rows ++ [i],cols:=T.cols ++ [nzA (Eb p T row) 0],cs:=T.cs ++ [xsT p T row ++ [1]],us:=T.us ++ [Eb p T row],vs:=T.vs ++ [D7 p ((Eb p T row).getD (nzA (Eb p T row) 0).toNat 0)] }
def tkN (p:Int) (C:Nat) (l:List Int):Nat → Tk
  | 0 => ⟨[],[],[],[],[]⟩
  | i + 1 => Cz p (tkN p C l i) i (Df C l i)
structure TkI (p:Int) (C i:Nat) (T:Tk):Prop where
  rl:T.rows.length=T.us.length
  ql:T.cols.length=T.us.length
  vl:T.vs.length=T.us.length
  cl:T.cs.length=i
  ri:T.us.length ≤ i
  rb:∀ a ∈ T.rows,0 ≤ a ∧ a < i
  qb:∀ a ∈ T.cols,0 ≤ a ∧ a < C
  ul:∀ u ∈ T.us,u.length=C ∧ ∀ a ∈ u,In p a
  vb:∀ a ∈ T.vs,In p a
  cb:∀ c ∈ T.cs,c.length ≤ T.us.length ∧ ∀ a ∈ c,In p a
theorem TkI.zero (p:Int) (C:Nat):TkI p C 0 ⟨[],[],[],[],[]⟩:=⟨rfl,rfl,rfl,rfl,Nat.le_refl _,by simp,by simp,by simp,by simp,by simp⟩
theorem Gf:∀ (l:List Int) (k:Nat),(nzA l k=-1 ∧ ∀ a ∈ l,a=0) ∨ ∃ n:Nat,nzA l k=((k + n:Nat):Int) ∧ n < l.length ∧ l.getD n 0 ≠ 0 ∧ ∀ j,j < n → l.getD j 0=0
  | [],k => .inl ⟨rfl,by simp⟩
  | a::l,k => by
    by_cases h:a=0
    · rcases Gf l (k + 1) with ⟨h1,h2⟩|⟨n,h1,h2,h3,h4⟩
      · left; rw [nzA,if_pos h]; exact ⟨h1,by intro b hb; rcases List.mem_cons.1 hb with rfl|hb; exact h; exact h2 b hb⟩
      · right
        refine ⟨n + 1,by rw [nzA,if_pos h,h1]; congr 1; omega,by simpa using h2,by simpa using h3,?_⟩
        intro j hj
        cases j with
        | zero => simpa using h
        | succ j => simpa using h4 j (by omega)
    · right
      exact ⟨0,by rw [nzA,if_neg h]; rfl,by simp,by simpa using h,by intro j hj; omega⟩
end Go.Proofs.Ythnfphgjfpcpbaa.TM
namespace Go.Proofs.Ythnfphgjfpcpbaa.TM
open Go
theorem Iw {P : Program} {base : Name} {f : FuncId} {fn : Func} {c : Code} {args : List PV} {h : Heap} {v : PV} {Φ : Heap → Prop} {n m : Nat} {rs : List ResultVar} (hf : P.funcs[f]? = some fn) (hb : fn.body = some c) (hn : fn.ntmps = n) (hrs : fn.results.toList = rs) (hm : args.length = m) (hmn : m ≤ n)
    (hw:K P (CallR P) h base (LkQ (fun e t hh => (e=.normal ∨ e=.ret) ∧ U1 P rs t hh=some v ∧ Φ hh) .mk) [.lk c .mk] .normal (toL n (K5 args)) h):∃ h',CallR P base f args h v h' ∧ Φ h':=by
  obtain ⟨e,t',h',⟨he,hr,hp⟩,hw'⟩:=Ab2 c _ _ (show W P (CallR P) h base c (toL n (K5 args)) h _ from hw)
  refine ⟨h',CallR.startF (v:=v) hf hb hn hrs hm hmn ?_,hp⟩
  show W P (CallR P) h base c (toL n (K5 args)) h _
  refine F7 (fun _ _ _ _ _ _ h => h) c _ _ (fun e2 t2 h2 hh => ?_) hw'
  obtain ⟨rfl,rfl,rfl⟩:=hh
  exact ⟨he,hr,rfl⟩
end Go.Proofs.Ythnfphgjfpcpbaa.TM
namespace Go.Proofs.Ythnfphgjfpcpbaa.TM
open Go Go.RowKit
attribute [local irreducible] K W Dg Effs Xg Xo Xr Xdg Xdo Xdr Xif CallsP CallR
def Hk (s:Name) (n:Nat):PV:=if n=0 then Dk else .view s 0 1 n n
def Jm (n:Nat) (L:List PV):Option Box:=if n=0 then none else some (.var L)
theorem Sg (s:Name):Hk s 0=Dk:=rfl
theorem B0 (s:Name) (n:Nat):Hk s (n + 1)=.view s 0 1 (n + 1) (n + 1):=rfl
theorem El {b s:Name} {n:Nat}:b ∈ Bn (Hk s n) ↔ n ≠ 0 ∧ b=s:=by
  unfold Hk
  by_cases h:n=0
  · simp [h,Bn]
  · simp [h,Bn]
theorem Ix {P : Program} {C : B9} {h h0 : Heap} {base : Name} {Qf : Ex → List PV → Heap → Prop} {k : List It} {t : List PV} {R : It} {d : Option Tmp} {s b : Name} {ty : TypeId} (e : TypeId) (zs : List Value) {n : Nat} {L : List PV} {v : PV} {s' : Name}
    (he:Bw P ty=some e) (hz:B6 P e=some zs) (hzl:zs.length=1) (hn:L.length=n) (hs:h s=Jm n L) (hb:h b=some (.var [v]))
    (hby:(n + 1) * P.bytesOf e ≤ 140737488355328) (hl:n + 1 ≤ maxLen) (hss:n=0 → s'=s)
    (hk:K P C h0 base Qf (R::k) .normal (Cx t d (Hk s (n + 1))) (h.put s (.var (L ++ [v])))) :
    Xr P C h0 base Qf (Il P h s' ty (Hk s n) (.view b 0 1 1 1)) d R k t h:=by
  refine Ab0 (out:=⟨Hk s (n + 1),[(s,.var (L ++ [v]))]⟩) ?_ hk
  unfold Il
  rw [he]
  simp only [hz,hzl,hb]
  rw [if_pos (by simp)]
  unfold Hk Jm at *
  by_cases h0:n=0
  · subst h0
    rw [if_pos rfl] at hs
    have:=List.eq_nil_of_length_eq_zero hn
    subst this
    have:=hss rfl
    subst this
    simp only [if_true,Dk]
    rw [if_pos (by rw [B3]; simpa using hby)]
    simp [Ec,hs]
  · rw [if_neg h0] at hs ⊢
    simp only [hs]
    rw [if_pos (by simp [hn]; exact ⟨hby,hl⟩)]
    simp [hn]
theorem D0 {P : Program} {C : B9} {h0 : Heap} {base : Name} {Qf : Ex → List PV → Heap → Prop} {k : List It} {t : List PV} {h : Heap} {d : Option Tmp} {p : Op} {nm : Name} {id : Nat} {ops : Array Oper} {ds : List (Option Tmp)} {i : Nat} {os : List Oper} {pf : XPf ops ds i os} {acc : List Keys} {s b bx : Name} {ty : TypeId} (e : TypeId) (zs : List Value) {n z top : Nat} {cs : List IV} (xs : List IV) {fz : Bool}
    (he:Bw P ty=some e) (hz:B6 P e=some zs) (hzl:zs.length=z) (hz0:0 < z) (hb:h b=some (.row false cs)) (ht:top=cs.length) (hn:cs.length=n * z) (hx:h bx=some (.row fz xs)) (hxl:xs.length=z)
    (hby:(n + 1) * P.bytesOf e ≤ 140737488355328) (hl:n + 1 ≤ maxLen)
    (hk:K P C h0 base Qf (.xdops id ops ds i os pf ((Et [(b,Box.row false (cs ++ xs))],J9 nm p ((A8 p).map (St.opnd t)))::acc)::k) .normal (Cx t d (.view b 0 z (n + 1) (cs ++ xs).length)) (h.put b (.row false (cs ++ xs)))) :
    Xdr P C h0 base Qf (Do P h s ty (.view b 0 z n top) (.view bx 0 z 1 z)) d p nm (mkD id ops ds i os pf) acc k t h:=by
  subst ht
  subst hzl
  refine Yy (out:=⟨.view b 0 zs.length (n + 1) (cs ++ xs).length,[(b,.row false (cs ++ xs))]⟩) ?_ hk
  unfold Do
  rw [he]
  simp only [hz]
  simp only [show (PV.view b 0 zs.length n cs.length).sk=some (SK.own b 0 zs.length n cs.length) from rfl,show (PV.view bx 0 zs.length 1 zs.length).sk=some (SK.own bx 0 zs.length 1 zs.length) from rfl,SK.cells,SK.len,hx,hxl,Nat.zero_add,Nat.one_mul,Nat.le_refl,and_self,if_true,List.drop_zero]
  rw [← hxl,List.take_length,if_pos ⟨hxl ▸ hz0,hby,hl⟩,if_neg (by omega),hb]
  simp only [hxl,hn,and_self,if_true,true_and]
abbrev lv (C:Nat) (u:List Int):IV:=.l C (u.map iu)
def Qy (h:Heap) (base bT:Name) (P C i:Nat) (L:List PV) (T T':Tk) (r:Nat):Heap :=
  C9 (C9 (C9 (C9 (C9 ((h.put ((3,2)::bT) (.var [rowP ((16,11)::base) 1 r (T'.rows.map ii),rowP ((16,19)::base) 1 r (T'.cols.map ii),Hk ((10,8)::base) (i + 1),rowP ((16,27)::base) 1 r (T'.us.map (lv C)),u64 P,rowP ((16,34)::base) 1 r (T'.vs.map iu)])).put ((10,8)::base) (.var (L ++ [rowP ((900,i)::base) 1 (T'.cs.getD i []).length ((T'.cs.getD i []).map iu)])))
    ((900,i)::base) (T'.cs.getD i []).length ((T'.cs.getD i []).map iu)) ((16,11)::base) r (T'.rows.map ii)) ((16,19)::base) r (T'.cols.map ii)) ((16,27)::base) r (T'.us.map (lv C))) ((16,34)::base) r (T'.vs.map iu)
theorem I9 {p a:Int} (hp:Md p) (h:In p a):W64 a:=⟨h.1,by have:=h.2; have:=hp.2; omega⟩
theorem Hs {P:Nat} (hP:Prm P) {a:Int} (h:In P a) (h0:a ≠ 0):Int.gcd P a=1:=by
  have:=hP.2 a.toNat (by have:=h.1; omega) (by have:=h.1; have:=h.2; omega)
  rw [Int.gcd_eq_natAbs_gcd_natAbs]
  rw [show (P:Int).natAbs=P from rfl,show a.natAbs=a.toNat by have:=h.1; omega]
  exact this
theorem Zg {P:Nat} (hP:Prm P) (hp:Md P) {a:Int} (h:In P a) (h0:a ≠ 0):CallsP Try.prog 40 [u64 P,u64 a] (.tup [u64 (D7 P a),i64 0]):=by
  obtain ⟨r,hr,hc⟩:=Ax9 P a (I9 hp h)
  rw [if_pos ((Ei _ _).2 ⟨fun x hx => by simp at hx; subst hx; exact h.2,hp.1,hp.2⟩),Ai9,if_pos (Hs hP h h0)] at hr
  subst hr
  rw [← Tt]
  exact hc
theorem Oy {p:Int} {C i:Nat} {T:Tk} (I:TkI p C i T) (row:List Int) (x:Int) (hi:x=(i:Int)) :
    (nzA (Eb p T row) 0 < 0 → (Cz p T x row).cs.getD i []=xsT p T row) ∧ (¬ nzA (Eb p T row) 0 < 0 → (Cz p T x row).cs.getD i []=xsT p T row ++ [1]):=by
  unfold Cz
  constructor
  · intro h
    rw [if_pos h]
    simp [List.getD_eq_getElem?_getD,List.getElem?_append_right,I.cl]
  · intro h
    rw [if_neg h]
    simp [List.getD_eq_getElem?_getD,List.getElem?_append_right,I.cl]
theorem Aq1 {h:Heap} {s:Name} {i:Nat} {L:List PV} {bs:List Name} (hCol:h s=Jm i L) (hL:L.length=i) (nv:∀ b ∈ bs,Dw b h):∀ b ∈ bs,b ∉ Bs L:=fun b hb => by
  unfold Jm at hCol
  split at hCol
  · rename_i h0
    have:L=[]:=List.eq_nil_of_length_eq_zero (by omega)
    subst this; simp [Bs]
  · exact nv b hb _ _ hCol
theorem Ul {p:Int} {T:Tk} {row:List Int} {x:Int} (h:nzA (Eb p T row) 0 < 0):(Cz p T x row).rows=T.rows ∧ (Cz p T x row).cols=T.cols ∧ (Cz p T x row).us=T.us ∧ (Cz p T x row).vs=T.vs:=by
  unfold Cz; rw [if_pos h]; exact ⟨rfl,rfl,rfl,rfl⟩
theorem Ov {p:Int} {T:Tk} {row:List Int} {x:Int} (h:¬ nzA (Eb p T row) 0 < 0):(Cz p T x row).rows=T.rows ++ [x] ∧ (Cz p T x row).cols=T.cols ++ [nzA (Eb p T row) 0] ∧ (Cz p T x row).us=T.us ++ [Eb p T row] ∧ (Cz p T x row).vs=T.vs ++ [D7 p ((Eb p T row).getD (nzA (Eb p T row) 0).toNat 0)]:=by
  unfold Cz; rw [if_neg h]; exact ⟨rfl,rfl,rfl,rfl⟩
set_option maxHeartbeats 4000000 in
theorem Xk {h : Heap} {base bT : Name} {P C i : Nat} {T : Tk} {row : List Int} {L : List PV} (hP : Prm P) (hp : Md P) (I : TkI P C i T) (hrow : ∀ a ∈ row, In P a) (hl : row.length = C) (h0 : 0 < C) (hC : C ≤ 64) (hi : i < 64) (hL : L.length = i) (hr : T.us.length = 0)
    (hT:h ((3,2)::bT)=some (.var [rowP ((16,11)::base) 1 0 (T.rows.map ii),rowP ((16,19)::base) 1 0 (T.cols.map ii),Hk ((10,8)::base) i,rowP ((16,27)::base) 1 0 (T.us.map (lv C)),u64 P,rowP ((16,34)::base) 1 0 (T.vs.map iu)]))
    (hR:h ((16,11)::base)=if 0=0 then none else some (.row false (T.rows.map ii))) (hQ:h ((16,19)::base)=if 0=0 then none else some (.row false (T.cols.map ii))) (hU:h ((16,27)::base)=if 0=0 then none else some (.row false (T.us.map (lv C)))) (hV:h ((16,34)::base)=if 0=0 then none else some (.row false (T.vs.map iu)))
    (hCol:h ((10,8)::base)=Jm i L) (hNi:h ((900,i)::base)=none)
    (j1:h ((1,1)::base)=none) (j2:h ((8,2)::base)=none) (j3:h ((10,7)::base)=none) (j4:h ((15,7)::base)=none) (j5:h ((16,10)::base)=none) (j6:h ((16,18)::base)=none) (j7:h ((16,26)::base)=none) (j8:h ((16,33)::base)=none)
    (nv:∀ b ∈ [(1,1)::base,(8,2)::base,(10,7)::base,(15,7)::base,(16,10)::base,(16,18)::base,(16,26)::base,(16,33)::base],Dw b h) :
    ∃ h',CallR Try.prog base 85 [.ref ((3,2)::bT) 0 6,i64 i,.i (.l C (row.map iu))] h (bl true) h' ∧ (h'.drop [(1,1)::base,(8,2)::base,(10,7)::base,(15,7)::base,(16,10)::base,(16,18)::base,(16,26)::base,(16,33)::base]=Qy h base bT P C i L T (Cz P T i row) (Cz P T i row).us.length ∧ ∀ b ∈ [(1,1)::base,(8,2)::base,(10,7)::base,(15,7)::base,(16,10)::base,(16,18)::base,(16,26)::base,(16,33)::base],Dw b h'):=by
  have nvL:=Aq1 hCol hL nv
  have dc:=(Ln hl h0 (by omega)).toA
  have rl:(Eb P T row)=row:=by unfold Eb; rw [hr]; rfl
  have x0:xsT P T row=[]:=by unfold xsT; rw [hr]; rfl
  have hix:=Ny (l:=row) (by rw [B3]; omega)
  rw [lu,hl] at hix
  have hrows:T.rows=[]:=List.eq_nil_of_length_eq_zero (by rw [I.rl,hr])
  have hcols:T.cols=[]:=List.eq_nil_of_length_eq_zero (by rw [I.ql,hr])
  have hvs:T.vs=[]:=List.eq_nil_of_length_eq_zero (by rw [I.vl,hr])
  have hus:T.us=[]:=List.eq_nil_of_length_eq_zero hr
  obtain ⟨te1,te2⟩:=Oy I row (i:Int) rfl
  rw [rl,x0] at te1 te2
  rw [if_pos rfl] at hR hQ hU hV
  rcases Gf row 0 with ⟨z1,z2⟩|⟨n,z1,z2,z3,z4⟩
  · rw [z1] at hix
    have te:=te1 (by rw [z1]; decide)
    obtain ⟨t1,t2,t3,t4⟩:=Ul (p:=P) (T:=T) (row:=row) (x:=i) (by rw [rl,z1]; decide)
    unfold Qy
    rw [te,t1,t2,t3,t4,hr]
    refine Iw (n:=151) (m:=3) (rs:=[.tmp 6]) Try.func85 rfl rfl rfl rfl (by decide) ?_
    repeat (first|refine Bg rfl ?_|refine Bb rfl ?_|refine ⟨(dxX (by kernel_rfl)),?_⟩|exact (dxX (by kernel_rfl))|simp -dsimp (maxSteps:=20000000) (disch:=omega) only [simx,zzC,zzB,tys,ite_self,A8,A2,Ax,Aq,Ao,At,Az,Ac,A5,PV.sk,Ai,Ar,As,Ap,Ay,Ab,Aj,Am,A9,Value.oneCell',Ah,Ba,Aw,A4,A1,Al,An,Ae,Ak,isZ,A6,A3,Ad,Aa,Ag,A0,Af,↓reduceIte,reduceSub,reduceEqDiff,reduceAdd,reduceMul,reduceLT,reduceLeDiff,reduceToNat,reduceLE,Int.reduceLT,reduceNeg,reduceCtorEq,gos,Int.reduceAdd,Int.reduceSub,Int.reduceMul,reduceEq])
    ((first|refine K1 (dc) rfl (by simp only [tys]) (by (simp -dsimp only [simx,zzC,zzB,tys,ite_self,A8,A2,Ax,Aq,Ao,At,Az,Ac,A5,PV.sk,Ai,Ar,As,Ap,Ay,Ab,Aj,Am,A9,Value.oneCell',Ah,Ba,Aw,A4,A1,Al,An,Ae,Ak,isZ,A6,A3,Ad,Aa,Ag,A0,Af,↓reduceIte,reduceSub,reduceEqDiff,reduceAdd,reduceMul,reduceLT,reduceLeDiff,reduceToNat,reduceLE,Int.reduceLT,reduceNeg,reduceCtorEq,zzL,if_true,if_false] <;> rfl)) (by simp [Heap.put_at,Heap.none_at,Bh,j1]) ?_|refine Jp (dc) rfl (by simp only [tys]) (by (simp -dsimp only [simx,zzC,zzB,tys,ite_self,A8,A2,Ax,Aq,Ao,At,Az,Ac,A5,PV.sk,Ai,Ar,As,Ap,Ay,Ab,Aj,Am,A9,Value.oneCell',Ah,Ba,Aw,A4,A1,Al,An,Ae,Ak,isZ,A6,A3,Ad,Aa,Ag,A0,Af,↓reduceIte,reduceSub,reduceEqDiff,reduceAdd,reduceMul,reduceLT,reduceLeDiff,reduceToNat,reduceLE,Int.reduceLT,reduceNeg,reduceCtorEq,zzL,if_true,if_false] <;> rfl)) (by simp [Heap.put_at,Heap.none_at,Bh,j1]) ?_))
    repeat (first|refine Bg rfl ?_|refine Bb rfl ?_|refine ⟨(dxX (by kernel_rfl)),?_⟩|exact (dxX (by kernel_rfl))|simp -dsimp (maxSteps:=20000000) (disch:=omega) only [simx,zzC,zzB,tys,ite_self,A8,A2,Ax,Aq,Ao,At,Az,Ac,A5,PV.sk,Ai,Ar,As,Ap,Ay,Ab,Aj,Am,A9,Value.oneCell',Ah,Ba,Aw,A4,A1,Al,An,Ae,Ak,isZ,A6,A3,Ad,Aa,Ag,A0,Af,↓reduceIte,reduceSub,reduceEqDiff,reduceAdd,reduceMul,reduceLT,reduceLeDiff,reduceToNat,reduceLE,Int.reduceLT,reduceNeg,reduceCtorEq,gos,Int.reduceAdd,Int.reduceSub,Int.reduceMul,reduceEq,hT,Bk])
    refine B5 [0,1,7,8,22,23,24] [(8,2)::base] (0) (0) (fun j => True) (fun j => [(8,Dk),(24,i64 j)]) (fun j => h.put ((1,1)::base) (.row false (row.map iu))) ?_ ?_ ?_ ?_ ?_ (by decide) ?_
    · exact Bv j2 (by simp -dsimp only [simx,zzC,zzB,tys,ite_self,A8,Bm,Bo] <;> simp [Bn]) (Bp (nv _ (by simp))) Bl
    · repeat (first|refine Bg rfl ?_|refine Bb rfl ?_|refine ⟨(dxX (by kernel_rfl)),?_⟩|exact (dxX (by kernel_rfl))|simp -dsimp (maxSteps:=20000000) (disch:=omega) only [simx,zzC,zzB,tys,ite_self,A8,A2,Ax,Aq,Ao,At,Az,Ac,A5,PV.sk,Ai,Ar,As,Ap,Ay,Ab,Aj,Am,A9,Value.oneCell',Ah,Ba,Aw,A4,A1,Al,An,Ae,Ak,isZ,A6,A3,Ad,Aa,Ag,A0,Af,↓reduceIte,reduceSub,reduceEqDiff,reduceAdd,reduceMul,reduceLT,reduceLeDiff,reduceToNat,reduceLE,Int.reduceLT,reduceNeg,reduceCtorEq,gos,Int.reduceAdd,Int.reduceSub,Int.reduceMul,reduceEq])
      rfl
    · funext c
      rw [Heap.drop_at]
      split
      · rename_i e
        rw [List.mem_singleton.1 e]
        simp [Heap.put_at,j2]
      · rfl
    · omega
    · trivial
    · intro j hj _
      have:j=0:=by omega
      subst this
      repeat (first|refine ⟨(dxX (by kernel_rfl)),?_⟩|exact (dxX (by kernel_rfl))|simp -dsimp (maxSteps:=20000000) (disch:=omega) only [simx,zzC,zzB,tys,ite_self,A8,A2,Ax,Aq,Ao,At,Az,Ac,A5,PV.sk,Ai,Ar,As,Ap,Ay,Ab,Aj,Am,A9,Value.oneCell',Ah,Ba,Aw,A4,A1,Al,An,Ae,Ak,isZ,A6,A3,Ad,Aa,Ag,A0,Af,↓reduceIte,reduceSub,reduceEqDiff,reduceAdd,reduceMul,reduceLT,reduceLeDiff,reduceToNat,reduceLE,Int.reduceLT,reduceNeg,reduceCtorEq,gos,Int.reduceAdd,Int.reduceSub,Int.reduceMul,reduceEq,hT])
      refine K6 ((10,7)::base) rfl ?_
      repeat (first|refine ⟨(dxX (by kernel_rfl)),?_⟩|exact (dxX (by kernel_rfl))|simp -dsimp (maxSteps:=20000000) (disch:=omega) only [simx,zzC,zzB,tys,ite_self,A8,A2,Ax,Aq,Ao,At,Az,Ac,A5,PV.sk,Ai,Ar,As,Ap,Ay,Ab,Aj,Am,A9,Value.oneCell',Ah,Ba,Aw,A4,A1,Al,An,Ae,Ak,isZ,A6,A3,Ad,Aa,Ag,A0,Af,↓reduceIte,reduceSub,reduceEqDiff,reduceAdd,reduceMul,reduceLT,reduceLeDiff,reduceToNat,reduceLE,Int.reduceLT,reduceNeg,reduceCtorEq,gos,Int.reduceAdd,Int.reduceSub,Int.reduceMul,reduceEq,Es,Dy,j3])
      refine K6 ((10,8)::base) rfl ?_
      repeat (first|refine ⟨(dxX (by kernel_rfl)),?_⟩|exact (dxX (by kernel_rfl))|simp -dsimp (maxSteps:=20000000) (disch:=omega) only [simx,zzC,zzB,tys,ite_self,A8,A2,Ax,Aq,Ao,At,Az,Ac,A5,PV.sk,Ai,Ar,As,Ap,Ay,Ab,Aj,Am,A9,Value.oneCell',Ah,Ba,Aw,A4,A1,Al,An,Ae,Ak,isZ,A6,A3,Ad,Aa,Ag,A0,Af,↓reduceIte,reduceSub,reduceEqDiff,reduceAdd,reduceMul,reduceLT,reduceLeDiff,reduceToNat,reduceLE,Int.reduceLT,reduceNeg,reduceCtorEq,gos,Int.reduceAdd,Int.reduceSub,Int.reduceMul,reduceEq,Es])
      refine Ix 23 [.slice none 0 0] (by simp only [tys]) (by simp only [tys]) rfl hL (by simp [Heap.put_at]; exact hCol) (by simp [Heap.put_at]; rfl) (by simp only [tys]; omega) (by rw [B3]; omega) (fun _ => rfl) ?_
      have hp1:=B0 ((10,8)::base) i
      have z0:(-1:Int) < 0:=by decide
      have nt:(row.map iu).take C=row.map iu:=List.take_of_length_le (by simp [hl])
      repeat (first|((first|refine Bd rfl (by simp only [tys]) ?_|refine Bc rfl (by simp only [tys]) ?_); apply Exists.intro; apply And.intro; (focus (simp -dsimp only [simx,zzC,zzB,tys,ite_self,A8,A2,Ax,Aq,Ao,At,Az,Ac,A5,PV.sk,Ai,Ar,As,Ap,Ay,Ab,Aj,Am,A9,Value.oneCell',Ah,Ba,Aw,A4,A1,Al,An,Ae,Ak,isZ,A6,A3,Ad,Aa,Ag,A0,Af,↓reduceIte,reduceSub,reduceEqDiff,reduceAdd,reduceMul,reduceLT,reduceLeDiff,reduceToNat,reduceLE,Int.reduceLT,reduceNeg,reduceCtorEq,zzL,if_true,if_false,List.length_map,hl,nt] <;> rfl)); apply Exists.intro; apply And.intro; (focus (first|exact hix)))|refine Bg rfl ?_|refine Bb rfl ?_|refine ⟨(dxX (by kernel_rfl)),?_⟩|exact (dxX (by kernel_rfl))|simp -dsimp (maxSteps:=20000000) (disch:=omega) only [simx,zzC,zzB,tys,ite_self,A8,A2,Ax,Aq,Ao,At,Az,Ac,A5,PV.sk,Ai,Ar,As,Ap,Ay,Ab,Aj,Am,A9,Value.oneCell',Ah,Ba,Aw,A4,A1,Al,An,Ae,Ak,isZ,A6,A3,Ad,Aa,Ag,A0,Af,↓reduceIte,reduceSub,reduceEqDiff,reduceAdd,reduceMul,reduceLT,reduceLeDiff,reduceToNat,reduceLE,Int.reduceLT,reduceNeg,reduceCtorEq,zzR,gos,Int.reduceAdd,Int.reduceSub,Int.reduceMul,reduceEq,hT,hp1,z0,List.length_map,hl,nt])
      refine ⟨?_,fun b hb => ?_⟩
      · funext c
        simp (maxSteps:=20000000) only [Heap.drop_at,Bh,Heap.put_at,Heap.none_at,List.mem_cons,List.not_mem_nil,or_false]
        by_cases e0:c=(3,2)::bT
        · subst e0; simp [j1,j2,j3,j4,j5,j6,j7,j8,Bk]
        by_cases e1:c=(10,8)::base
        · subst e1; simp [j1,j2,j3,j4,j5,j6,j7,j8,Bk]
        by_cases e2:c=(1,1)::base
        · subst e2; simp [j1,j2,j3,j4,j5,j6,j7,j8,Bk]
        by_cases e3:c=(8,2)::base
        · subst e3; simp [j1,j2,j3,j4,j5,j6,j7,j8,Bk]
        by_cases e4:c=(10,7)::base
        · subst e4; simp [j1,j2,j3,j4,j5,j6,j7,j8,Bk]
        by_cases e5:c=(15,7)::base
        · subst e5; simp [j1,j2,j3,j4,j5,j6,j7,j8,Bk]
        by_cases e6:c=(16,10)::base
        · subst e6; simp [j1,j2,j3,j4,j5,j6,j7,j8,Bk]
        by_cases e7:c=(16,18)::base
        · subst e7; simp [j1,j2,j3,j4,j5,j6,j7,j8,Bk]
        by_cases e8:c=(16,26)::base
        · subst e8; simp [j1,j2,j3,j4,j5,j6,j7,j8,Bk]
        by_cases e9:c=(16,33)::base
        · subst e9; simp [j1,j2,j3,j4,j5,j6,j7,j8,Bk]
        simp [e0,e1,e2,e3,e4,e5,e6,e7,e8,e9,j1,j2,j3,j4,j5,j6,j7,j8,Bk]
      · have n0:=nv b hb
        have n1:=nvL b hb
        clear nv nvL
        simp only [List.mem_cons,List.not_mem_nil,or_false] at hb
        rcases hb with rfl|rfl|rfl|rfl|rfl|rfl|rfl|rfl
        all_goals (repeat (first|exact n0|refine Bp ?_|refine Bu ?_ (by simp [Bs,Bn,D9,Be,El,n1])))
  · have zn:(0 + n:Nat)=n:=by omega
    rw [z1,zn] at hix
    have te:=te2 (by rw [z1]; omega)
    obtain ⟨t1,t2,t3,t4⟩:=Ov (p:=P) (T:=T) (row:=row) (x:=i) (by rw [rl,z1]; omega)
    generalize hHH:Qy h base bT P C i L T (Cz P T i row) (Cz P T i row).us.length=HH
    unfold Qy at hHH
    rw [te,t1,t2,t3,t4,rl,z1,zn,show (T.us ++ [row]).length=0 + 1 by simp [hr],Int.toNat_natCast] at hHH
    have ln:(row.map iu)[n]?=some (iu (row.getD n 0)):=by rw [List.getElem?_map,getD_some hl (by omega)]; rfl
    have ii1:=Zg hP hp (Ce hrow (i:=n) z2) z3
    generalize row.getD n 0=a at ln ii1 hHH
    have z0:¬ (n:Int) < 0:=by omega
    have nC:n < C:=by omega
    have nt:(row.map iu).take C=row.map iu:=List.take_of_length_le (by simp [hl])
    have hp1:=B0 ((10,8)::base) i
    have ilt:i < i + 1:=Nat.lt_succ_self i
    have ile:i + 1 ≤ i + 1:=Nat.le_refl _
    have lt:∀ x:PV,(L ++ [x]).take i=L:=fun x => List.take_left' hL
    have ld:∀ x:PV,(L ++ [x]).drop (i + 1)=[]:=fun x => List.drop_eq_nil_of_le (by simp [hL])
    refine Iw (n:=151) (m:=3) (rs:=[.tmp 6]) Try.func85 rfl rfl rfl rfl (by decide) ?_
    repeat (first|refine Bg rfl ?_|refine Bb rfl ?_|refine ⟨(dxX (by kernel_rfl)),?_⟩|exact (dxX (by kernel_rfl))|simp -dsimp (maxSteps:=20000000) (disch:=omega) only [simx,zzC,zzB,tys,ite_self,A8,A2,Ax,Aq,Ao,At,Az,Ac,A5,PV.sk,Ai,Ar,As,Ap,Ay,Ab,Aj,Am,A9,Value.oneCell',Ah,Ba,Aw,A4,A1,Al,An,Ae,Ak,isZ,A6,A3,Ad,Aa,Ag,A0,Af,↓reduceIte,reduceSub,reduceEqDiff,reduceAdd,reduceMul,reduceLT,reduceLeDiff,reduceToNat,reduceLE,Int.reduceLT,reduceNeg,reduceCtorEq,gos,Int.reduceAdd,Int.reduceSub,Int.reduceMul,reduceEq])
    ((first|refine K1 (dc) rfl (by simp only [tys]) (by (simp -dsimp only [simx,zzC,zzB,tys,ite_self,A8,A2,Ax,Aq,Ao,At,Az,Ac,A5,PV.sk,Ai,Ar,As,Ap,Ay,Ab,Aj,Am,A9,Value.oneCell',Ah,Ba,Aw,A4,A1,Al,An,Ae,Ak,isZ,A6,A3,Ad,Aa,Ag,A0,Af,↓reduceIte,reduceSub,reduceEqDiff,reduceAdd,reduceMul,reduceLT,reduceLeDiff,reduceToNat,reduceLE,Int.reduceLT,reduceNeg,reduceCtorEq,zzL,if_true,if_false] <;> rfl)) (by simp [Heap.put_at,Heap.none_at,Bh,j1]) ?_|refine Jp (dc) rfl (by simp only [tys]) (by (simp -dsimp only [simx,zzC,zzB,tys,ite_self,A8,A2,Ax,Aq,Ao,At,Az,Ac,A5,PV.sk,Ai,Ar,As,Ap,Ay,Ab,Aj,Am,A9,Value.oneCell',Ah,Ba,Aw,A4,A1,Al,An,Ae,Ak,isZ,A6,A3,Ad,Aa,Ag,A0,Af,↓reduceIte,reduceSub,reduceEqDiff,reduceAdd,reduceMul,reduceLT,reduceLeDiff,reduceToNat,reduceLE,Int.reduceLT,reduceNeg,reduceCtorEq,zzL,if_true,if_false] <;> rfl)) (by simp [Heap.put_at,Heap.none_at,Bh,j1]) ?_))
    repeat (first|refine Bg rfl ?_|refine Bb rfl ?_|refine ⟨(dxX (by kernel_rfl)),?_⟩|exact (dxX (by kernel_rfl))|simp -dsimp (maxSteps:=20000000) (disch:=omega) only [simx,zzC,zzB,tys,ite_self,A8,A2,Ax,Aq,Ao,At,Az,Ac,A5,PV.sk,Ai,Ar,As,Ap,Ay,Ab,Aj,Am,A9,Value.oneCell',Ah,Ba,Aw,A4,A1,Al,An,Ae,Ak,isZ,A6,A3,Ad,Aa,Ag,A0,Af,↓reduceIte,reduceSub,reduceEqDiff,reduceAdd,reduceMul,reduceLT,reduceLeDiff,reduceToNat,reduceLE,Int.reduceLT,reduceNeg,reduceCtorEq,gos,Int.reduceAdd,Int.reduceSub,Int.reduceMul,reduceEq,hT,Bk])
    refine B5 [0,1,7,8,22,23,24] [(8,2)::base] (0) (0) (fun j => True) (fun j => [(8,Dk),(24,i64 j)]) (fun j => h.put ((1,1)::base) (.row false (row.map iu))) ?_ ?_ ?_ ?_ ?_ (by decide) ?_
    · exact Bv j2 (by simp -dsimp only [simx,zzC,zzB,tys,ite_self,A8,Bm,Bo] <;> simp [Bn]) (Bp (nv _ (by simp))) Bl
    · repeat (first|refine Bg rfl ?_|refine Bb rfl ?_|refine ⟨(dxX (by kernel_rfl)),?_⟩|exact (dxX (by kernel_rfl))|simp -dsimp (maxSteps:=20000000) (disch:=omega) only [simx,zzC,zzB,tys,ite_self,A8,A2,Ax,Aq,Ao,At,Az,Ac,A5,PV.sk,Ai,Ar,As,Ap,Ay,Ab,Aj,Am,A9,Value.oneCell',Ah,Ba,Aw,A4,A1,Al,An,Ae,Ak,isZ,A6,A3,Ad,Aa,Ag,A0,Af,↓reduceIte,reduceSub,reduceEqDiff,reduceAdd,reduceMul,reduceLT,reduceLeDiff,reduceToNat,reduceLE,Int.reduceLT,reduceNeg,reduceCtorEq,gos,Int.reduceAdd,Int.reduceSub,Int.reduceMul,reduceEq])
      rfl
    · funext c
      rw [Heap.drop_at]
      split
      · rename_i e
        rw [List.mem_singleton.1 e]
        simp [Heap.put_at,j2]
      · rfl
    · omega
    · trivial
    · intro j hj _
      have:j=0:=by omega
      subst this
      repeat (first|refine ⟨(dxX (by kernel_rfl)),?_⟩|exact (dxX (by kernel_rfl))|simp -dsimp (maxSteps:=20000000) (disch:=omega) only [simx,zzC,zzB,tys,ite_self,A8,A2,Ax,Aq,Ao,At,Az,Ac,A5,PV.sk,Ai,Ar,As,Ap,Ay,Ab,Aj,Am,A9,Value.oneCell',Ah,Ba,Aw,A4,A1,Al,An,Ae,Ak,isZ,A6,A3,Ad,Aa,Ag,A0,Af,↓reduceIte,reduceSub,reduceEqDiff,reduceAdd,reduceMul,reduceLT,reduceLeDiff,reduceToNat,reduceLE,Int.reduceLT,reduceNeg,reduceCtorEq,gos,Int.reduceAdd,Int.reduceSub,Int.reduceMul,reduceEq,hT])
      refine K6 ((10,7)::base) rfl ?_
      repeat (first|refine ⟨(dxX (by kernel_rfl)),?_⟩|exact (dxX (by kernel_rfl))|simp -dsimp (maxSteps:=20000000) (disch:=omega) only [simx,zzC,zzB,tys,ite_self,A8,A2,Ax,Aq,Ao,At,Az,Ac,A5,PV.sk,Ai,Ar,As,Ap,Ay,Ab,Aj,Am,A9,Value.oneCell',Ah,Ba,Aw,A4,A1,Al,An,Ae,Ak,isZ,A6,A3,Ad,Aa,Ag,A0,Af,↓reduceIte,reduceSub,reduceEqDiff,reduceAdd,reduceMul,reduceLT,reduceLeDiff,reduceToNat,reduceLE,Int.reduceLT,reduceNeg,reduceCtorEq,gos,Int.reduceAdd,Int.reduceSub,Int.reduceMul,reduceEq,Es,Dy,j3])
      refine K6 ((10,8)::base) rfl ?_
      repeat (first|refine ⟨(dxX (by kernel_rfl)),?_⟩|exact (dxX (by kernel_rfl))|simp -dsimp (maxSteps:=20000000) (disch:=omega) only [simx,zzC,zzB,tys,ite_self,A8,A2,Ax,Aq,Ao,At,Az,Ac,A5,PV.sk,Ai,Ar,As,Ap,Ay,Ab,Aj,Am,A9,Value.oneCell',Ah,Ba,Aw,A4,A1,Al,An,Ae,Ak,isZ,A6,A3,Ad,Aa,Ag,A0,Af,↓reduceIte,reduceSub,reduceEqDiff,reduceAdd,reduceMul,reduceLT,reduceLeDiff,reduceToNat,reduceLE,Int.reduceLT,reduceNeg,reduceCtorEq,gos,Int.reduceAdd,Int.reduceSub,Int.reduceMul,reduceEq,Es])
      refine Ix 23 [.slice none 0 0] (by simp only [tys]) (by simp only [tys]) rfl hL (by simp [Heap.put_at]; exact hCol) (by simp [Heap.put_at]; rfl) (by simp only [tys]; omega) (by rw [B3]; omega) (fun _ => rfl) ?_
      repeat (first|((first|refine Bd rfl (by simp only [tys]) ?_|refine Bc rfl (by simp only [tys]) ?_); apply Exists.intro; apply And.intro; (focus (simp -dsimp only [simx,zzC,zzB,tys,ite_self,A8,A2,Ax,Aq,Ao,At,Az,Ac,A5,PV.sk,Ai,Ar,As,Ap,Ay,Ab,Aj,Am,A9,Value.oneCell',Ah,Ba,Aw,A4,A1,Al,An,Ae,Ak,isZ,A6,A3,Ad,Aa,Ag,A0,Af,↓reduceIte,reduceSub,reduceEqDiff,reduceAdd,reduceMul,reduceLT,reduceLeDiff,reduceToNat,reduceLE,Int.reduceLT,reduceNeg,reduceCtorEq,zzL,if_true,if_false,List.length_map,hl,nt] <;> rfl)); apply Exists.intro; apply And.intro; (focus (first|exact hix|exact ii1)))|refine ⟨(dxX (by kernel_rfl)),?_⟩|exact (dxX (by kernel_rfl))|simp -dsimp (maxSteps:=20000000) (disch:=omega) only [simx,zzC,zzB,tys,ite_self,A8,A2,Ax,Aq,Ao,At,Az,Ac,A5,PV.sk,Ai,Ar,As,Ap,Ay,Ab,Aj,Am,A9,Value.oneCell',Ah,Ba,Aw,A4,A1,Al,An,Ae,Ak,isZ,A6,A3,Ad,Aa,Ag,A0,Af,↓reduceIte,reduceSub,reduceEqDiff,reduceAdd,reduceMul,reduceLT,reduceLeDiff,reduceToNat,reduceLE,Int.reduceLT,reduceNeg,reduceCtorEq,gos,Int.reduceAdd,Int.reduceSub,Int.reduceMul,reduceEq,hT,hp1,z0,List.length_map,hl,nt,ln,nC])
      refine Bb rfl ?_
      repeat (first|refine ⟨(dxX (by kernel_rfl)),?_⟩|exact (dxX (by kernel_rfl))|simp -dsimp (maxSteps:=20000000) (disch:=omega) only [simx,zzC,zzB,tys,ite_self,A8,A2,Ax,Aq,Ao,At,Az,Ac,A5,PV.sk,Ai,Ar,As,Ap,Ay,Ab,Aj,Am,A9,Value.oneCell',Ah,Ba,Aw,A4,A1,Al,An,Ae,Ak,isZ,A6,A3,Ad,Aa,Ag,A0,Af,↓reduceIte,reduceSub,reduceEqDiff,reduceAdd,reduceMul,reduceLT,reduceLeDiff,reduceToNat,reduceLE,Int.reduceLT,reduceNeg,reduceCtorEq,gos,Int.reduceAdd,Int.reduceSub,Int.reduceMul,reduceEq,j4])
      refine Qe ((900,i)::base) rfl ?_
      repeat (first|refine ⟨(dxX (by kernel_rfl)),?_⟩|exact (dxX (by kernel_rfl))|simp -dsimp (maxSteps:=20000000) (disch:=omega) only [simx,zzC,zzB,tys,ite_self,A8,A2,Ax,Aq,Ao,At,Az,Ac,A5,PV.sk,Ai,Ar,As,Ap,Ay,Ab,Aj,Am,A9,Value.oneCell',Ah,Ba,Aw,A4,A1,Al,An,Ae,Ak,isZ,A6,A3,Ad,Aa,Ag,A0,Af,↓reduceIte,reduceSub,reduceEqDiff,reduceAdd,reduceMul,reduceLT,reduceLeDiff,reduceToNat,reduceLE,Int.reduceLT,reduceNeg,reduceCtorEq,gos,Int.reduceAdd,Int.reduceSub,Int.reduceMul,reduceEq])
      refine Cg (s:=(900,i)::base) (n:=0) (z:=1) (cs:=[]) 22 [.int .u64 0] [iu 1] (by simp only [tys]) (by simp only [tys]) rfl (by decide) rfl (by simp [Heap.put_at]; exact hNi) (by simp [Heap.put_at]; rfl) rfl (by simp only [tys]; omega) (by rw [B3]; omega) ?_
      repeat (first|refine ⟨(dxX (by kernel_rfl)),?_⟩|exact (dxX (by kernel_rfl))|simp -dsimp (maxSteps:=20000000) (disch:=omega) only [simx,zzC,zzB,tys,ite_self,A8,A2,Ax,Aq,Ao,At,Az,Ac,A5,PV.sk,Ai,Ar,As,Ap,Ay,Ab,Aj,Am,A9,Value.oneCell',Ah,Ba,Aw,A4,A1,Al,An,Ae,Ak,isZ,A6,A3,Ad,Aa,Ag,A0,Af,↓reduceIte,reduceSub,reduceEqDiff,reduceAdd,reduceMul,reduceLT,reduceLeDiff,reduceToNat,reduceLE,Int.reduceLT,reduceNeg,reduceCtorEq,gos,Int.reduceAdd,Int.reduceSub,Int.reduceMul,reduceEq,List.length_append,hL,lt,ld,Bi,Nat.zero_add,ilt,ile])
      refine Bb rfl ?_
      repeat (first|refine ⟨(dxX (by kernel_rfl)),?_⟩|exact (dxX (by kernel_rfl))|simp -dsimp (maxSteps:=20000000) (disch:=omega) only [simx,zzC,zzB,tys,ite_self,A8,A2,Ax,Aq,Ao,At,Az,Ac,A5,PV.sk,Ai,Ar,As,Ap,Ay,Ab,Aj,Am,A9,Value.oneCell',Ah,Ba,Aw,A4,A1,Al,An,Ae,Ak,isZ,A6,A3,Ad,Aa,Ag,A0,Af,↓reduceIte,reduceSub,reduceEqDiff,reduceAdd,reduceMul,reduceLT,reduceLeDiff,reduceToNat,reduceLE,Int.reduceLT,reduceNeg,reduceCtorEq,gos,Int.reduceAdd,Int.reduceSub,Int.reduceMul,reduceEq,j5,List.length_map,hl,nt])
      refine Bb rfl ?_
      repeat (first|refine ⟨(dxX (by kernel_rfl)),?_⟩|exact (dxX (by kernel_rfl))|simp -dsimp (maxSteps:=20000000) (disch:=omega) only [simx,zzC,zzB,tys,ite_self,A8,A2,Ax,Aq,Ao,At,Az,Ac,A5,PV.sk,Ai,Ar,As,Ap,Ay,Ab,Aj,Am,A9,Value.oneCell',Ah,Ba,Aw,A4,A1,Al,An,Ae,Ak,isZ,A6,A3,Ad,Aa,Ag,A0,Af,↓reduceIte,reduceSub,reduceEqDiff,reduceAdd,reduceMul,reduceLT,reduceLeDiff,reduceToNat,reduceLE,Int.reduceLT,reduceNeg,reduceCtorEq,gos,Int.reduceAdd,Int.reduceSub,Int.reduceMul,reduceEq])
      refine Cg (s:=(16,11)::base) (n:=0) (z:=1) 3 [.int .i64 0] [ii i] (by simp only [tys]) (by simp only [tys]) rfl (by decide) (by rw [hrows]; rfl) (by simp [Heap.put_at]; exact hR) (by simp [Heap.put_at]; rfl) rfl (by simp only [tys]; omega) (by rw [B3]; omega) ?_
      rw [Bi]
      repeat (first|refine ⟨(dxX (by kernel_rfl)),?_⟩|exact (dxX (by kernel_rfl))|simp -dsimp (maxSteps:=20000000) (disch:=omega) only [simx,zzC,zzB,tys,ite_self,A8,A2,Ax,Aq,Ao,At,Az,Ac,A5,PV.sk,Ai,Ar,As,Ap,Ay,Ab,Aj,Am,A9,Value.oneCell',Ah,Ba,Aw,A4,A1,Al,An,Ae,Ak,isZ,A6,A3,Ad,Aa,Ag,A0,Af,↓reduceIte,reduceSub,reduceEqDiff,reduceAdd,reduceMul,reduceLT,reduceLeDiff,reduceToNat,reduceLE,Int.reduceLT,reduceNeg,reduceCtorEq,gos,Int.reduceAdd,Int.reduceSub,Int.reduceMul,reduceEq,hT])
      refine Bb rfl ?_
      repeat (first|refine ⟨(dxX (by kernel_rfl)),?_⟩|exact (dxX (by kernel_rfl))|simp -dsimp (maxSteps:=20000000) (disch:=omega) only [simx,zzC,zzB,tys,ite_self,A8,A2,Ax,Aq,Ao,At,Az,Ac,A5,PV.sk,Ai,Ar,As,Ap,Ay,Ab,Aj,Am,A9,Value.oneCell',Ah,Ba,Aw,A4,A1,Al,An,Ae,Ak,isZ,A6,A3,Ad,Aa,Ag,A0,Af,↓reduceIte,reduceSub,reduceEqDiff,reduceAdd,reduceMul,reduceLT,reduceLeDiff,reduceToNat,reduceLE,Int.reduceLT,reduceNeg,reduceCtorEq,gos,Int.reduceAdd,Int.reduceSub,Int.reduceMul,reduceEq,j6,List.length_map,hl,nt])
      refine Bb rfl ?_
      repeat (first|refine ⟨(dxX (by kernel_rfl)),?_⟩|exact (dxX (by kernel_rfl))|simp -dsimp (maxSteps:=20000000) (disch:=omega) only [simx,zzC,zzB,tys,ite_self,A8,A2,Ax,Aq,Ao,At,Az,Ac,A5,PV.sk,Ai,Ar,As,Ap,Ay,Ab,Aj,Am,A9,Value.oneCell',Ah,Ba,Aw,A4,A1,Al,An,Ae,Ak,isZ,A6,A3,Ad,Aa,Ag,A0,Af,↓reduceIte,reduceSub,reduceEqDiff,reduceAdd,reduceMul,reduceLT,reduceLeDiff,reduceToNat,reduceLE,Int.reduceLT,reduceNeg,reduceCtorEq,gos,Int.reduceAdd,Int.reduceSub,Int.reduceMul,reduceEq])
      refine Cg (s:=(16,19)::base) (n:=0) (z:=1) 3 [.int .i64 0] [ii n] (by simp only [tys]) (by simp only [tys]) rfl (by decide) (by rw [hcols]; rfl) (by simp [Heap.put_at]; exact hQ) (by simp [Heap.put_at]; rfl) rfl (by simp only [tys]; omega) (by rw [B3]; omega) ?_
      rw [Bi]
      repeat (first|refine ⟨(dxX (by kernel_rfl)),?_⟩|exact (dxX (by kernel_rfl))|simp -dsimp (maxSteps:=20000000) (disch:=omega) only [simx,zzC,zzB,tys,ite_self,A8,A2,Ax,Aq,Ao,At,Az,Ac,A5,PV.sk,Ai,Ar,As,Ap,Ay,Ab,Aj,Am,A9,Value.oneCell',Ah,Ba,Aw,A4,A1,Al,An,Ae,Ak,isZ,A6,A3,Ad,Aa,Ag,A0,Af,↓reduceIte,reduceSub,reduceEqDiff,reduceAdd,reduceMul,reduceLT,reduceLeDiff,reduceToNat,reduceLE,Int.reduceLT,reduceNeg,reduceCtorEq,gos,Int.reduceAdd,Int.reduceSub,Int.reduceMul,reduceEq,hT])
      refine Bb rfl ?_
      repeat (first|refine ⟨(dxX (by kernel_rfl)),?_⟩|exact (dxX (by kernel_rfl))|simp -dsimp (maxSteps:=20000000) (disch:=omega) only [simx,zzC,zzB,tys,ite_self,A8,A2,Ax,Aq,Ao,At,Az,Ac,A5,PV.sk,Ai,Ar,As,Ap,Ay,Ab,Aj,Am,A9,Value.oneCell',Ah,Ba,Aw,A4,A1,Al,An,Ae,Ak,isZ,A6,A3,Ad,Aa,Ag,A0,Af,↓reduceIte,reduceSub,reduceEqDiff,reduceAdd,reduceMul,reduceLT,reduceLeDiff,reduceToNat,reduceLE,Int.reduceLT,reduceNeg,reduceCtorEq,gos,Int.reduceAdd,Int.reduceSub,Int.reduceMul,reduceEq,j7,List.length_map,hl,nt])
      refine Bb rfl ?_
      repeat (first|refine ⟨(dxX (by kernel_rfl)),?_⟩|exact (dxX (by kernel_rfl))|simp -dsimp (maxSteps:=20000000) (disch:=omega) only [simx,zzC,zzB,tys,ite_self,A8,A2,Ax,Aq,Ao,At,Az,Ac,A5,PV.sk,Ai,Ar,As,Ap,Ay,Ab,Aj,Am,A9,Value.oneCell',Ah,Ba,Aw,A4,A1,Al,An,Ae,Ak,isZ,A6,A3,Ad,Aa,Ag,A0,Af,↓reduceIte,reduceSub,reduceEqDiff,reduceAdd,reduceMul,reduceLT,reduceLeDiff,reduceToNat,reduceLE,Int.reduceLT,reduceNeg,reduceCtorEq,gos,Int.reduceAdd,Int.reduceSub,Int.reduceMul,reduceEq])
      refine Cg (s:=(16,27)::base) (n:=0) (z:=1) 23 [.slice none 0 0] [lv C row] (by simp only [tys]) (by simp only [tys]) rfl (by decide) (by rw [hus]; rfl) (by simp [Heap.put_at]; exact hU) (by simp [Heap.put_at]; rfl) rfl (by simp only [tys]; omega) (by rw [B3]; omega) ?_
      rw [Bi]
      repeat (first|refine ⟨(dxX (by kernel_rfl)),?_⟩|exact (dxX (by kernel_rfl))|simp -dsimp (maxSteps:=20000000) (disch:=omega) only [simx,zzC,zzB,tys,ite_self,A8,A2,Ax,Aq,Ao,At,Az,Ac,A5,PV.sk,Ai,Ar,As,Ap,Ay,Ab,Aj,Am,A9,Value.oneCell',Ah,Ba,Aw,A4,A1,Al,An,Ae,Ak,isZ,A6,A3,Ad,Aa,Ag,A0,Af,↓reduceIte,reduceSub,reduceEqDiff,reduceAdd,reduceMul,reduceLT,reduceLeDiff,reduceToNat,reduceLE,Int.reduceLT,reduceNeg,reduceCtorEq,gos,Int.reduceAdd,Int.reduceSub,Int.reduceMul,reduceEq,hT])
      refine Bb rfl ?_
      repeat (first|refine ⟨(dxX (by kernel_rfl)),?_⟩|exact (dxX (by kernel_rfl))|simp -dsimp (maxSteps:=20000000) (disch:=omega) only [simx,zzC,zzB,tys,ite_self,A8,A2,Ax,Aq,Ao,At,Az,Ac,A5,PV.sk,Ai,Ar,As,Ap,Ay,Ab,Aj,Am,A9,Value.oneCell',Ah,Ba,Aw,A4,A1,Al,An,Ae,Ak,isZ,A6,A3,Ad,Aa,Ag,A0,Af,↓reduceIte,reduceSub,reduceEqDiff,reduceAdd,reduceMul,reduceLT,reduceLeDiff,reduceToNat,reduceLE,Int.reduceLT,reduceNeg,reduceCtorEq,gos,Int.reduceAdd,Int.reduceSub,Int.reduceMul,reduceEq,j8,List.length_map,hl,nt])
      refine Bb rfl ?_
      repeat (first|refine ⟨(dxX (by kernel_rfl)),?_⟩|exact (dxX (by kernel_rfl))|simp -dsimp (maxSteps:=20000000) (disch:=omega) only [simx,zzC,zzB,tys,ite_self,A8,A2,Ax,Aq,Ao,At,Az,Ac,A5,PV.sk,Ai,Ar,As,Ap,Ay,Ab,Aj,Am,A9,Value.oneCell',Ah,Ba,Aw,A4,A1,Al,An,Ae,Ak,isZ,A6,A3,Ad,Aa,Ag,A0,Af,↓reduceIte,reduceSub,reduceEqDiff,reduceAdd,reduceMul,reduceLT,reduceLeDiff,reduceToNat,reduceLE,Int.reduceLT,reduceNeg,reduceCtorEq,gos,Int.reduceAdd,Int.reduceSub,Int.reduceMul,reduceEq])
      refine Cg (s:=(16,34)::base) (n:=0) (z:=1) 22 [.int .u64 0] [iu (D7 P a)] (by simp only [tys]) (by simp only [tys]) rfl (by decide) (by rw [hvs]; rfl) (by simp [Heap.put_at]; exact hV) (by simp [Heap.put_at]; rfl) rfl (by simp only [tys]; omega) (by rw [B3]; omega) ?_
      rw [Bi]
      repeat (first|refine ⟨(dxX (by kernel_rfl)),?_⟩|exact (dxX (by kernel_rfl))|simp -dsimp (maxSteps:=20000000) (disch:=omega) only [simx,zzC,zzB,tys,ite_self,A8,A2,Ax,Aq,Ao,At,Az,Ac,A5,PV.sk,Ai,Ar,As,Ap,Ay,Ab,Aj,Am,A9,Value.oneCell',Ah,Ba,Aw,A4,A1,Al,An,Ae,Ak,isZ,A6,A3,Ad,Aa,Ag,A0,Af,↓reduceIte,reduceSub,reduceEqDiff,reduceAdd,reduceMul,reduceLT,reduceLeDiff,reduceToNat,reduceLE,Int.reduceLT,reduceNeg,reduceCtorEq,gos,Int.reduceAdd,Int.reduceSub,Int.reduceMul,reduceEq,hT])
      repeat (first|refine Bg rfl ?_|refine Bb rfl ?_|refine ⟨(dxX (by kernel_rfl)),?_⟩|exact (dxX (by kernel_rfl))|simp -dsimp (maxSteps:=20000000) (disch:=omega) only [simx,zzC,zzB,tys,ite_self,A8,A2,Ax,Aq,Ao,At,Az,Ac,A5,PV.sk,Ai,Ar,As,Ap,Ay,Ab,Aj,Am,A9,Value.oneCell',Ah,Ba,Aw,A4,A1,Al,An,Ae,Ak,isZ,A6,A3,Ad,Aa,Ag,A0,Af,↓reduceIte,reduceSub,reduceEqDiff,reduceAdd,reduceMul,reduceLT,reduceLeDiff,reduceToNat,reduceLE,Int.reduceLT,reduceNeg,reduceCtorEq,zzR,gos,Int.reduceAdd,Int.reduceSub,Int.reduceMul,reduceEq])
      rw [← hHH]
      refine ⟨?_,fun b hb => ?_⟩
      · funext c
        simp (maxSteps:=20000000) only [Heap.drop_at,Bh,Heap.put_at,Heap.none_at,List.mem_cons,List.not_mem_nil,or_false]
        by_cases e0:c=(3,2)::bT
        · subst e0; simp [j1,j2,j3,j4,j5,j6,j7,j8,Bk,Bi,hR,hQ,hU,hV,hNi,B0]
        by_cases e1:c=(10,8)::base
        · subst e1; simp [j1,j2,j3,j4,j5,j6,j7,j8,Bk,Bi,hR,hQ,hU,hV,hNi,B0]
        by_cases e2:c=(1,1)::base
        · subst e2; simp [j1,j2,j3,j4,j5,j6,j7,j8,Bk,Bi,hR,hQ,hU,hV,hNi,B0]
        by_cases e3:c=(8,2)::base
        · subst e3; simp [j1,j2,j3,j4,j5,j6,j7,j8,Bk,Bi,hR,hQ,hU,hV,hNi,B0]
        by_cases e4:c=(10,7)::base
        · subst e4; simp [j1,j2,j3,j4,j5,j6,j7,j8,Bk,Bi,hR,hQ,hU,hV,hNi,B0]
        by_cases e5:c=(15,7)::base
        · subst e5; simp [j1,j2,j3,j4,j5,j6,j7,j8,Bk,Bi,hR,hQ,hU,hV,hNi,B0]
        by_cases e6:c=(16,10)::base
        · subst e6; simp [j1,j2,j3,j4,j5,j6,j7,j8,Bk,Bi,hR,hQ,hU,hV,hNi,B0]
        by_cases e7:c=(16,18)::base
        · subst e7; simp [j1,j2,j3,j4,j5,j6,j7,j8,Bk,Bi,hR,hQ,hU,hV,hNi,B0]
        by_cases e8:c=(16,26)::base
        · subst e8; simp [j1,j2,j3,j4,j5,j6,j7,j8,Bk,Bi,hR,hQ,hU,hV,hNi,B0]
        by_cases e9:c=(16,33)::base
        · subst e9; simp [j1,j2,j3,j4,j5,j6,j7,j8,Bk,Bi,hR,hQ,hU,hV,hNi,B0]
        by_cases e10:c=(16,11)::base
        · subst e10; simp [j1,j2,j3,j4,j5,j6,j7,j8,Bk,Bi,hR,hQ,hU,hV,hNi,B0]
        by_cases e11:c=(16,19)::base
        · subst e11; simp [j1,j2,j3,j4,j5,j6,j7,j8,Bk,Bi,hR,hQ,hU,hV,hNi,B0]
        by_cases e12:c=(16,27)::base
        · subst e12; simp [j1,j2,j3,j4,j5,j6,j7,j8,Bk,Bi,hR,hQ,hU,hV,hNi,B0]
        by_cases e13:c=(16,34)::base
        · subst e13; simp [j1,j2,j3,j4,j5,j6,j7,j8,Bk,Bi,hR,hQ,hU,hV,hNi,B0]
        by_cases e14:c=(900,i)::base
        · subst e14; simp [j1,j2,j3,j4,j5,j6,j7,j8,Bk,Bi,hR,hQ,hU,hV,hNi,B0]
        simp [e0,e1,e2,e3,e4,e5,e6,e7,e8,e9,e10,e11,e12,e13,e14,j1,j2,j3,j4,j5,j6,j7,j8,Bk,Bi,hR,hQ,hU,hV,hNi,B0]
      · have n0:=nv b hb
        have n1:=nvL b hb
        clear nv nvL
        simp only [List.mem_cons,List.not_mem_nil,or_false] at hb
        rcases hb with rfl|rfl|rfl|rfl|rfl|rfl|rfl|rfl
        all_goals (repeat (first|exact n0|refine Bp ?_|refine Bu ?_ (by simp [Bs,Bn,D9,Be,El,n1])))
end Go.Proofs.Ythnfphgjfpcpbaa.TM
namespace Go.Proofs.Ythnfphgjfpcpbaa.TM
open Go Go.RowKit
attribute [local irreducible] K W Dg Effs Xg Xo Xr Xdg Xdo Xdr Xif CallsP CallR
set_option maxHeartbeats 4000000 in
theorem Xj {h : Heap} {base bT : Name} {P C i r : Nat} {T : Tk} {row : List Int} {L : List PV} (hP : Prm P) (hp : Md P) (I : TkI P C i T) (hrow : ∀ a ∈ row, In P a) (hl : row.length = C) (h0 : 0 < C) (hC : C ≤ 64) (hi : i < 64) (hL : L.length = i) (hr : T.us.length = r + 1)
    (hT:h ((3,2)::bT)=some (.var [rowP ((16,11)::base) 1 (r + 1) (T.rows.map ii),rowP ((16,19)::base) 1 (r + 1) (T.cols.map ii),Hk ((10,8)::base) i,rowP ((16,27)::base) 1 (r + 1) (T.us.map (lv C)),u64 P,rowP ((16,34)::base) 1 (r + 1) (T.vs.map iu)]))
    (hR:h ((16,11)::base)=if r + 1=0 then none else some (.row false (T.rows.map ii))) (hQ:h ((16,19)::base)=if r + 1=0 then none else some (.row false (T.cols.map ii))) (hU:h ((16,27)::base)=if r + 1=0 then none else some (.row false (T.us.map (lv C)))) (hV:h ((16,34)::base)=if r + 1=0 then none else some (.row false (T.vs.map iu)))
    (hCol:h ((10,8)::base)=Jm i L) (hNi:h ((900,i)::base)=none)
    (j1:h ((1,1)::base)=none) (j2:h ((8,2)::base)=none) (j3:h ((10,7)::base)=none) (j4:h ((15,7)::base)=none) (j5:h ((16,10)::base)=none) (j6:h ((16,18)::base)=none) (j7:h ((16,26)::base)=none) (j8:h ((16,33)::base)=none)
    (nv:∀ b ∈ [(1,1)::base,(8,2)::base,(10,7)::base,(15,7)::base,(16,10)::base,(16,18)::base,(16,26)::base,(16,33)::base],Dw b h) :
    ∃ h',CallR Try.prog base 85 [.ref ((3,2)::bT) 0 6,i64 i,.i (.l C (row.map iu))] h (bl true) h' ∧ (h'.drop [(1,1)::base,(8,2)::base,(10,7)::base,(15,7)::base,(16,10)::base,(16,18)::base,(16,26)::base,(16,33)::base]=Qy h base bT P C i L T (Cz P T i row) (Cz P T i row).us.length ∧ ∀ b ∈ [(1,1)::base,(8,2)::base,(10,7)::base,(15,7)::base,(16,10)::base,(16,18)::base,(16,26)::base,(16,33)::base],Dw b h'):=by
  have nvL:=Aq1 hCol hL nv
  have rb:r + 1 ≤ i:=by have:=I.ri; omega
  have dc:=(Ln hl h0 (by omega)).toA
  have rl:(Eb P T row)=elR P T row (r + 1):=by unfold Eb; rw [hr]
  have x0:xsT P T row=tbl (r + 1) (elX P T row):=by unfold xsT; rw [hr]
  have rn:((elR P T row (r + 1))).length=C:=by rw [Gt,hl]
  have hix:=Ny (l:=elR P T row (r + 1)) (by rw [B3]; omega)
  rw [lu,rn] at hix
  obtain ⟨te1,te2⟩:=Oy I row (i:Int) rfl
  rw [rl,x0] at te1 te2
  rw [if_neg (by omega)] at hR hQ hU hV
  generalize hHH:Qy h base bT P C i L T (Cz P T i row) (Cz P T i row).us.length=HH
  refine Iw (n:=151) (m:=3) (rs:=[.tmp 6]) Try.func85 rfl rfl rfl rfl (by decide) ?_
  repeat (first|refine Bg rfl ?_|refine Bb rfl ?_|refine ⟨(dxX (by kernel_rfl)),?_⟩|exact (dxX (by kernel_rfl))|simp -dsimp (maxSteps:=20000000) (disch:=omega) only [simx,zzC,zzB,tys,ite_self,A8,A2,Ax,Aq,Ao,At,Az,Ac,A5,PV.sk,Ai,Ar,As,Ap,Ay,Ab,Aj,Am,A9,Value.oneCell',Ah,Ba,Aw,A4,A1,Al,An,Ae,Ak,isZ,A6,A3,Ad,Aa,Ag,A0,Af,↓reduceIte,reduceSub,reduceEqDiff,reduceAdd,reduceMul,reduceLT,reduceLeDiff,reduceToNat,reduceLE,Int.reduceLT,reduceNeg,reduceCtorEq,gos,Int.reduceAdd,Int.reduceSub,Int.reduceMul,reduceEq])
  ((first|refine K1 (dc) rfl (by simp only [tys]) (by (simp -dsimp only [simx,zzC,zzB,tys,ite_self,A8,A2,Ax,Aq,Ao,At,Az,Ac,A5,PV.sk,Ai,Ar,As,Ap,Ay,Ab,Aj,Am,A9,Value.oneCell',Ah,Ba,Aw,A4,A1,Al,An,Ae,Ak,isZ,A6,A3,Ad,Aa,Ag,A0,Af,↓reduceIte,reduceSub,reduceEqDiff,reduceAdd,reduceMul,reduceLT,reduceLeDiff,reduceToNat,reduceLE,Int.reduceLT,reduceNeg,reduceCtorEq,zzL,if_true,if_false] <;> rfl)) (by simp [Heap.put_at,Heap.none_at,Bh,j1]) ?_|refine Jp (dc) rfl (by simp only [tys]) (by (simp -dsimp only [simx,zzC,zzB,tys,ite_self,A8,A2,Ax,Aq,Ao,At,Az,Ac,A5,PV.sk,Ai,Ar,As,Ap,Ay,Ab,Aj,Am,A9,Value.oneCell',Ah,Ba,Aw,A4,A1,Al,An,Ae,Ak,isZ,A6,A3,Ad,Aa,Ag,A0,Af,↓reduceIte,reduceSub,reduceEqDiff,reduceAdd,reduceMul,reduceLT,reduceLeDiff,reduceToNat,reduceLE,Int.reduceLT,reduceNeg,reduceCtorEq,zzL,if_true,if_false] <;> rfl)) (by simp [Heap.put_at,Heap.none_at,Bh,j1]) ?_))
  repeat (first|refine Bg rfl ?_|refine Bb rfl ?_|refine ⟨(dxX (by kernel_rfl)),?_⟩|exact (dxX (by kernel_rfl))|simp -dsimp (maxSteps:=20000000) (disch:=omega) only [simx,zzC,zzB,tys,ite_self,A8,A2,Ax,Aq,Ao,At,Az,Ac,A5,PV.sk,Ai,Ar,As,Ap,Ay,Ab,Aj,Am,A9,Value.oneCell',Ah,Ba,Aw,A4,A1,Al,An,Ae,Ak,isZ,A6,A3,Ad,Aa,Ag,A0,Af,↓reduceIte,reduceSub,reduceEqDiff,reduceAdd,reduceMul,reduceLT,reduceLeDiff,reduceToNat,reduceLE,Int.reduceLT,reduceNeg,reduceCtorEq,gos,Int.reduceAdd,Int.reduceSub,Int.reduceMul,reduceEq,hT,Bi,List.length_map,hr])
  refine B5 [0,1,7,8,22,23,24] [(8,2)::base] (0) (r + 1) (fun j => True) (fun j => [(8,rowP ((900,i)::base) 1 j ((tbl j (elX P T row)).map iu)),(23,i64 ((r + 1:Nat):Int)),(24,i64 j)]) (fun j => C9 (h.put ((1,1)::base) (.row false ((elR P T row j).map iu))) ((900,i)::base) j ((tbl j (elX P T row)).map iu)) ?_ ?_ ?_ ?_ ?_ (by decide) ?_
  · exact Bv j2 (by simp -dsimp only [simx,zzC,zzB,tys,ite_self,A8,Bm,Bo] <;> simp [Bn]) (Bp (nv _ (by simp))) Bl
  · repeat (first|refine Bg rfl ?_|refine Bb rfl ?_|refine ⟨(dxX (by kernel_rfl)),?_⟩|exact (dxX (by kernel_rfl))|simp -dsimp (maxSteps:=20000000) (disch:=omega) only [simx,zzC,zzB,tys,ite_self,A8,A2,Ax,Aq,Ao,At,Az,Ac,A5,PV.sk,Ai,Ar,As,Ap,Ay,Ab,Aj,Am,A9,Value.oneCell',Ah,Ba,Aw,A4,A1,Al,An,Ae,Ak,isZ,A6,A3,Ad,Aa,Ag,A0,Af,↓reduceIte,reduceSub,reduceEqDiff,reduceAdd,reduceMul,reduceLT,reduceLeDiff,reduceToNat,reduceLE,Int.reduceLT,reduceNeg,reduceCtorEq,gos,Int.reduceAdd,Int.reduceSub,Int.reduceMul,reduceEq,Bk])
    exact ⟨rfl,rfl⟩
  · funext c
    rw [Heap.drop_at,Ci]
    split
    · rename_i e
      rw [List.mem_singleton.1 e]
      simp [Heap.put_at,j2]
    · rfl
  · omega
  · trivial
  · intro j hj _
    by_cases cj:j < r + 1
    · have g1:(T.us.map (lv C))[j]?=some (lv C (T.us.getD j [])):=by rw [List.getElem?_map,List.getD_eq_getElem?_getD,List.getElem?_eq_getElem (by omega)]; rfl
      have g2:(T.cols.map ii)[j]?=some (ii (T.cols.getD j 0)):=by rw [List.getElem?_map,getD_some I.ql (by omega)]; rfl
      have g3:(T.vs.map iu)[j]?=some (iu (T.vs.getD j 0)):=by rw [List.getElem?_map,getD_some I.vl (by omega)]; rfl
      obtain ⟨q0,q1⟩:=I.qb (T.cols.getD j 0) (by rw [List.getD_eq_getElem?_getD,List.getElem?_eq_getElem (by have:=I.ql; omega)]; exact List.getElem_mem _)
      obtain ⟨q,hq⟩:∃ q:Nat,T.cols.getD j 0=q:=⟨(T.cols.getD j 0).toNat,by omega⟩
      have qC:q < C:=by omega
      have el:=Gt P T row j
      rw [hl] at el
      have ei:=M9 hp T hrow j
      have g4:((elR P T row j).map iu)[q]?=some (iu ((elR P T row j).getD q 0)):=by rw [List.getElem?_map,getD_some el qC]; rfl
      have m1:=Y5 hp (Ce ei (i:=q) (by omega)) (Ce I.vb (i:=j) (by have:=I.vl; omega))
      have ex:(elR P T row j).getD q 0 * T.vs.getD j 0 % P=elX P T row j:=by unfold elX; rw [hq,Int.toNat_natCast]
      rw [ex] at m1
      rw [hq] at g2
      obtain ⟨u1,u2⟩:=I.ul (T.us.getD j []) (by rw [List.getD_eq_getElem?_getD,List.getElem?_eq_getElem (by omega)]; exact List.getElem_mem _)
      have hT':(C9 (h.put ((1,1)::base) (.row false ((elR P T row j).map iu))) ((900,i)::base) j ((tbl j (elX P T row)).map iu)) ((3,2)::bT)=some (.var [rowP ((16,11)::base) 1 (r + 1) (T.rows.map ii),rowP ((16,19)::base) 1 (r + 1) (T.cols.map ii),Hk ((10,8)::base) i,rowP ((16,27)::base) 1 (r + 1) (T.us.map (lv C)),u64 P,rowP ((16,34)::base) 1 (r + 1) (T.vs.map iu)]):=by simp [Bh,Heap.put_at]; exact hT
      have hX':(C9 (h.put ((1,1)::base) (.row false ((elR P T row j).map iu))) ((900,i)::base) j ((tbl j (elX P T row)).map iu)) ((1,1)::base)=some (.row false ((elR P T row j).map iu)):=by simp [Bh,Heap.put_at]
      have hN':(C9 (h.put ((1,1)::base) (.row false ((elR P T row j).map iu))) ((900,i)::base) j ((tbl j (elX P T row)).map iu)) ((900,i)::base)=if j=0 then none else some (.row false ((tbl j (elX P T row)).map iu)):=by simp [Bh,Heap.put_at,hNi]
      have hw:=fun (b0:Name) => Yt (base:=b0) hp (Yj hp T row j) ei u2 el u1 hC hT' hX'
      have nx:=Kf P T row j
      have tx:=Fx j (elX P T row)
      have tl:=Ca j (elX P T row)
      rw [← nx] at hw
      generalize T.us.getD j []=U at g1 hw u1
      generalize T.vs.getD j 0=V at g3 m1 ex
      generalize elX P T row j=x at m1 hw tx
      generalize (elR P T row j).getD q 0=y at g4 m1
      generalize hR1:elR P T row (j + 1)=R1 at hw ⊢
      have hne1:¬ j=0 → (0 < j):=by omega
      repeat (first|((first|refine Bd rfl (by simp only [tys]) ?_|refine Bc rfl (by simp only [tys]) ?_); apply Exists.intro; apply And.intro; (focus (simp -dsimp only [simx,zzC,zzB,tys,ite_self,A8,A2,Ax,Aq,Ao,At,Az,Ac,A5,PV.sk,Ai,Ar,As,Ap,Ay,Ab,Aj,Am,A9,Value.oneCell',Ah,Ba,Aw,A4,A1,Al,An,Ae,Ak,isZ,A6,A3,Ad,Aa,Ag,A0,Af,↓reduceIte,reduceSub,reduceEqDiff,reduceAdd,reduceMul,reduceLT,reduceLeDiff,reduceToNat,reduceLE,Int.reduceLT,reduceNeg,reduceCtorEq,zzL,if_true,if_false] <;> rfl)); apply Exists.intro; apply And.intro; (focus (first|exact m1)))|refine ⟨(dxX (by kernel_rfl)),?_⟩|exact (dxX (by kernel_rfl))|simp -dsimp (maxSteps:=20000000) (disch:=omega) only [simx,zzC,zzB,tys,ite_self,A8,A2,Ax,Aq,Ao,At,Az,Ac,A5,PV.sk,Ai,Ar,As,Ap,Ay,Ab,Aj,Am,A9,Value.oneCell',Ah,Ba,Aw,A4,A1,Al,An,Ae,Ak,isZ,A6,A3,Ad,Aa,Ag,A0,Af,↓reduceIte,reduceSub,reduceEqDiff,reduceAdd,reduceMul,reduceLT,reduceLeDiff,reduceToNat,reduceLE,Int.reduceLT,reduceNeg,reduceCtorEq,gos,Int.reduceAdd,Int.reduceSub,Int.reduceMul,reduceEq,hT,hR,hQ,hU,hV,Bi,cj,g1,g2,g3,g4,qC,List.length_map,hr,I.ql,I.vl,I.rl,el])
      refine G4 rfl (by simp only [tys]) rfl (hw _) ?_
      repeat (first|refine ⟨(dxX (by kernel_rfl)),?_⟩|exact (dxX (by kernel_rfl))|simp -dsimp (maxSteps:=20000000) (disch:=omega) only [simx,zzC,zzB,tys,ite_self,A8,A2,Ax,Aq,Ao,At,Az,Ac,A5,PV.sk,Ai,Ar,As,Ap,Ay,Ab,Aj,Am,A9,Value.oneCell',Ah,Ba,Aw,A4,A1,Al,An,Ae,Ak,isZ,A6,A3,Ad,Aa,Ag,A0,Af,↓reduceIte,reduceSub,reduceEqDiff,reduceAdd,reduceMul,reduceLT,reduceLeDiff,reduceToNat,reduceLE,Int.reduceLT,reduceNeg,reduceCtorEq,gos,Int.reduceAdd,Int.reduceSub,Int.reduceMul,reduceEq])
      refine Bg rfl ?_
      repeat (first|refine ⟨(dxX (by kernel_rfl)),?_⟩|exact (dxX (by kernel_rfl))|simp -dsimp (maxSteps:=20000000) (disch:=omega) only [simx,zzC,zzB,tys,ite_self,A8,A2,Ax,Aq,Ao,At,Az,Ac,A5,PV.sk,Ai,Ar,As,Ap,Ay,Ab,Aj,Am,A9,Value.oneCell',Ah,Ba,Aw,A4,A1,Al,An,Ae,Ak,isZ,A6,A3,Ad,Aa,Ag,A0,Af,↓reduceIte,reduceSub,reduceEqDiff,reduceAdd,reduceMul,reduceLT,reduceLeDiff,reduceToNat,reduceLE,Int.reduceLT,reduceNeg,reduceCtorEq,gos,Int.reduceAdd,Int.reduceSub,Int.reduceMul,reduceEq,j2])
      refine Ab1 ((900,i)::base) rfl ?_
      repeat (first|refine ⟨(dxX (by kernel_rfl)),?_⟩|exact (dxX (by kernel_rfl))|simp -dsimp (maxSteps:=20000000) (disch:=omega) only [simx,zzC,zzB,tys,ite_self,A8,A2,Ax,Aq,Ao,At,Az,Ac,A5,PV.sk,Ai,Ar,As,Ap,Ay,Ab,Aj,Am,A9,Value.oneCell',Ah,Ba,Aw,A4,A1,Al,An,Ae,Ak,isZ,A6,A3,Ad,Aa,Ag,A0,Af,↓reduceIte,reduceSub,reduceEqDiff,reduceAdd,reduceMul,reduceLT,reduceLeDiff,reduceToNat,reduceLE,Int.reduceLT,reduceNeg,reduceCtorEq,gos,Int.reduceAdd,Int.reduceSub,Int.reduceMul,reduceEq])
      refine C4 (s:=(900,i)::base) (n:=j) (z:=1) (cs:=(tbl j (elX P T row)).map iu) 22 [.int .u64 0] [iu x] (by simp only [tys]) (by simp only [tys]) rfl (by decide) (by simp [tl]) (by simp [Bh,Heap.put_at,hNi]) (by simp [Heap.put_at]; rfl) rfl (by simp only [tys]; omega) (by rw [B3]; omega) ?_
      repeat (first|refine ⟨(dxX (by kernel_rfl)),?_⟩|exact (dxX (by kernel_rfl))|simp -dsimp (maxSteps:=20000000) (disch:=omega) only [simx,zzC,zzB,tys,ite_self,A8,A2,Ax,Aq,Ao,At,Az,Ac,A5,PV.sk,Ai,Ar,As,Ap,Ay,Ab,Aj,Am,A9,Value.oneCell',Ah,Ba,Aw,A4,A1,Al,An,Ae,Ak,isZ,A6,A3,Ad,Aa,Ag,A0,Af,↓reduceIte,reduceSub,reduceEqDiff,reduceAdd,reduceMul,reduceLT,reduceLeDiff,reduceToNat,reduceLE,Int.reduceLT,reduceNeg,reduceCtorEq,gos,Int.reduceAdd,Int.reduceSub,Int.reduceMul,reduceEq])
      refine ⟨cj,Bv j2 (by simp -dsimp only [simx,zzC,zzB,tys,ite_self,A8,Bm,Bo] <;> simp [Bn,Be]) (Bp (Bp (Bp (Bt (Bp (nv _ (by simp))))))) Bl,?_,?_⟩
      · rw [tx,List.map_append]; exact ⟨rfl,rfl⟩
      · rw [tx,List.map_append,De]
        funext c
        simp (maxSteps:=20000000) only [Heap.drop_at,Bh,Heap.put_at,Heap.none_at,List.mem_cons,List.not_mem_nil,or_false]
        by_cases e0:c=(3,2)::bT
        · subst e0; simp [j2,hR1]
        by_cases e1:c=(1,1)::base
        · subst e1; simp [j2,hR1]
        by_cases e2:c=(8,2)::base
        · subst e2; simp [j2,hR1]
        by_cases e3:c=(900,i)::base
        · subst e3; simp [j2,hR1]
        simp [e0,e1,e2,e3,j2,hR1]
    · have ej:j=r + 1:=by omega
      subst ej
      have tl:=Ca (r + 1) (elX P T row)
      have ri:=M9 hp T hrow (r + 1)
      generalize elR P T row (r + 1)=RR at *
      generalize tbl (r + 1) (elX P T row)=XX at *
      rw [Bi,De,List.length_map,tl]
      repeat (first|refine ⟨(dxX (by kernel_rfl)),?_⟩|exact (dxX (by kernel_rfl))|simp -dsimp (maxSteps:=20000000) (disch:=omega) only [simx,zzC,zzB,tys,ite_self,A8,A2,Ax,Aq,Ao,At,Az,Ac,A5,PV.sk,Ai,Ar,As,Ap,Ay,Ab,Aj,Am,A9,Value.oneCell',Ah,Ba,Aw,A4,A1,Al,An,Ae,Ak,isZ,A6,A3,Ad,Aa,Ag,A0,Af,↓reduceIte,reduceSub,reduceEqDiff,reduceAdd,reduceMul,reduceLT,reduceLeDiff,reduceToNat,reduceLE,Int.reduceLT,reduceNeg,reduceCtorEq,gos,Int.reduceAdd,Int.reduceSub,Int.reduceMul,reduceEq,hT])
      refine K6 ((10,7)::base) rfl ?_
      repeat (first|refine ⟨(dxX (by kernel_rfl)),?_⟩|exact (dxX (by kernel_rfl))|simp -dsimp (maxSteps:=20000000) (disch:=omega) only [simx,zzC,zzB,tys,ite_self,A8,A2,Ax,Aq,Ao,At,Az,Ac,A5,PV.sk,Ai,Ar,As,Ap,Ay,Ab,Aj,Am,A9,Value.oneCell',Ah,Ba,Aw,A4,A1,Al,An,Ae,Ak,isZ,A6,A3,Ad,Aa,Ag,A0,Af,↓reduceIte,reduceSub,reduceEqDiff,reduceAdd,reduceMul,reduceLT,reduceLeDiff,reduceToNat,reduceLE,Int.reduceLT,reduceNeg,reduceCtorEq,gos,Int.reduceAdd,Int.reduceSub,Int.reduceMul,reduceEq,Es,Dy,j3])
      refine K6 ((10,8)::base) rfl ?_
      repeat (first|refine ⟨(dxX (by kernel_rfl)),?_⟩|exact (dxX (by kernel_rfl))|simp -dsimp (maxSteps:=20000000) (disch:=omega) only [simx,zzC,zzB,tys,ite_self,A8,A2,Ax,Aq,Ao,At,Az,Ac,A5,PV.sk,Ai,Ar,As,Ap,Ay,Ab,Aj,Am,A9,Value.oneCell',Ah,Ba,Aw,A4,A1,Al,An,Ae,Ak,isZ,A6,A3,Ad,Aa,Ag,A0,Af,↓reduceIte,reduceSub,reduceEqDiff,reduceAdd,reduceMul,reduceLT,reduceLeDiff,reduceToNat,reduceLE,Int.reduceLT,reduceNeg,reduceCtorEq,gos,Int.reduceAdd,Int.reduceSub,Int.reduceMul,reduceEq,Es])
      refine Ix 23 [.slice none 0 0] (by simp only [tys]) (by simp only [tys]) rfl hL (by simp [Heap.put_at]; exact hCol) (by simp [Heap.put_at]; rfl) (by simp only [tys]; omega) (by rw [B3]; omega) (fun _ => rfl) ?_
      have hp1:=B0 ((10,8)::base) i
      have nt:(RR.map iu).take C=RR.map iu:=List.take_of_length_le (by simp [rn])
      rcases Gf RR 0 with ⟨z1,z2⟩|⟨n,z1,z2,z3,z4⟩
      · rw [z1] at hix
        have te:=te1 (by rw [z1]; decide)
        obtain ⟨t1,t2,t3,t4⟩:=Ul (p:=P) (T:=T) (row:=row) (x:=i) (by rw [rl,z1]; decide)
        unfold Qy at hHH
        rw [te,t1,t2,t3,t4,hr,tl] at hHH
        have z0:(-1:Int) < 0:=by decide
        repeat (first|((first|refine Bd rfl (by simp only [tys]) ?_|refine Bc rfl (by simp only [tys]) ?_); apply Exists.intro; apply And.intro; (focus (simp -dsimp only [simx,zzC,zzB,tys,ite_self,A8,A2,Ax,Aq,Ao,At,Az,Ac,A5,PV.sk,Ai,Ar,As,Ap,Ay,Ab,Aj,Am,A9,Value.oneCell',Ah,Ba,Aw,A4,A1,Al,An,Ae,Ak,isZ,A6,A3,Ad,Aa,Ag,A0,Af,↓reduceIte,reduceSub,reduceEqDiff,reduceAdd,reduceMul,reduceLT,reduceLeDiff,reduceToNat,reduceLE,Int.reduceLT,reduceNeg,reduceCtorEq,zzL,if_true,if_false,List.length_map,rn,nt] <;> rfl)); apply Exists.intro; apply And.intro; (focus (first|exact hix)))|refine Bg rfl ?_|refine Bb rfl ?_|refine ⟨(dxX (by kernel_rfl)),?_⟩|exact (dxX (by kernel_rfl))|simp -dsimp (maxSteps:=20000000) (disch:=omega) only [simx,zzC,zzB,tys,ite_self,A8,A2,Ax,Aq,Ao,At,Az,Ac,A5,PV.sk,Ai,Ar,As,Ap,Ay,Ab,Aj,Am,A9,Value.oneCell',Ah,Ba,Aw,A4,A1,Al,An,Ae,Ak,isZ,A6,A3,Ad,Aa,Ag,A0,Af,↓reduceIte,reduceSub,reduceEqDiff,reduceAdd,reduceMul,reduceLT,reduceLeDiff,reduceToNat,reduceLE,Int.reduceLT,reduceNeg,reduceCtorEq,zzR,gos,Int.reduceAdd,Int.reduceSub,Int.reduceMul,reduceEq,hT,hp1,z0,List.length_map,rn,nt])
        rw [← hHH]
        refine ⟨?_,fun b hb => ?_⟩
        · funext c
          simp (maxSteps:=20000000) only [Heap.drop_at,Bh,Heap.put_at,Heap.none_at,List.mem_cons,List.not_mem_nil,or_false]
          by_cases e0:c=(3,2)::bT
          · subst e0; simp [j1,j2,j3,j4,j5,j6,j7,j8,Bk,Bi,hR,hQ,hU,hV,hNi,B0,tl]
          by_cases e1:c=(10,8)::base
          · subst e1; simp [j1,j2,j3,j4,j5,j6,j7,j8,Bk,Bi,hR,hQ,hU,hV,hNi,B0,tl]
          by_cases e2:c=(1,1)::base
          · subst e2; simp [j1,j2,j3,j4,j5,j6,j7,j8,Bk,Bi,hR,hQ,hU,hV,hNi,B0,tl]
          by_cases e3:c=(8,2)::base
          · subst e3; simp [j1,j2,j3,j4,j5,j6,j7,j8,Bk,Bi,hR,hQ,hU,hV,hNi,B0,tl]
          by_cases e4:c=(10,7)::base
          · subst e4; simp [j1,j2,j3,j4,j5,j6,j7,j8,Bk,Bi,hR,hQ,hU,hV,hNi,B0,tl]
          by_cases e5:c=(15,7)::base
          · subst e5; simp [j1,j2,j3,j4,j5,j6,j7,j8,Bk,Bi,hR,hQ,hU,hV,hNi,B0,tl]
          by_cases e6:c=(16,10)::base
          · subst e6; simp [j1,j2,j3,j4,j5,j6,j7,j8,Bk,Bi,hR,hQ,hU,hV,hNi,B0,tl]
          by_cases e7:c=(16,18)::base
          · subst e7; simp [j1,j2,j3,j4,j5,j6,j7,j8,Bk,Bi,hR,hQ,hU,hV,hNi,B0,tl]
          by_cases e8:c=(16,26)::base
          · subst e8; simp [j1,j2,j3,j4,j5,j6,j7,j8,Bk,Bi,hR,hQ,hU,hV,hNi,B0,tl]
          by_cases e9:c=(16,33)::base
          · subst e9; simp [j1,j2,j3,j4,j5,j6,j7,j8,Bk,Bi,hR,hQ,hU,hV,hNi,B0,tl]
          by_cases e10:c=(16,11)::base
          · subst e10; simp [j1,j2,j3,j4,j5,j6,j7,j8,Bk,Bi,hR,hQ,hU,hV,hNi,B0,tl]
          by_cases e11:c=(16,19)::base
          · subst e11; simp [j1,j2,j3,j4,j5,j6,j7,j8,Bk,Bi,hR,hQ,hU,hV,hNi,B0,tl]
          by_cases e12:c=(16,27)::base
          · subst e12; simp [j1,j2,j3,j4,j5,j6,j7,j8,Bk,Bi,hR,hQ,hU,hV,hNi,B0,tl]
          by_cases e13:c=(16,34)::base
          · subst e13; simp [j1,j2,j3,j4,j5,j6,j7,j8,Bk,Bi,hR,hQ,hU,hV,hNi,B0,tl]
          by_cases e14:c=(900,i)::base
          · subst e14; simp [j1,j2,j3,j4,j5,j6,j7,j8,Bk,Bi,hR,hQ,hU,hV,hNi,B0,tl]
          simp [e0,e1,e2,e3,e4,e5,e6,e7,e8,e9,e10,e11,e12,e13,e14,j1,j2,j3,j4,j5,j6,j7,j8,Bk,Bi,hR,hQ,hU,hV,hNi,B0,tl]
        · have n0:=nv b hb
          have n1:=nvL b hb
          clear nv nvL
          simp only [List.mem_cons,List.not_mem_nil,or_false] at hb
          rcases hb with rfl|rfl|rfl|rfl|rfl|rfl|rfl|rfl
          all_goals (repeat (first|exact n0|refine Bp ?_|refine Bu ?_ (by simp [Bs,Bn,D9,Be,El,n1])))
      · have zn:(0 + n:Nat)=n:=by omega
        rw [z1,zn] at hix
        have te:=te2 (by rw [z1]; omega)
        obtain ⟨t1,t2,t3,t4⟩:=Ov (p:=P) (T:=T) (row:=row) (x:=i) (by rw [rl,z1]; omega)
        unfold Qy at hHH
        rw [te,t1,t2,t3,t4,rl,z1,zn,show (T.us ++ [RR]).length=r + 1 + 1 by simp [hr],show (XX ++ [(1:Int)]).length=r + 1 + 1 by simp [tl],Int.toNat_natCast] at hHH
        have ln:(RR.map iu)[n]?=some (iu (RR.getD n 0)):=by rw [List.getElem?_map,getD_some rn (by omega)]; rfl
        have ii1:=Zg hP hp (Ce ri (i:=n) z2) z3
        generalize RR.getD n 0=a at ln ii1 hHH
        have z0:¬ (n:Int) < 0:=by omega
        have nC:n < C:=by omega
        have ilt:i < i + 1:=Nat.lt_succ_self i
        have ile:i + 1 ≤ i + 1:=Nat.le_refl _
        have lt:∀ x:PV,(L ++ [x]).take i=L:=fun x => List.take_left' hL
        have ld:∀ x:PV,(L ++ [x]).drop (i + 1)=[]:=fun x => List.drop_eq_nil_of_le (by simp [hL])
        repeat (first|((first|refine Bd rfl (by simp only [tys]) ?_|refine Bc rfl (by simp only [tys]) ?_); apply Exists.intro; apply And.intro; (focus (simp -dsimp only [simx,zzC,zzB,tys,ite_self,A8,A2,Ax,Aq,Ao,At,Az,Ac,A5,PV.sk,Ai,Ar,As,Ap,Ay,Ab,Aj,Am,A9,Value.oneCell',Ah,Ba,Aw,A4,A1,Al,An,Ae,Ak,isZ,A6,A3,Ad,Aa,Ag,A0,Af,↓reduceIte,reduceSub,reduceEqDiff,reduceAdd,reduceMul,reduceLT,reduceLeDiff,reduceToNat,reduceLE,Int.reduceLT,reduceNeg,reduceCtorEq,zzL,if_true,if_false,List.length_map,rn,nt] <;> rfl)); apply Exists.intro; apply And.intro; (focus (first|exact hix|exact ii1)))|refine ⟨(dxX (by kernel_rfl)),?_⟩|exact (dxX (by kernel_rfl))|simp -dsimp (maxSteps:=20000000) (disch:=omega) only [simx,zzC,zzB,tys,ite_self,A8,A2,Ax,Aq,Ao,At,Az,Ac,A5,PV.sk,Ai,Ar,As,Ap,Ay,Ab,Aj,Am,A9,Value.oneCell',Ah,Ba,Aw,A4,A1,Al,An,Ae,Ak,isZ,A6,A3,Ad,Aa,Ag,A0,Af,↓reduceIte,reduceSub,reduceEqDiff,reduceAdd,reduceMul,reduceLT,reduceLeDiff,reduceToNat,reduceLE,Int.reduceLT,reduceNeg,reduceCtorEq,gos,Int.reduceAdd,Int.reduceSub,Int.reduceMul,reduceEq,hT,hp1,z0,List.length_map,rn,nt,ln,nC])
        refine Bb rfl ?_
        repeat (first|refine ⟨(dxX (by kernel_rfl)),?_⟩|exact (dxX (by kernel_rfl))|simp -dsimp (maxSteps:=20000000) (disch:=omega) only [simx,zzC,zzB,tys,ite_self,A8,A2,Ax,Aq,Ao,At,Az,Ac,A5,PV.sk,Ai,Ar,As,Ap,Ay,Ab,Aj,Am,A9,Value.oneCell',Ah,Ba,Aw,A4,A1,Al,An,Ae,Ak,isZ,A6,A3,Ad,Aa,Ag,A0,Af,↓reduceIte,reduceSub,reduceEqDiff,reduceAdd,reduceMul,reduceLT,reduceLeDiff,reduceToNat,reduceLE,Int.reduceLT,reduceNeg,reduceCtorEq,gos,Int.reduceAdd,Int.reduceSub,Int.reduceMul,reduceEq,j4])
        refine Qe ((900,i)::base) rfl ?_
        repeat (first|refine ⟨(dxX (by kernel_rfl)),?_⟩|exact (dxX (by kernel_rfl))|simp -dsimp (maxSteps:=20000000) (disch:=omega) only [simx,zzC,zzB,tys,ite_self,A8,A2,Ax,Aq,Ao,At,Az,Ac,A5,PV.sk,Ai,Ar,As,Ap,Ay,Ab,Aj,Am,A9,Value.oneCell',Ah,Ba,Aw,A4,A1,Al,An,Ae,Ak,isZ,A6,A3,Ad,Aa,Ag,A0,Af,↓reduceIte,reduceSub,reduceEqDiff,reduceAdd,reduceMul,reduceLT,reduceLeDiff,reduceToNat,reduceLE,Int.reduceLT,reduceNeg,reduceCtorEq,gos,Int.reduceAdd,Int.reduceSub,Int.reduceMul,reduceEq])
        refine D0 (z:=1) (cs:=XX.map iu) 22 [.int .u64 0] [iu 1] (by simp only [tys]) (by simp only [tys]) rfl (by decide) (by simp [Heap.put_at]) (by simp [tl]) (by simp [tl]) (by simp [Heap.put_at]; rfl) rfl (by simp only [tys]; omega) (by rw [B3]; omega) ?_
        repeat (first|refine ⟨(dxX (by kernel_rfl)),?_⟩|exact (dxX (by kernel_rfl))|simp -dsimp (maxSteps:=20000000) (disch:=omega) only [simx,zzC,zzB,tys,ite_self,A8,A2,Ax,Aq,Ao,At,Az,Ac,A5,PV.sk,Ai,Ar,As,Ap,Ay,Ab,Aj,Am,A9,Value.oneCell',Ah,Ba,Aw,A4,A1,Al,An,Ae,Ak,isZ,A6,A3,Ad,Aa,Ag,A0,Af,↓reduceIte,reduceSub,reduceEqDiff,reduceAdd,reduceMul,reduceLT,reduceLeDiff,reduceToNat,reduceLE,Int.reduceLT,reduceNeg,reduceCtorEq,gos,Int.reduceAdd,Int.reduceSub,Int.reduceMul,reduceEq,List.length_append,hL,lt,ld,ilt,ile,Bi,List.length_map,hr,I.ql,I.vl,I.rl])
        refine Bb rfl ?_
        repeat (first|refine ⟨(dxX (by kernel_rfl)),?_⟩|exact (dxX (by kernel_rfl))|simp -dsimp (maxSteps:=20000000) (disch:=omega) only [simx,zzC,zzB,tys,ite_self,A8,A2,Ax,Aq,Ao,At,Az,Ac,A5,PV.sk,Ai,Ar,As,Ap,Ay,Ab,Aj,Am,A9,Value.oneCell',Ah,Ba,Aw,A4,A1,Al,An,Ae,Ak,isZ,A6,A3,Ad,Aa,Ag,A0,Af,↓reduceIte,reduceSub,reduceEqDiff,reduceAdd,reduceMul,reduceLT,reduceLeDiff,reduceToNat,reduceLE,Int.reduceLT,reduceNeg,reduceCtorEq,gos,Int.reduceAdd,Int.reduceSub,Int.reduceMul,reduceEq,j5,List.length_map,rn,nt])
        refine Bb rfl ?_
        repeat (first|refine ⟨(dxX (by kernel_rfl)),?_⟩|exact (dxX (by kernel_rfl))|simp -dsimp (maxSteps:=20000000) (disch:=omega) only [simx,zzC,zzB,tys,ite_self,A8,A2,Ax,Aq,Ao,At,Az,Ac,A5,PV.sk,Ai,Ar,As,Ap,Ay,Ab,Aj,Am,A9,Value.oneCell',Ah,Ba,Aw,A4,A1,Al,An,Ae,Ak,isZ,A6,A3,Ad,Aa,Ag,A0,Af,↓reduceIte,reduceSub,reduceEqDiff,reduceAdd,reduceMul,reduceLT,reduceLeDiff,reduceToNat,reduceLE,Int.reduceLT,reduceNeg,reduceCtorEq,gos,Int.reduceAdd,Int.reduceSub,Int.reduceMul,reduceEq])
        refine D0 (z:=1) (cs:=T.rows.map ii) 3 [.int .i64 0] [ii i] (by simp only [tys]) (by simp only [tys]) rfl (by decide) (by simp [Heap.put_at]; exact hR) (by simp [hr,I.ql,I.vl,I.rl]) (by simp [hr,I.ql,I.vl,I.rl]) (by simp [Heap.put_at]; rfl) rfl (by simp only [tys]; omega) (by rw [B3]; omega) ?_
        repeat (first|refine ⟨(dxX (by kernel_rfl)),?_⟩|exact (dxX (by kernel_rfl))|simp -dsimp (maxSteps:=20000000) (disch:=omega) only [simx,zzC,zzB,tys,ite_self,A8,A2,Ax,Aq,Ao,At,Az,Ac,A5,PV.sk,Ai,Ar,As,Ap,Ay,Ab,Aj,Am,A9,Value.oneCell',Ah,Ba,Aw,A4,A1,Al,An,Ae,Ak,isZ,A6,A3,Ad,Aa,Ag,A0,Af,↓reduceIte,reduceSub,reduceEqDiff,reduceAdd,reduceMul,reduceLT,reduceLeDiff,reduceToNat,reduceLE,Int.reduceLT,reduceNeg,reduceCtorEq,gos,Int.reduceAdd,Int.reduceSub,Int.reduceMul,reduceEq,hT,Bi,List.length_map,hr,I.ql,I.vl,I.rl])
        refine Bb rfl ?_
        repeat (first|refine ⟨(dxX (by kernel_rfl)),?_⟩|exact (dxX (by kernel_rfl))|simp -dsimp (maxSteps:=20000000) (disch:=omega) only [simx,zzC,zzB,tys,ite_self,A8,A2,Ax,Aq,Ao,At,Az,Ac,A5,PV.sk,Ai,Ar,As,Ap,Ay,Ab,Aj,Am,A9,Value.oneCell',Ah,Ba,Aw,A4,A1,Al,An,Ae,Ak,isZ,A6,A3,Ad,Aa,Ag,A0,Af,↓reduceIte,reduceSub,reduceEqDiff,reduceAdd,reduceMul,reduceLT,reduceLeDiff,reduceToNat,reduceLE,Int.reduceLT,reduceNeg,reduceCtorEq,gos,Int.reduceAdd,Int.reduceSub,Int.reduceMul,reduceEq,j6,List.length_map,rn,nt])
        refine Bb rfl ?_
        repeat (first|refine ⟨(dxX (by kernel_rfl)),?_⟩|exact (dxX (by kernel_rfl))|simp -dsimp (maxSteps:=20000000) (disch:=omega) only [simx,zzC,zzB,tys,ite_self,A8,A2,Ax,Aq,Ao,At,Az,Ac,A5,PV.sk,Ai,Ar,As,Ap,Ay,Ab,Aj,Am,A9,Value.oneCell',Ah,Ba,Aw,A4,A1,Al,An,Ae,Ak,isZ,A6,A3,Ad,Aa,Ag,A0,Af,↓reduceIte,reduceSub,reduceEqDiff,reduceAdd,reduceMul,reduceLT,reduceLeDiff,reduceToNat,reduceLE,Int.reduceLT,reduceNeg,reduceCtorEq,gos,Int.reduceAdd,Int.reduceSub,Int.reduceMul,reduceEq])
        refine D0 (z:=1) (cs:=T.cols.map ii) 3 [.int .i64 0] [ii n] (by simp only [tys]) (by simp only [tys]) rfl (by decide) (by simp [Heap.put_at]; exact hQ) (by simp [hr,I.ql,I.vl,I.rl]) (by simp [hr,I.ql,I.vl,I.rl]) (by simp [Heap.put_at]; rfl) rfl (by simp only [tys]; omega) (by rw [B3]; omega) ?_
        repeat (first|refine ⟨(dxX (by kernel_rfl)),?_⟩|exact (dxX (by kernel_rfl))|simp -dsimp (maxSteps:=20000000) (disch:=omega) only [simx,zzC,zzB,tys,ite_self,A8,A2,Ax,Aq,Ao,At,Az,Ac,A5,PV.sk,Ai,Ar,As,Ap,Ay,Ab,Aj,Am,A9,Value.oneCell',Ah,Ba,Aw,A4,A1,Al,An,Ae,Ak,isZ,A6,A3,Ad,Aa,Ag,A0,Af,↓reduceIte,reduceSub,reduceEqDiff,reduceAdd,reduceMul,reduceLT,reduceLeDiff,reduceToNat,reduceLE,Int.reduceLT,reduceNeg,reduceCtorEq,gos,Int.reduceAdd,Int.reduceSub,Int.reduceMul,reduceEq,hT,Bi,List.length_map,hr,I.ql,I.vl,I.rl])
        refine Bb rfl ?_
        repeat (first|refine ⟨(dxX (by kernel_rfl)),?_⟩|exact (dxX (by kernel_rfl))|simp -dsimp (maxSteps:=20000000) (disch:=omega) only [simx,zzC,zzB,tys,ite_self,A8,A2,Ax,Aq,Ao,At,Az,Ac,A5,PV.sk,Ai,Ar,As,Ap,Ay,Ab,Aj,Am,A9,Value.oneCell',Ah,Ba,Aw,A4,A1,Al,An,Ae,Ak,isZ,A6,A3,Ad,Aa,Ag,A0,Af,↓reduceIte,reduceSub,reduceEqDiff,reduceAdd,reduceMul,reduceLT,reduceLeDiff,reduceToNat,reduceLE,Int.reduceLT,reduceNeg,reduceCtorEq,gos,Int.reduceAdd,Int.reduceSub,Int.reduceMul,reduceEq,j7,List.length_map,rn,nt])
        refine Bb rfl ?_
        repeat (first|refine ⟨(dxX (by kernel_rfl)),?_⟩|exact (dxX (by kernel_rfl))|simp -dsimp (maxSteps:=20000000) (disch:=omega) only [simx,zzC,zzB,tys,ite_self,A8,A2,Ax,Aq,Ao,At,Az,Ac,A5,PV.sk,Ai,Ar,As,Ap,Ay,Ab,Aj,Am,A9,Value.oneCell',Ah,Ba,Aw,A4,A1,Al,An,Ae,Ak,isZ,A6,A3,Ad,Aa,Ag,A0,Af,↓reduceIte,reduceSub,reduceEqDiff,reduceAdd,reduceMul,reduceLT,reduceLeDiff,reduceToNat,reduceLE,Int.reduceLT,reduceNeg,reduceCtorEq,gos,Int.reduceAdd,Int.reduceSub,Int.reduceMul,reduceEq])
        refine D0 (z:=1) (cs:=T.us.map (lv C)) 23 [.slice none 0 0] [lv C RR] (by simp only [tys]) (by simp only [tys]) rfl (by decide) (by simp [Heap.put_at]; exact hU) (by simp [hr,I.ql,I.vl,I.rl]) (by simp [hr,I.ql,I.vl,I.rl]) (by simp [Heap.put_at]; rfl) rfl (by simp only [tys]; omega) (by rw [B3]; omega) ?_
        repeat (first|refine ⟨(dxX (by kernel_rfl)),?_⟩|exact (dxX (by kernel_rfl))|simp -dsimp (maxSteps:=20000000) (disch:=omega) only [simx,zzC,zzB,tys,ite_self,A8,A2,Ax,Aq,Ao,At,Az,Ac,A5,PV.sk,Ai,Ar,As,Ap,Ay,Ab,Aj,Am,A9,Value.oneCell',Ah,Ba,Aw,A4,A1,Al,An,Ae,Ak,isZ,A6,A3,Ad,Aa,Ag,A0,Af,↓reduceIte,reduceSub,reduceEqDiff,reduceAdd,reduceMul,reduceLT,reduceLeDiff,reduceToNat,reduceLE,Int.reduceLT,reduceNeg,reduceCtorEq,gos,Int.reduceAdd,Int.reduceSub,Int.reduceMul,reduceEq,hT,Bi,List.length_map,hr,I.ql,I.vl,I.rl])
        refine Bb rfl ?_
        repeat (first|refine ⟨(dxX (by kernel_rfl)),?_⟩|exact (dxX (by kernel_rfl))|simp -dsimp (maxSteps:=20000000) (disch:=omega) only [simx,zzC,zzB,tys,ite_self,A8,A2,Ax,Aq,Ao,At,Az,Ac,A5,PV.sk,Ai,Ar,As,Ap,Ay,Ab,Aj,Am,A9,Value.oneCell',Ah,Ba,Aw,A4,A1,Al,An,Ae,Ak,isZ,A6,A3,Ad,Aa,Ag,A0,Af,↓reduceIte,reduceSub,reduceEqDiff,reduceAdd,reduceMul,reduceLT,reduceLeDiff,reduceToNat,reduceLE,Int.reduceLT,reduceNeg,reduceCtorEq,gos,Int.reduceAdd,Int.reduceSub,Int.reduceMul,reduceEq,j8,List.length_map,rn,nt])
        refine Bb rfl ?_
        repeat (first|refine ⟨(dxX (by kernel_rfl)),?_⟩|exact (dxX (by kernel_rfl))|simp -dsimp (maxSteps:=20000000) (disch:=omega) only [simx,zzC,zzB,tys,ite_self,A8,A2,Ax,Aq,Ao,At,Az,Ac,A5,PV.sk,Ai,Ar,As,Ap,Ay,Ab,Aj,Am,A9,Value.oneCell',Ah,Ba,Aw,A4,A1,Al,An,Ae,Ak,isZ,A6,A3,Ad,Aa,Ag,A0,Af,↓reduceIte,reduceSub,reduceEqDiff,reduceAdd,reduceMul,reduceLT,reduceLeDiff,reduceToNat,reduceLE,Int.reduceLT,reduceNeg,reduceCtorEq,gos,Int.reduceAdd,Int.reduceSub,Int.reduceMul,reduceEq])
        refine D0 (z:=1) (cs:=T.vs.map iu) 22 [.int .u64 0] [iu (D7 P a)] (by simp only [tys]) (by simp only [tys]) rfl (by decide) (by simp [Heap.put_at]; exact hV) (by simp [hr,I.ql,I.vl,I.rl]) (by simp [hr,I.ql,I.vl,I.rl]) (by simp [Heap.put_at]; rfl) rfl (by simp only [tys]; omega) (by rw [B3]; omega) ?_
        repeat (first|refine ⟨(dxX (by kernel_rfl)),?_⟩|exact (dxX (by kernel_rfl))|simp -dsimp (maxSteps:=20000000) (disch:=omega) only [simx,zzC,zzB,tys,ite_self,A8,A2,Ax,Aq,Ao,At,Az,Ac,A5,PV.sk,Ai,Ar,As,Ap,Ay,Ab,Aj,Am,A9,Value.oneCell',Ah,Ba,Aw,A4,A1,Al,An,Ae,Ak,isZ,A6,A3,Ad,Aa,Ag,A0,Af,↓reduceIte,reduceSub,reduceEqDiff,reduceAdd,reduceMul,reduceLT,reduceLeDiff,reduceToNat,reduceLE,Int.reduceLT,reduceNeg,reduceCtorEq,gos,Int.reduceAdd,Int.reduceSub,Int.reduceMul,reduceEq,hT,Bi,List.length_map,hr,I.ql,I.vl,I.rl])
        repeat (first|refine Bg rfl ?_|refine Bb rfl ?_|refine ⟨(dxX (by kernel_rfl)),?_⟩|exact (dxX (by kernel_rfl))|simp -dsimp (maxSteps:=20000000) (disch:=omega) only [simx,zzC,zzB,tys,ite_self,A8,A2,Ax,Aq,Ao,At,Az,Ac,A5,PV.sk,Ai,Ar,As,Ap,Ay,Ab,Aj,Am,A9,Value.oneCell',Ah,Ba,Aw,A4,A1,Al,An,Ae,Ak,isZ,A6,A3,Ad,Aa,Ag,A0,Af,↓reduceIte,reduceSub,reduceEqDiff,reduceAdd,reduceMul,reduceLT,reduceLeDiff,reduceToNat,reduceLE,Int.reduceLT,reduceNeg,reduceCtorEq,zzR,gos,Int.reduceAdd,Int.reduceSub,Int.reduceMul,reduceEq])
        rw [← hHH]
        refine ⟨?_,fun b hb => ?_⟩
        · funext c
          simp (maxSteps:=20000000) only [Heap.drop_at,Bh,Heap.put_at,Heap.none_at,List.mem_cons,List.not_mem_nil,or_false]
          by_cases e0:c=(3,2)::bT
          · subst e0; simp [j1,j2,j3,j4,j5,j6,j7,j8,Bk,Bi,hR,hQ,hU,hV,hNi,B0,tl,hr,I.ql,I.vl,I.rl]
          by_cases e1:c=(10,8)::base
          · subst e1; simp [j1,j2,j3,j4,j5,j6,j7,j8,Bk,Bi,hR,hQ,hU,hV,hNi,B0,tl,hr,I.ql,I.vl,I.rl]
          by_cases e2:c=(1,1)::base
          · subst e2; simp [j1,j2,j3,j4,j5,j6,j7,j8,Bk,Bi,hR,hQ,hU,hV,hNi,B0,tl,hr,I.ql,I.vl,I.rl]
          by_cases e3:c=(8,2)::base
          · subst e3; simp [j1,j2,j3,j4,j5,j6,j7,j8,Bk,Bi,hR,hQ,hU,hV,hNi,B0,tl,hr,I.ql,I.vl,I.rl]
          by_cases e4:c=(10,7)::base
          · subst e4; simp [j1,j2,j3,j4,j5,j6,j7,j8,Bk,Bi,hR,hQ,hU,hV,hNi,B0,tl,hr,I.ql,I.vl,I.rl]
          by_cases e5:c=(15,7)::base
          · subst e5; simp [j1,j2,j3,j4,j5,j6,j7,j8,Bk,Bi,hR,hQ,hU,hV,hNi,B0,tl,hr,I.ql,I.vl,I.rl]
          by_cases e6:c=(16,10)::base
          · subst e6; simp [j1,j2,j3,j4,j5,j6,j7,j8,Bk,Bi,hR,hQ,hU,hV,hNi,B0,tl,hr,I.ql,I.vl,I.rl]
          by_cases e7:c=(16,18)::base
          · subst e7; simp [j1,j2,j3,j4,j5,j6,j7,j8,Bk,Bi,hR,hQ,hU,hV,hNi,B0,tl,hr,I.ql,I.vl,I.rl]
          by_cases e8:c=(16,26)::base
          · subst e8; simp [j1,j2,j3,j4,j5,j6,j7,j8,Bk,Bi,hR,hQ,hU,hV,hNi,B0,tl,hr,I.ql,I.vl,I.rl]
          by_cases e9:c=(16,33)::base
          · subst e9; simp [j1,j2,j3,j4,j5,j6,j7,j8,Bk,Bi,hR,hQ,hU,hV,hNi,B0,tl,hr,I.ql,I.vl,I.rl]
          by_cases e10:c=(16,11)::base
          · subst e10; simp [j1,j2,j3,j4,j5,j6,j7,j8,Bk,Bi,hR,hQ,hU,hV,hNi,B0,tl,hr,I.ql,I.vl,I.rl]
          by_cases e11:c=(16,19)::base
          · subst e11; simp [j1,j2,j3,j4,j5,j6,j7,j8,Bk,Bi,hR,hQ,hU,hV,hNi,B0,tl,hr,I.ql,I.vl,I.rl]
          by_cases e12:c=(16,27)::base
          · subst e12; simp [j1,j2,j3,j4,j5,j6,j7,j8,Bk,Bi,hR,hQ,hU,hV,hNi,B0,tl,hr,I.ql,I.vl,I.rl]
          by_cases e13:c=(16,34)::base
          · subst e13; simp [j1,j2,j3,j4,j5,j6,j7,j8,Bk,Bi,hR,hQ,hU,hV,hNi,B0,tl,hr,I.ql,I.vl,I.rl]
          by_cases e14:c=(900,i)::base
          · subst e14; simp [j1,j2,j3,j4,j5,j6,j7,j8,Bk,Bi,hR,hQ,hU,hV,hNi,B0,tl,hr,I.ql,I.vl,I.rl]
          simp [e0,e1,e2,e3,e4,e5,e6,e7,e8,e9,e10,e11,e12,e13,e14,j1,j2,j3,j4,j5,j6,j7,j8,Bk,Bi,hR,hQ,hU,hV,hNi,B0,tl,hr,I.ql,I.vl,I.rl]
        · have n0:=nv b hb
          have n1:=nvL b hb
          clear nv nvL
          simp only [List.mem_cons,List.not_mem_nil,or_false] at hb
          rcases hb with rfl|rfl|rfl|rfl|rfl|rfl|rfl|rfl
          all_goals (repeat (first|exact n0|refine Bp ?_|refine Bu ?_ (by simp [Bs,Bn,D9,Be,El,n1])))
end Go.Proofs.Ythnfphgjfpcpbaa.TM
namespace Go.Proofs.Ythnfphgjfpcpbaa.TM
open Go
def Li (h:Heap) (p:PV):Option IV:=match Cl h p with
  | some (.i x) => some x
  | _ => none
def Hw (h:Heap):PV → Option PV
  | .view b off z n top => match h b with
    | some (.var cs) => if cs.length=top ∧ off + n * z ≤ cs.length then (Cv (Li h) ((cs.drop off).take (n * z))).map fun xs => .i (.l n xs) else none
    | _ => Cl h (.view b off z n top)
  | p => Cl h p
def I8 (h:Heap):PV → Option PV
  | .agg cs => (Cv (Hw h) cs).map .agg
  | p => Hw h p
def L7 (h:Heap):PV → Option PV
  | .tup cs => (Cv (I8 h) cs).map .tup
  | p => I8 h p
section
variable {P:Program} {β:Pl} {h1:Heap} {w:World}
theorem J7 (H1 : HInv β h1 w) {R : Addr → Value → Prop} {β0 : Pl} {h0 : Heap} {S0 : Nat → Nat} {p q : PV} {v : Value} (hp : Rep β h1 w p v) (hl : Cl h1 p = some q)
    (hR1:∀ a v,Rd β h1 w a v → R a v) (hR2:∀ b x,h1 b=some x → ∀ j v,w.cell? ⟨β b,j,none⟩=some v → R ⟨β b,j,none⟩ v):RepP β0 h0 R S0 q v :=
  Hi H1 hp hl (fun b _ fz cs hb => ⟨fz,hb⟩) hR1 fun b _ => hR2 b
theorem Nq (H1 : HInv β h1 w) {R : Addr → Value → Prop} {β0 : Pl} {h0 : Heap} {S0 : Nat → Nat} {p q : PV} {v : Value} (hp : Rep β h1 w p v) (hl : Hw h1 p = some q)
    (hR1:∀ a v,Rd β h1 w a v → R a v) (hR2:∀ b x,h1 b=some x → ∀ j v,w.cell? ⟨β b,j,none⟩=some v → R ⟨β b,j,none⟩ v):RepP β0 h0 R S0 q v:=by
  unfold Hw at hl
  split at hl
  · rename_i b off z n top
    split at hl
    · rename_i cs hb
      split at hl
      case isFalse => cases hl
      rename_i hc
      cases hm:Cv (Li h1) ((cs.drop off).take (n * z)) with
      | none => simp [hm] at hl
      | some xs =>
        simp [hm] at hl
        subst hl
        obtain ⟨hlen,hg⟩:=Dq hm
        cases hp with
        | view _ _ _ _ _ x a cap hbx hrow ht hn ha hva =>
          rw [hb] at hbx; cases hbx
          rcases hva hc.1 with ⟨h0,hc0,_⟩|⟨h0,hs0,_⟩
          · subst h0
            have:xs=[]:=List.eq_nil_of_length_eq_zero (by rw [hlen]; simp)
            subst this
            cases a with
            | none => rw [hc0]; exact .i _ _ .nil
            | some a => exact .i _ _ (.l _ _ a cap (fun _ => undef) hn (fun j hj => by simp at hj) (fun j hj => by simp at hj) (fun j y hj => by simp at hj))
          · subst h0
            obtain ⟨c,e,hcc,hr,hcell⟩:=Ek H1 hb
            have hlen2:((cs.drop off).take (n * z)).length=n * z:=by simp; omega
            refine .i _ _ (.l _ _ _ cap (fun j => c.getD (off + j) undef) hn (fun j hj => ?_) (fun j hj => ?_) (fun j y hj => ?_))
            · rw [add_lit]
              exact hR2 b _ hb _ _ (hcell _ (by have:=hr.1; omega))
            · have hlt:off + j < cs.length:=by omega
              exact (hr.2 (off + j) cs[off + j] (List.getElem?_eq_getElem hlt)).1
            · have hjl:j < xs.length:=(List.getElem?_eq_some_iff.1 hj).1
              have hj2:j < ((cs.drop off).take (n * z)).length:=by omega
              obtain ⟨x,hx,hxy⟩:=hg j _ (List.getElem?_eq_getElem hj2)
              rw [hxy] at hj; cases hj
              unfold Li at hx
              split at hx
              · rename_i x' hlc
                cases hx
                have h7:=(hr.2 _ _ (Dd (List.getElem?_eq_getElem hj2)).2).2
                have h8:RepP β h1 R (szW w) (.i _) (c.getD (off + j) undef):=J7 H1 h7 hlc hR1 hR2
                generalize c.getD (off + j) undef=u at h8
                cases h8 with|i _ _ h9 => exact h9
              · cases hx
    · exact J7 H1 hp hl hR1 hR2
  · exact J7 H1 hp hl hR1 hR2
theorem Ns (H1 : HInv β h1 w) {R : Addr → Value → Prop} {β0 : Pl} {h0 : Heap} {S0 : Nat → Nat} {p q : PV} {v : Value} (hp : Rep β h1 w p v) (hl : I8 h1 p = some q)
    (hR1:∀ a v,Rd β h1 w a v → R a v) (hR2:∀ b x,h1 b=some x → ∀ j v,w.cell? ⟨β b,j,none⟩=some v → R ⟨β b,j,none⟩ v):RepP β0 h0 R S0 q v:=by
  unfold I8 at hl
  split at hl
  · rename_i cs
    cases hm:Cv (Hw h1) cs with
    | none => simp [hm] at hl
    | some qs =>
      simp [hm] at hl
      subst hl
      obtain ⟨hlen,hg⟩:=Dq hm
      cases hp with
      | agg cs arr hla hs =>
        refine .agg _ _ (by omega) fun j x hj => ?_
        have hlt:j < cs.length:=by rw [← hlen]; exact (List.getElem?_eq_some_iff.1 hj).1
        obtain ⟨y,hy,hqy⟩:=hg j _ (List.getElem?_eq_getElem hlt)
        rw [hqy] at hj; cases hj
        exact Nq H1 (hs j _ (List.getElem?_eq_getElem hlt)) hy hR1 hR2
  · exact Nq H1 hp hl hR1 hR2
theorem Vp (H1 : HInv β h1 w) {R : Addr → Value → Prop} {β0 : Pl} {h0 : Heap} {S0 : Nat → Nat} {p q : PV} {v : Value} (hp : Rep β h1 w p v) (hl : L7 h1 p = some q)
    (hR1:∀ a v,Rd β h1 w a v → R a v) (hR2:∀ b x,h1 b=some x → ∀ j v,w.cell? ⟨β b,j,none⟩=some v → R ⟨β b,j,none⟩ v):RepP β0 h0 R S0 q v:=by
  unfold L7 at hl
  split at hl
  · rename_i cs
    cases hm:Cv (I8 h1) cs with
    | none => simp [hm] at hl
    | some qs =>
      simp [hm] at hl
      subst hl
      obtain ⟨hlen,hg⟩:=Dq hm
      cases hp with
      | tup cs arr hla hs =>
        refine .tup _ _ (by omega) fun j x hj => ?_
        have hlt:j < cs.length:=by rw [← hlen]; exact (List.getElem?_eq_some_iff.1 hj).1
        obtain ⟨y,hy,hqy⟩:=hg j _ (List.getElem?_eq_getElem hlt)
        rw [hqy] at hj; cases hj
        exact Ns H1 (hs j _ (List.getElem?_eq_getElem hlt)) hy hR1 hR2
  · exact Ns H1 hp hl hR1 hR2
end
theorem CallsP.of_low {P:Program} (hm:P.follows .mixedOrders=true) {g:FuncId} {args:List PV} {v:PV} (hv:Fc Heap.none v=some v) (h:∀ base,∃ u hu,CallR P base g args Heap.none u hu ∧ L7 hu u=some v):CallsP P g args v:=by
  intro base
  obtain ⟨u,hu,h1,h2⟩:=h base
  refine ⟨v,Heap.none,CallR.of_sound ?_,hv⟩
  intro β w rargs H Hr
  refine (Km hm _ _ _ _ _ _ h1 β w rargs H Hr).mono ?_
  rintro e w' ⟨rv,β1,rfl,H1,hrep,E1⟩
  refine ⟨rv,β,rfl,HInv.none fun blk hb => Nat.lt_of_lt_of_le (H.flt blk hb) E1.size,?_,⟨E1.os,E1.tape,E1.output,E1.size,rfl,fun blk hl hs => ⟨Ds _ _,(E1.stab blk hl (Ds _ _)).2⟩,fun b x hb => (by cases hb),E1.sz⟩⟩
  refine Vp H1 hrep h2 (fun a v hrd => ⟨⟨by have:=hrd.1.1; rw [E1.F] at this; exact this,Ds _ _⟩,hrd.2⟩) fun b x hb j v hcell => ⟨⟨by have:=H1.nf b x hb; rw [E1.F] at this; exact this,Ds _ _⟩,hcell⟩
end Go.Proofs.Ythnfphgjfpcpbaa.TM
namespace Go.Proofs.Ythnfphgjfpcpbaa.TM
open Go Go.RowKit
def Cq (b:Name) (f:Nat → List Int) (n:Nat):Name → Option Box
  | (900,k)::c => if c=b ∧ k < n ∧ (f k).length ≠ 0 then some (.row false ((f k).map iu)) else none
  | _ => none
def C1 (b:Name) (f:Nat → List Int) (n:Nat) (h:Heap):Heap:=fun c => match Cq b f n c with
  | some x => some x
  | none => h c
def Ld (b:Name) (f:Nat → List Int) (k:Nat):PV:=rowP ((900,k)::b) 1 (f k).length ((f k).map iu)
def Cw (b:Name) (f:Nat → List Int) (n:Nat):List PV:=(List.range n).map (Ld b f)
theorem C7 (b:Name) (f:Nat → List Int) (n:Nat):(Cw b f n).length=n:=by simp [Cw]
theorem Lc (b:Name) (f:Nat → List Int) (n:Nat):Cw b f (n + 1)=Cw b f n ++ [Ld b f n]:=by simp [Cw,List.range_succ]
theorem J2 {b:Name} {f g:Nat → List Int} {n:Nat} (h:∀ k,k < n → f k=g k):Cw b f n=Cw b g n:=List.map_congr_left fun k hk => by unfold Ld; rw [h k (List.mem_range.1 hk)]
theorem E7 {b:Name} {f:Nat → List Int} {n k:Nat} (h:k < n):(Cw b f n)[k]?=some (Ld b f k):=by
  unfold Cw; rw [List.getElem?_map,List.getElem?_range h]; rfl
theorem Rs {b:Name} {f g:Nat → List Int} {n k:Nat} (h:k < n) (hg:∀ m,m ≠ k → g m=f m):(Cw b f n).take k ++ [Ld b g k] ++ (Cw b f n).drop (k + 1)=Cw b g n:=by
  apply List.ext_getElem?
  intro m
  have tl:((Cw b f n).take k).length=k:=by rw [List.length_take,C7]; omega
  by_cases h1:m < k
  · rw [List.append_assoc,List.getElem?_append_left (by omega),List.getElem?_take,if_pos h1,E7 (by omega),E7 (by omega)]
    unfold Ld; rw [hg m (by omega)]
  · rw [List.append_assoc,List.getElem?_append_right (by omega),tl]
    by_cases h2:m=k
    · subst h2; rw [Nat.sub_self,E7 h]; rfl
    · rw [List.getElem?_append_right (by simp; omega),List.getElem?_drop,List.length_singleton,show k + 1 + (m - k - 1)=m by omega]
      by_cases h3:m < n
      · rw [E7 h3,E7 h3]; unfold Ld; rw [hg m h2]
      · rw [List.getElem?_eq_none (by rw [C7]; omega),List.getElem?_eq_none (by rw [C7]; omega)]
theorem Kw {b c:Name} {f:Nat → List Int} {n:Nat} (h:c ∈ Bs (Cw b f n)):∃ k,c=(900,k)::b:=by
  obtain ⟨p,hp,hc⟩:=Pp h
  obtain ⟨k,_,rfl⟩:=List.mem_map.1 hp
  unfold Ld at hc
  exact ⟨k,(Be.1 hc).2⟩
theorem Ad7 {b c:Name} {f:Nat → List Int} {n:Nat} {cs:List PV}:Cq b f n c ≠ some (.var cs):=by
  unfold Cq
  split
  · split <;> simp
  · simp
theorem No {b c:Name} {f:Nat → List Int} {n:Nat} {h:Heap} (h1:Dw c h):Dw c (C1 b f n h):=fun d ds hd => by
  unfold C1 at hd
  split at hd
  · rename_i x hx; cases hd; exact absurd hx Ad7
  · exact h1 d ds hd
theorem Gc {b:Name} {f:Nat → List Int} {n k:Nat} (hk:k < n) (hl:(f k).length ≠ 0):Cq b f n ((900,k)::b)=some (.row false ((f k).map iu)):=if_pos ⟨rfl,hk,hl⟩
theorem Ks {b:Name} {f:Nat → List Int} {n k:Nat} (hk:n ≤ k):Cq b f n ((900,k)::b)=none:=if_neg (by omega)
theorem Kt {b:Name} {f:Nat → List Int} {n k:Nat} (hl:(f k).length=0):Cq b f n ((900,k)::b)=none:=if_neg (by omega)
theorem O8 {b c:Name} {f g:Nat → List Int} {n m i:Nat} (hc:c ≠ (900,i)::b) (h:∀ k,k ≠ i → f k=g k) (hn:∀ k,k ≠ i → (k < n ↔ k < m)):Cq b f n c=Cq b g m c:=by
  unfold Cq
  split
  · rename_i k d
    by_cases e:d=b
    · subst e
      have hk:k ≠ i:=fun e => hc (by rw [e])
      rw [h k hk]
      simp only [hn k hk]
    · rw [if_neg (by simp [e]),if_neg (by simp [e])]
  · rfl
theorem Uy {b c:Name} {f g:Nat → List Int} {n:Nat} (h:∀ k,k < n → f k=g k):Cq b f n c=Cq b g n c:=by
  unfold Cq
  split
  · rename_i k d
    by_cases e:k < n
    · rw [h k e]
    · rw [if_neg (by simp [e]),if_neg (by simp [e])]
  · rfl
def csF (T:Tk) (k:Nat):List Int:=T.cs.getD k []
def mtB (R C:Nat) (l:List Int):Box:=.var [i64 R,i64 C,lu l]
def tkH (base:Name) (P R C i:Nat) (l:List Int) (T:Tk) (f:Nat → List Int):Heap :=
  C9 (C9 (C9 (C9 (C1 ((7,14)::base) f i (fun c => if c=(3,2)::base then some (.var [rowP ((16,11)::(7,14)::base) 1 T.us.length (T.rows.map ii),rowP ((16,19)::(7,14)::base) 1 T.us.length (T.cols.map ii),Hk ((10,8)::(7,14)::base) i,rowP ((16,27)::(7,14)::base) 1 T.us.length (T.us.map (lv C)),u64 P,rowP ((16,34)::(7,14)::base) 1 T.us.length (T.vs.map iu)])
    else if c=(0,0)::base then some (mtB R C l) else if c=(0,1)::base then some (.var [Dk,Dk,Dk,Dk]) else if c=(10,8)::(7,14)::base then Jm i (Cw ((7,14)::base) f i) else none))
    ((16,11)::(7,14)::base) T.us.length (T.rows.map ii)) ((16,19)::(7,14)::base) T.us.length (T.cols.map ii)) ((16,27)::(7,14)::base) T.us.length (T.us.map (lv C))) ((16,34)::(7,14)::base) T.us.length (T.vs.map iu)
abbrev As5 (base:Name):List Name:=[(1,1)::base,(8,2)::base,(10,7)::base,(15,7)::base,(16,10)::base,(16,18)::base,(16,26)::base,(16,33)::base]
theorem Cd:∀ (base:Name) (x:Nat × Nat),base ≠ x::base
  | [],x,h => by cases h
  | y::b,x,h => by injection h with h1 h2; exact Cd b y h2
theorem Au5 {base:Name} {P R C i:Nat} {l:List Int} {T T':Tk} (hcl:T'.cs.length=i + 1) (hc:∀ k,k < i → csF T' k=csF T k) (hu:T'.us.length=T.us.length ∨ T'.us.length=T.us.length + 1) :
    Qy (tkH base P R C i l T (csF T)) ((7,14)::base) base P C i (Cw ((7,14)::base) (csF T) i) T T' T'.us.length=tkH base P R C (i + 1) l T' (csF T'):=by
  have hL:Cw ((7,14)::base) (csF T') (i + 1)=Cw ((7,14)::base) (csF T) i ++ [rowP ((900,i)::(7,14)::base) 1 (T'.cs.getD i []).length ((T'.cs.getD i []).map iu)]:=by
    rw [Lc,J2 hc]; rfl
  have ne1:∀ x:Nat × Nat,base ≠ x::base:=Cd base
  have ne2:∀ x:Nat × Nat,x::base ≠ base:=fun x h => Cd base x h.symm
  obtain ⟨x,hx⟩:∃ x,T'.cs.getD i []=x:=⟨_,rfl⟩
  have hx':csF T' i=x:=hx
  unfold Qy tkH
  rw [hL,hx]
  funext c
  simp (maxSteps:=20000000) only [Bh,Heap.put_at,C1]
  by_cases e1:c=(3,2)::base
  · subst e1
    simp [Cq]
  by_cases e2:c=(10,8)::(7,14)::base
  · subst e2
    simp [Cq,Jm]
  by_cases e3:c=(16,11)::(7,14)::base
  · subst e3
    rcases hu with hu|hu <;> by_cases z:T.us=[] <;> simp [Cq,hu,z]
  by_cases e4:c=(16,19)::(7,14)::base
  · subst e4
    rcases hu with hu|hu <;> by_cases z:T.us=[] <;> simp [Cq,hu,z]
  by_cases e5:c=(16,27)::(7,14)::base
  · subst e5
    rcases hu with hu|hu <;> by_cases z:T.us=[] <;> simp [Cq,hu,z]
  by_cases e6:c=(16,34)::(7,14)::base
  · subst e6
    rcases hu with hu|hu <;> by_cases z:T.us=[] <;> simp [Cq,hu,z]
  by_cases e7:c=(900,i)::(7,14)::base
  · subst e7
    by_cases h0:x.length=0
    · rw [Ks (Nat.le_refl _),Kt (by rw [hx']; exact h0)]
      have h0':x=[]:=List.eq_nil_of_length_eq_zero h0
      simp [h0']
    · rw [Ks (Nat.le_refl _),Gc (by omega) (by rw [hx']; exact h0),hx']
      have h0':x ≠ []:=fun e => h0 (by rw [e]; rfl)
      simp [h0']
  simp [e1,e2,e3,e4,e5,e6,e7]
  have hX:Cq ((7,14)::base) (csF T) i c=Cq ((7,14)::base) (csF T') (i + 1) c:=by
    rw [Uy (g:=csF T') (fun k hk => (hc k hk).symm)]
    exact O8 e7 (fun _ _ => rfl) (by omega)
  rw [hX]
end Go.Proofs.Ythnfphgjfpcpbaa.TM
namespace Go.Proofs.Ythnfphgjfpcpbaa.TM
open Go Go.RowKit
theorem TkI.next {P C i:Nat} {T:Tk} {row:List Int} (hP:Prm P) (hp:Md P) (I:TkI P C i T) (hrow:∀ a ∈ row,In P a) (hl:row.length=C):TkI P C (i + 1) (Cz P T i row):=by
  have r1:(Eb P T row).length=C:=by unfold Eb; rw [Gt,hl]
  have r2:∀ a ∈ Eb P T row,In P a:=M9 hp T hrow _
  have x1:(xsT P T row).length=T.us.length:=Ca ..
  have x2:∀ a ∈ xsT P T row,In P a:=fun a ha => by obtain ⟨k,_,rfl⟩:=Dh ha; exact Yj hp T row k
  have o1:In P 1:=⟨by decide,by have:=hp.1; omega⟩
  unfold Cz
  split
  · refine ⟨I.rl,I.ql,I.vl,by simp [I.cl],by have:=I.ri; simp only; omega,fun a ha => by have:=I.rb a ha; omega,I.qb,I.ul,I.vb,fun c hc => ?_⟩
    rcases List.mem_append.1 hc with hc|hc
    · exact I.cb c hc
    · rw [List.mem_singleton.1 hc]; exact ⟨by rw [x1]; exact Nat.le_refl _,x2⟩
  · rename_i hn
    rcases Gf (Eb P T row) 0 with ⟨z1,_⟩|⟨n,z1,z2,z3,_⟩
    · rw [z1] at hn; exact absurd (by decide) hn
    · rw [z1]
      refine ⟨by simp [I.rl],by simp [I.ql],by simp [I.vl],by simp [I.cl],by have:=I.ri; simp only [List.length_append,List.length_singleton]; omega,fun a ha => ?_,fun a ha => ?_,fun u hu => ?_,fun a ha => ?_,fun c hc => ?_⟩
      · rcases List.mem_append.1 ha with ha|ha
        · have:=I.rb a ha; omega
        · rw [List.mem_singleton.1 ha]; omega
      · rcases List.mem_append.1 ha with ha|ha
        · exact I.qb a ha
        · rw [List.mem_singleton.1 ha]; omega
      · rcases List.mem_append.1 hu with hu|hu
        · exact I.ul u hu
        · rw [List.mem_singleton.1 hu]; exact ⟨r1,r2⟩
      · rcases List.mem_append.1 ha with ha|ha
        · exact I.vb a ha
        · rw [List.mem_singleton.1 ha,show (((0 + n:Nat):Int)).toNat=n by omega]
          exact (Ir (by exact hp.1) hp.2 (Ce r2 z2) (Hs hP (Ce r2 z2) z3)).1
      · rcases List.mem_append.1 hc with hc|hc
        · have:=I.cb c hc
          exact ⟨by simp only [List.length_append,List.length_singleton]; omega,this.2⟩
        · rw [List.mem_singleton.1 hc]
          refine ⟨by simp [x1],fun a ha => ?_⟩
          rcases List.mem_append.1 ha with ha|ha
          · exact x2 a ha
          · rw [List.mem_singleton.1 ha]; exact o1
theorem Nk {P R C:Nat} {l:List Int} (hP:Prm P) (M:Mt P R C l) (hin:∀ a ∈ l,In P a):∀ i,i ≤ R → TkI P C i (tkN P C l i)
  | 0,_ => TkI.zero _ _
  | i + 1,h => (Nk hP M hin i (by omega)).next hP M.hp (fun a ha => hin a (Hc ha)) (Gd M.len (by omega))
theorem Lw {P:Int} {C i:Nat} {T:Tk} {row:List Int} (I:TkI P C i T):(∀ k,k < i → csF (Cz P T i row) k=csF T k) ∧ ((Cz P T i row).us.length=T.us.length ∨ (Cz P T i row).us.length=T.us.length + 1):=by
  have h:∀ (x:List Int) (k:Nat),k < i → (T.cs ++ [x]).getD k []=T.cs.getD k []:=fun x k hk => by
    rw [List.getD_eq_getElem?_getD,List.getElem?_append_left (by rw [I.cl]; exact hk),List.getD_eq_getElem?_getD]
  unfold Cz csF
  split
  · exact ⟨fun k hk => h _ k hk,.inl rfl⟩
  · exact ⟨fun k hk => h _ k hk,.inr (by simp)⟩
theorem Vh {base : Name} {P R C i : Nat} {l : List Int} {T : Tk} {f : Nat → List Int} {b : Name} (hb9 : ∀ k, b ≠ (900, k) :: (7, 14) :: base)
    (n1:b ≠ (16,11)::(7,14)::base) (n2:b ≠ (16,19)::(7,14)::base) (n3:b ≠ (16,27)::(7,14)::base) (n4:b ≠ (16,34)::(7,14)::base) (n5:b ≠ (10,8)::(7,14)::base):Dw b (tkH base P R C i l T f):=by
  unfold tkH
  refine Bt (Bt (Bt (Bt (No ?_))))
  intro c cs hc
  simp only [mtB] at hc
  split at hc
  · cases hc
    simp only [Bs,Bn,List.mem_append,Be,El,List.not_mem_nil,or_false,not_or]
    simp [n1,n2,n3,n4,n5]
  · split at hc
    · cases hc
      simp [Bs,Bn]
    · split at hc
      · cases hc; simp [Bs,Bn,Dk]
      · split at hc
        · unfold Jm at hc
          split at hc
          · cases hc
          · cases hc
            intro h
            obtain ⟨k,hk⟩:=Kw h
            exact hb9 k hk
        · cases hc
theorem Ba4 (base:Name) (P R C i:Nat) (l:List Int) (T:Tk) (f:Nat → List Int) (b:Name) (hb:b ∈ As5 ((7,14)::base)):Dw b (tkH base P R C i l T f):=by
  refine Vh (fun k e => ?_) ?_ ?_ ?_ ?_ ?_
  · subst e; simp at hb
  all_goals (intro e; subst e; simp at hb)
theorem Ao7 {base:Name} {P R C i:Nat} {l:List Int} {T:Tk} {row:List Int} (hP:Prm P) (hp:Md P) (I:TkI P C i T) (hrow:∀ a ∈ row,In P a) (hl:row.length=C) (h0:0 < C) (hC:C ≤ 64) (hi:i < 64) :
    ∃ h',CallR Try.prog ((7,14)::base) 85 [.ref ((3,2)::base) 0 6,i64 i,.i (.l C (row.map iu))] (tkH base P R C i l T (csF T)) (bl true) h' ∧ (h'.drop (As5 ((7,14)::base))=tkH base P R C (i + 1) l (Cz P T i row) (csF (Cz P T i row)) ∧ ∀ b ∈ As5 ((7,14)::base),Dw b h'):=by
  obtain ⟨c1,c2⟩:=Lw (row:=row) I
  rw [← Au5 (by rw [(I.next hP hp hrow hl).cl]) c1 c2]
  have ne1:∀ x:Nat × Nat,base ≠ x::base:=Cd base
  have ne2:∀ x:Nat × Nat,x::base ≠ base:=fun x h => Cd base x h.symm
  have x9:Cq ((7,14)::base) (csF T) i ((900,i)::(7,14)::base)=none:=Ks (Nat.le_refl _)
  have nv:=Ba4 base P R C i l T (csF T)
  rcases hr:T.us.length with _|r
  · refine Xk hP hp I hrow hl h0 hC hi (C7 ..) hr ?_ ?_ ?_ ?_ ?_ ?_ ?_ ?_ ?_ ?_ ?_ ?_ ?_ ?_ ?_ nv
    all_goals (unfold tkH; rw [hr]; simp [Bh,C1,x9,Cq,ne1,ne2])
  · refine Xj hP hp I hrow hl h0 hC hi (C7 ..) hr ?_ ?_ ?_ ?_ ?_ ?_ ?_ ?_ ?_ ?_ ?_ ?_ ?_ ?_ ?_ nv
    all_goals (unfold tkH; rw [hr]; simp [Bh,C1,x9,Cq,ne1,ne2])
end Go.Proofs.Ythnfphgjfpcpbaa.TM
