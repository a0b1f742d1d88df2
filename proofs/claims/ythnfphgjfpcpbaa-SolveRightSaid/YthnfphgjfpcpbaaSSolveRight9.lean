/- What is proved of functions, and plain facts, part 9. Conditions: none. -/
import Derived.Test.YthnfphgjfpcpbaaSSolveRight8
open Nat (reduceSub reduceEqDiff reduceAdd reduceMul reduceLT reduceLeDiff)
open Int (reduceToNat reduceLE reduceNeg reduceEq)
set_option linter.defProp false
set_option linter.unusedSectionVars false
set_option linter.unusedSimpArgs false
set_option linter.unusedVariables false
namespace Go.Proofs.Ythnfphgjfpcpbaa.TM
open Go Go.RowKit
attribute [local irreducible] K W Dg Effs Xg Xo Xr Xdg Xdo Xdr Xif CallsP CallR
def Er (n:Nat):List Int:=tbl n (fun _ => 0)
theorem D8 (n:Nat):(Er n).length=n:=Ca ..
theorem Lt {p:Int} (hp:Md p) (n:Nat):∀ a ∈ Er n,In p a:=fun a ha => by
  obtain ⟨_,_,rfl⟩:=Dh ha; exact ⟨by decide,by have:=hp.1; omega⟩
theorem Mb {P R C:Nat} (hP:Prm P) (hp:Md P) {c:Cy} (hw:CupW P R C c):(∀ a ∈ C5 P c,In P a) ∧ (C5 P c).length=c.1.length:=by
  refine ⟨fun a ha => ?_,by unfold C5; rw [Ca,hw.ul]⟩
  obtain ⟨k,hk,rfl⟩:=Dh ha
  have hk':k < c.1.length:=by rw [← hw.ul]; exact hk
  obtain ⟨u1,u2⟩:=hw.ur (c.2.2.2.getD k []) (C0 hk)
  obtain ⟨q0,q1⟩:=hw.qb (c.2.1.getD k 0) (C0 (by rw [hw.ql]; exact hk'))
  have hi:=Ce u2 (i:=(c.2.1.getD k 0).toNat) (by omega)
  exact (Ir hp.1 hp.2 hi (Hs hP hi (hw.nz k hk'))).1
def En (p:Int) (C:Nat) (c:Cy) (b:List Int):List Int:=svL p C c (C5 p c) (hlL p c b c.1.length) (Er C) c.1.length
theorem Ig (p:Int) (C:Nat) (c:Cy) (b:List Int):(En p C c b).length=C:=Kr (D8 C) _
theorem Og {p:Int} {C:Nat} (hp:Md p) (c:Cy) (b:List Int):∀ a ∈ En p C c b,In p a:=Sy hp (Lt hp C) (D8 C) _
set_option maxHeartbeats 4000000 in
theorem Rl {P R C:Nat} {l b:List Int} (hP:Prm P) (M:Mt P R C l) (hin:∀ a ∈ l,In P a) (hb:∀ a ∈ b,In P a) (hbl:b.length=R) :
    CallsP Try.prog 15 [u64 P,C3 R C l,lu b] (if Ea P R C l (En P C (Bf P C R l) b)=b then .tup [lu (En P C (Bf P C R l) b),i64 0] else .tup [lu [],i64 6]):=by
  have hp:=M.hp
  have r2:=M.r2
  have c2:=M.c2
  have q1:=Hn P b R (by rw [hbl,B3]; omega)
  rw [(Ei _ _).2 ⟨fun x hx => (hb x hx).2,hp.1,hp.2⟩,decide_eq_true (show (b.length:Int)=R by omega)] at q1
  have q2:=Gy hP M hin
  have hw:=Dx hP M hin
  have xl:=Ig P C (Bf P C R l) b
  have xi:=Og (C:=C) hp (Bf P C R l) b
  have vi:=Mb hP hp hw
  have k1:=fun vs => Nz (l:=l) (vs:=vs) hp hw r2 hb hbl
  have zi:=Ts hp hw hb hbl _ (Nat.le_refl _)
  have zl:=Gq P (Bf P C R l) b (Bf P C R l).1.length
  have k2:=Jy (l:=l) (x:=Er C) (z:=hlL P (Bf P C R l) b (Bf P C R l).1.length) hp hw r2 c2 (Lt hp C) (D8 C) zi zl vi.1 vi.2
  have k3:=W2 P R C l (En P C (Bf P C R l) b) (by have:=M.len; have:=J4 r2 c2; rw [B3]; omega) (by rw [xl,B3]; omega) (fun a ha => I9 hp (hin a ha)) (fun a ha => I9 hp (xi a ha))
  rw [show Oz P R C l (En P C (Bf P C R l) b)=(Ea P R C l (En P C (Bf P C R l) b),0) by
    unfold Oz; rw [Xz M,(Ei _ _).2 ⟨fun x hx => (xi x hx).2,hp.1,hp.2⟩,decide_eq_true (show ((En P C (Bf P C R l) b).length:Int)=C by omega)]; rfl] at k3
  have k4:=Yi (Ea P R C l (En P C (Bf P C R l) b)) b (by rw [G6,B3]; omega)
  have tml:=G6 P R C l (En P C (Bf P C R l) b)
  change Ls _ _ _ _ _ ((En P C (Bf P C R l) b).map iu) at k2
  generalize En P C (Bf P C R l) b=X at xl xi k2 k3 k4 tml ⊢
  generalize hlL P (Bf P C R l) b (Bf P C R l).1.length=Z at zi zl k1 k2
  generalize C5 P (Bf P C R l)=vs at q2 vi k2
  have k1:=k1 vs
  generalize Bf P C R l=c at q2 hw k1 k2 zl
  obtain ⟨rw0,cw,cc,uu⟩:=c
  generalize Ea P R C l X=TX at k3 k4 tml ⊢
  simp only at zl k2
  rw [show (lu b)=.i (.l R (b.map iu)) by rw [lu,hbl]] at k4
  rw [lu,xl] at k3
  rw [lu,zl] at k1
  have b1:C * 8 ≤ 140737488355328:=by omega
  have b2:C ≤ 140737488355328:=by omega
  have ez:(Cc [Value.int .u64 0] C).map IV.v=(Er C).map iu:=Ey C
  have nt:(X.map iu).take C=X.map iu:=List.take_of_length_le (by simp [xl])
  have nb:(lu b)=.i (.l R (b.map iu)):=by rw [lu,hbl]
  rw [nb] at q1 ⊢
  by_cases hx:TX=b
  · rw [decide_eq_true hx] at k4
    rw [if_pos hx]
    refine Bj (n:=49) (m:=3) (rs:=[.tmp 6,.tmp 7]) Try.func15 rfl rfl rfl rfl (by decide) fun base => ?_
    repeat (first|((first|refine Bd rfl (by simp only [tys]) ?_|refine Bc rfl (by simp only [tys]) ?_); apply Exists.intro; apply And.intro; (focus (simp -dsimp only [simx,zzC,zzB,tys,ite_self,A8,A2,Ax,Aq,Ao,At,Az,Ac,A5,PV.sk,Ai,Ar,As,Ap,Ay,Ab,Aj,Am,A9,Value.oneCell',Ah,Ba,Aw,A4,A1,Al,An,Ae,Ak,isZ,A6,A3,Ad,Aa,Ag,A0,Af,↓reduceIte,reduceSub,reduceEqDiff,reduceAdd,reduceMul,reduceLT,reduceLeDiff,reduceToNat,reduceLE,Int.reduceLT,reduceNeg,reduceCtorEq,zzL,if_true,if_false] <;> rfl)); apply Exists.intro; apply And.intro; (focus (first|exact q1|exact q2|exact k1)))|refine Bg rfl ?_|refine Bb rfl ?_|refine ⟨(dxX (by kernel_rfl)),?_⟩|exact (dxX (by kernel_rfl))|simp -dsimp (maxSteps:=20000000) (disch:=omega) only [simx,zzC,zzB,tys,ite_self,A8,A2,Ax,Aq,Ao,At,Az,Ac,A5,PV.sk,Ai,Ar,As,Ap,Ay,Ab,Aj,Am,A9,Value.oneCell',Ah,Ba,Aw,A4,A1,Al,An,Ae,Ak,isZ,A6,A3,Ad,Aa,Ag,A0,Af,↓reduceIte,reduceSub,reduceEqDiff,reduceAdd,reduceMul,reduceLT,reduceLeDiff,reduceToNat,reduceLE,Int.reduceLT,reduceNeg,reduceCtorEq,gos,Int.reduceAdd,Int.reduceSub,Int.reduceMul,reduceEq,b1,b2])
    refine K0 (args:=[D1 P R C l (rw0,cw,cc,uu) vs,.view ((6,2)::base) 0 1 C C,.i (.l rw0.length (Z.map iu))]) ((6,2)::base) k2 rfl (by simp only [tys]) rfl (by rw [← ez]; exact Heap.put_same _ _ _) (by simp [Al,An]) (by simp [Cv,Fz,isV,reV,Al,An,Ch,Cl]) rfl (by simp [xl,D8]) ?_
    rw [show (List.filter (H8 ((6,2)::base)) (List.flatMap Al [D1 P R C l (rw0,cw,cc,uu) vs,.view ((6,2)::base) 0 1 C C,.i (.l rw0.length (Z.map iu))]))=[] by simp [Al,An,H8]]
    repeat (first|((first|refine Bd rfl (by simp only [tys]) ?_|refine Bc rfl (by simp only [tys]) ?_); apply Exists.intro; apply And.intro; (focus (simp -dsimp only [simx,zzC,zzB,tys,ite_self,A8,A2,Ax,Aq,Ao,At,Az,Ac,A5,PV.sk,Ai,Ar,As,Ap,Ay,Ab,Aj,Am,A9,Value.oneCell',Ah,Ba,Aw,A4,A1,Al,An,Ae,Ak,isZ,A6,A3,Ad,Aa,Ag,A0,Af,↓reduceIte,reduceSub,reduceEqDiff,reduceAdd,reduceMul,reduceLT,reduceLeDiff,reduceToNat,reduceLE,Int.reduceLT,reduceNeg,reduceCtorEq,zzL,if_true,if_false,List.length_map,xl,nt] <;> rfl)); apply Exists.intro; apply And.intro; (focus (first|exact k3|exact k4)))|refine Bg rfl ?_|refine Bb rfl ?_|refine ⟨(dxX (by kernel_rfl)),?_⟩|exact (dxX (by kernel_rfl))|simp -dsimp (maxSteps:=20000000) (disch:=omega) only [simx,zzC,zzB,tys,ite_self,A8,A2,Ax,Aq,Ao,At,Az,Ac,A5,PV.sk,Ai,Ar,As,Ap,Ay,Ab,Aj,Am,A9,Value.oneCell',Ah,Ba,Aw,A4,A1,Al,An,Ae,Ak,isZ,A6,A3,Ad,Aa,Ag,A0,Af,↓reduceIte,reduceSub,reduceEqDiff,reduceAdd,reduceMul,reduceLT,reduceLeDiff,reduceToNat,reduceLE,Int.reduceLT,reduceNeg,reduceCtorEq,zzR,gos,Int.reduceAdd,Int.reduceSub,Int.reduceMul,reduceEq,List.length_map,xl,nt])
    simp [xl]
  · rw [decide_eq_false hx] at k4
    rw [if_neg hx]
    refine Bj (n:=49) (m:=3) (rs:=[.tmp 6,.tmp 7]) Try.func15 rfl rfl rfl rfl (by decide) fun base => ?_
    repeat (first|((first|refine Bd rfl (by simp only [tys]) ?_|refine Bc rfl (by simp only [tys]) ?_); apply Exists.intro; apply And.intro; (focus (simp -dsimp only [simx,zzC,zzB,tys,ite_self,A8,A2,Ax,Aq,Ao,At,Az,Ac,A5,PV.sk,Ai,Ar,As,Ap,Ay,Ab,Aj,Am,A9,Value.oneCell',Ah,Ba,Aw,A4,A1,Al,An,Ae,Ak,isZ,A6,A3,Ad,Aa,Ag,A0,Af,↓reduceIte,reduceSub,reduceEqDiff,reduceAdd,reduceMul,reduceLT,reduceLeDiff,reduceToNat,reduceLE,Int.reduceLT,reduceNeg,reduceCtorEq,zzL,if_true,if_false] <;> rfl)); apply Exists.intro; apply And.intro; (focus (first|exact q1|exact q2|exact k1)))|refine Bg rfl ?_|refine Bb rfl ?_|refine ⟨(dxX (by kernel_rfl)),?_⟩|exact (dxX (by kernel_rfl))|simp -dsimp (maxSteps:=20000000) (disch:=omega) only [simx,zzC,zzB,tys,ite_self,A8,A2,Ax,Aq,Ao,At,Az,Ac,A5,PV.sk,Ai,Ar,As,Ap,Ay,Ab,Aj,Am,A9,Value.oneCell',Ah,Ba,Aw,A4,A1,Al,An,Ae,Ak,isZ,A6,A3,Ad,Aa,Ag,A0,Af,↓reduceIte,reduceSub,reduceEqDiff,reduceAdd,reduceMul,reduceLT,reduceLeDiff,reduceToNat,reduceLE,Int.reduceLT,reduceNeg,reduceCtorEq,gos,Int.reduceAdd,Int.reduceSub,Int.reduceMul,reduceEq,b1,b2])
    refine K0 (args:=[D1 P R C l (rw0,cw,cc,uu) vs,.view ((6,2)::base) 0 1 C C,.i (.l rw0.length (Z.map iu))]) ((6,2)::base) k2 rfl (by simp only [tys]) rfl (by rw [← ez]; exact Heap.put_same _ _ _) (by simp [Al,An]) (by simp [Cv,Fz,isV,reV,Al,An,Ch,Cl]) rfl (by simp [xl,D8]) ?_
    rw [show (List.filter (H8 ((6,2)::base)) (List.flatMap Al [D1 P R C l (rw0,cw,cc,uu) vs,.view ((6,2)::base) 0 1 C C,.i (.l rw0.length (Z.map iu))]))=[] by simp [Al,An,H8]]
    repeat (first|((first|refine Bd rfl (by simp only [tys]) ?_|refine Bc rfl (by simp only [tys]) ?_); apply Exists.intro; apply And.intro; (focus (simp -dsimp only [simx,zzC,zzB,tys,ite_self,A8,A2,Ax,Aq,Ao,At,Az,Ac,A5,PV.sk,Ai,Ar,As,Ap,Ay,Ab,Aj,Am,A9,Value.oneCell',Ah,Ba,Aw,A4,A1,Al,An,Ae,Ak,isZ,A6,A3,Ad,Aa,Ag,A0,Af,↓reduceIte,reduceSub,reduceEqDiff,reduceAdd,reduceMul,reduceLT,reduceLeDiff,reduceToNat,reduceLE,Int.reduceLT,reduceNeg,reduceCtorEq,zzL,if_true,if_false,List.length_map,xl,nt] <;> rfl)); apply Exists.intro; apply And.intro; (focus (first|exact k3|exact k4)))|refine Bg rfl ?_|refine Bb rfl ?_|refine ⟨(dxX (by kernel_rfl)),?_⟩|exact (dxX (by kernel_rfl))|simp -dsimp (maxSteps:=20000000) (disch:=omega) only [simx,zzC,zzB,tys,ite_self,A8,A2,Ax,Aq,Ao,At,Az,Ac,A5,PV.sk,Ai,Ar,As,Ap,Ay,Ab,Aj,Am,A9,Value.oneCell',Ah,Ba,Aw,A4,A1,Al,An,Ae,Ak,isZ,A6,A3,Ad,Aa,Ag,A0,Af,↓reduceIte,reduceSub,reduceEqDiff,reduceAdd,reduceMul,reduceLT,reduceLeDiff,reduceToNat,reduceLE,Int.reduceLT,reduceNeg,reduceCtorEq,zzR,gos,Int.reduceAdd,Int.reduceSub,Int.reduceMul,reduceEq,List.length_map,xl,nt])
    rfl
end Go.Proofs.Ythnfphgjfpcpbaa.TM
namespace Go.Proofs.Ythnfphgjfpcpbaa.TM
open Go Go.RowKit
attribute [local irreducible] K W Dg Effs Xg Xo Xr Xdg Xdo Xdr Xif CallsP CallR
theorem R6 {P R C:Nat} {l:List Int} (hP:Prm P) (M:Mt P R C l) (hin:∀ a ∈ l,In P a) :
    CallsP Try.prog 18 [u64 P,C3 R C l] (.tup [lu (Kc P R (Bf P C R l) (fun _ => true)).1,i64 (Kc P R (Bf P C R l) (fun _ => true)).2]):=by
  have hp:=M.hp
  have q2:=Gy hP M hin
  have hw:=Dx hP M hin
  have vi:=Mb hP hp hw
  have k1:=fun (b0:Name) (h:Heap) h0 => Wa (base:=b0) (h:=h) (l:=l) (vs:=C5 P (Bf P C R l)) hp hw M.r2 h0
  unfold Kc
  unfold Aj3 at k1
  generalize C5 P (Bf P C R l)=vs at q2 vi k1
  generalize Bf P C R l=c at q2 hw k1 ⊢
  obtain ⟨rw0,cw,cc,uu⟩:=c
  simp only at k1 ⊢
  cases hf:Jt rw0 (fun i => true) R with
  | none =>
    rw [hf] at k1
    simp only at k1 ⊢
    refine Bj (n:=21) (m:=2) (rs:=[.tmp 4,.tmp 5]) Try.func18 rfl rfl rfl rfl (by decide) fun base => ?_
    repeat (first|((first|refine Bd rfl (by simp only [tys]) ?_|refine Bc rfl (by simp only [tys]) ?_); apply Exists.intro; apply And.intro; (focus (simp -dsimp only [simx,zzC,zzB,tys,ite_self,A8,A2,Ax,Aq,Ao,At,Az,Ac,A5,PV.sk,Ai,Ar,As,Ap,Ay,Ab,Aj,Am,A9,Value.oneCell',Ah,Ba,Aw,A4,A1,Al,An,Ae,Ak,isZ,A6,A3,Ad,Aa,Ag,A0,Af,↓reduceIte,reduceSub,reduceEqDiff,reduceAdd,reduceMul,reduceLT,reduceLeDiff,reduceToNat,reduceLE,Int.reduceLT,reduceNeg,reduceCtorEq,zzL,if_true,if_false] <;> rfl)); apply Exists.intro; apply And.intro; (focus (first|exact q2)))|refine Bg rfl ?_|refine Bb rfl ?_|refine ⟨(dxX (by kernel_rfl)),?_⟩|exact (dxX (by kernel_rfl))|simp -dsimp (maxSteps:=20000000) (disch:=omega) only [simx,zzC,zzB,tys,ite_self,A8,A2,Ax,Aq,Ao,At,Az,Ac,A5,PV.sk,Ai,Ar,As,Ap,Ay,Ab,Aj,Am,A9,Value.oneCell',Ah,Ba,Aw,A4,A1,Al,An,Ae,Ak,isZ,A6,A3,Ad,Aa,Ag,A0,Af,↓reduceIte,reduceSub,reduceEqDiff,reduceAdd,reduceMul,reduceLT,reduceLeDiff,reduceToNat,reduceLE,Int.reduceLT,reduceNeg,reduceCtorEq,gos,Int.reduceAdd,Int.reduceSub,Int.reduceMul,reduceEq])
    refine G4 rfl (by simp only [tys]) rfl (k1 _ _ (by simp [Heap.put_at,Heap.none_at])) ?_
    repeat (first|refine Bg rfl ?_|refine Bb rfl ?_|refine ⟨(dxX (by kernel_rfl)),?_⟩|exact (dxX (by kernel_rfl))|simp -dsimp (maxSteps:=20000000) (disch:=omega) only [simx,zzC,zzB,tys,ite_self,A8,A2,Ax,Aq,Ao,At,Az,Ac,A5,PV.sk,Ai,Ar,As,Ap,Ay,Ab,Aj,Am,A9,Value.oneCell',Ah,Ba,Aw,A4,A1,Al,An,Ae,Ak,isZ,A6,A3,Ad,Aa,Ag,A0,Af,↓reduceIte,reduceSub,reduceEqDiff,reduceAdd,reduceMul,reduceLT,reduceLeDiff,reduceToNat,reduceLE,Int.reduceLT,reduceNeg,reduceCtorEq,zzR,gos,Int.reduceAdd,Int.reduceSub,Int.reduceMul,reduceEq])
    rfl
  | some i =>
    rw [hf] at k1
    simp only at k1 ⊢
    refine Bj (n:=21) (m:=2) (rs:=[.tmp 4,.tmp 5]) Try.func18 rfl rfl rfl rfl (by decide) fun base => ?_
    repeat (first|((first|refine Bd rfl (by simp only [tys]) ?_|refine Bc rfl (by simp only [tys]) ?_); apply Exists.intro; apply And.intro; (focus (simp -dsimp only [simx,zzC,zzB,tys,ite_self,A8,A2,Ax,Aq,Ao,At,Az,Ac,A5,PV.sk,Ai,Ar,As,Ap,Ay,Ab,Aj,Am,A9,Value.oneCell',Ah,Ba,Aw,A4,A1,Al,An,Ae,Ak,isZ,A6,A3,Ad,Aa,Ag,A0,Af,↓reduceIte,reduceSub,reduceEqDiff,reduceAdd,reduceMul,reduceLT,reduceLeDiff,reduceToNat,reduceLE,Int.reduceLT,reduceNeg,reduceCtorEq,zzL,if_true,if_false] <;> rfl)); apply Exists.intro; apply And.intro; (focus (first|exact q2)))|refine Bg rfl ?_|refine Bb rfl ?_|refine ⟨(dxX (by kernel_rfl)),?_⟩|exact (dxX (by kernel_rfl))|simp -dsimp (maxSteps:=20000000) (disch:=omega) only [simx,zzC,zzB,tys,ite_self,A8,A2,Ax,Aq,Ao,At,Az,Ac,A5,PV.sk,Ai,Ar,As,Ap,Ay,Ab,Aj,Am,A9,Value.oneCell',Ah,Ba,Aw,A4,A1,Al,An,Ae,Ak,isZ,A6,A3,Ad,Aa,Ag,A0,Af,↓reduceIte,reduceSub,reduceEqDiff,reduceAdd,reduceMul,reduceLT,reduceLeDiff,reduceToNat,reduceLE,Int.reduceLT,reduceNeg,reduceCtorEq,gos,Int.reduceAdd,Int.reduceSub,Int.reduceMul,reduceEq])
    refine G4 rfl (by simp only [tys]) rfl (k1 _ _ (by simp [Heap.put_at,Heap.none_at])) ?_
    repeat (first|refine Bg rfl ?_|refine Bb rfl ?_|refine ⟨(dxX (by kernel_rfl)),?_⟩|exact (dxX (by kernel_rfl))|simp -dsimp (maxSteps:=20000000) (disch:=omega) only [simx,zzC,zzB,tys,ite_self,A8,A2,Ax,Aq,Ao,At,Az,Ac,A5,PV.sk,Ai,Ar,As,Ap,Ay,Ab,Aj,Am,A9,Value.oneCell',Ah,Ba,Aw,A4,A1,Al,An,Ae,Ak,isZ,A6,A3,Ad,Aa,Ag,A0,Af,↓reduceIte,reduceSub,reduceEqDiff,reduceAdd,reduceMul,reduceLT,reduceLeDiff,reduceToNat,reduceLE,Int.reduceLT,reduceNeg,reduceCtorEq,zzR,gos,Int.reduceAdd,Int.reduceSub,Int.reduceMul,reduceEq])
theorem Rt {P R C:Nat} {l:List Int} (hP:Prm P) (M:Mt P R C l) (hin:∀ a ∈ l,In P a) (i:Int) :
    CallsP Try.prog 19 [u64 P,C3 R C l,i64 i] (if i < 0 ∨ (R:Int) ≤ i then .tup [lu [],i64 1] else if i ∈ (Bf P C R l).1 then .tup [lu [],i64 6] else .tup [lu (Dc P R (Bf P C R l) i.toNat),i64 0]):=by
  have hp:=M.hp
  have q2:=Gy hP M hin
  have hw:=Dx hP M hin
  have rle:=hw.rle
  have r2:=M.r2
  have k1:=F1 (Bf P C R l).1 i (by rw [B3]; omega)
  have k2:=fun (j:Nat) (hj:j < R) => Lb (l:=l) (vs:=C5 P (Bf P C R l)) (i:=j) hp hw M.r2 hj
  generalize C5 P (Bf P C R l)=vs at q2 k2
  generalize Bf P C R l=c at q2 hw k1 k2 ⊢
  obtain ⟨rw0,cw,cc,uu⟩:=c
  simp only at k1 k2 ⊢
  by_cases h1:i < 0
  · rw [if_pos (.inl h1)]
    refine Bj (n:=42) (m:=3) (rs:=[.tmp 6,.tmp 7]) Try.func19 rfl rfl rfl rfl (by decide) fun base => ?_
    repeat (first|((first|refine Bd rfl (by simp only [tys]) ?_|refine Bc rfl (by simp only [tys]) ?_); apply Exists.intro; apply And.intro; (focus (simp -dsimp only [simx,zzC,zzB,tys,ite_self,A8,A2,Ax,Aq,Ao,At,Az,Ac,A5,PV.sk,Ai,Ar,As,Ap,Ay,Ab,Aj,Am,A9,Value.oneCell',Ah,Ba,Aw,A4,A1,Al,An,Ae,Ak,isZ,A6,A3,Ad,Aa,Ag,A0,Af,↓reduceIte,reduceSub,reduceEqDiff,reduceAdd,reduceMul,reduceLT,reduceLeDiff,reduceToNat,reduceLE,Int.reduceLT,reduceNeg,reduceCtorEq,zzL,if_true,if_false] <;> rfl)); apply Exists.intro; apply And.intro; (focus (first|exact q2)))|refine Bg rfl ?_|refine Bb rfl ?_|refine ⟨(dxX (by kernel_rfl)),?_⟩|exact (dxX (by kernel_rfl))|simp -dsimp (maxSteps:=20000000) (disch:=omega) only [simx,zzC,zzB,tys,ite_self,A8,A2,Ax,Aq,Ao,At,Az,Ac,A5,PV.sk,Ai,Ar,As,Ap,Ay,Ab,Aj,Am,A9,Value.oneCell',Ah,Ba,Aw,A4,A1,Al,An,Ae,Ak,isZ,A6,A3,Ad,Aa,Ag,A0,Af,↓reduceIte,reduceSub,reduceEqDiff,reduceAdd,reduceMul,reduceLT,reduceLeDiff,reduceToNat,reduceLE,Int.reduceLT,reduceNeg,reduceCtorEq,zzR,gos,Int.reduceAdd,Int.reduceSub,Int.reduceMul,reduceEq,h1])
    rfl
  · by_cases h2:(R:Int) ≤ i
    · rw [if_pos (.inr h2)]
      refine Bj (n:=42) (m:=3) (rs:=[.tmp 6,.tmp 7]) Try.func19 rfl rfl rfl rfl (by decide) fun base => ?_
      repeat (first|((first|refine Bd rfl (by simp only [tys]) ?_|refine Bc rfl (by simp only [tys]) ?_); apply Exists.intro; apply And.intro; (focus (simp -dsimp only [simx,zzC,zzB,tys,ite_self,A8,A2,Ax,Aq,Ao,At,Az,Ac,A5,PV.sk,Ai,Ar,As,Ap,Ay,Ab,Aj,Am,A9,Value.oneCell',Ah,Ba,Aw,A4,A1,Al,An,Ae,Ak,isZ,A6,A3,Ad,Aa,Ag,A0,Af,↓reduceIte,reduceSub,reduceEqDiff,reduceAdd,reduceMul,reduceLT,reduceLeDiff,reduceToNat,reduceLE,Int.reduceLT,reduceNeg,reduceCtorEq,zzL,if_true,if_false] <;> rfl)); apply Exists.intro; apply And.intro; (focus (first|exact q2)))|refine Bg rfl ?_|refine Bb rfl ?_|refine ⟨(dxX (by kernel_rfl)),?_⟩|exact (dxX (by kernel_rfl))|simp -dsimp (maxSteps:=20000000) (disch:=omega) only [simx,zzC,zzB,tys,ite_self,A8,A2,Ax,Aq,Ao,At,Az,Ac,A5,PV.sk,Ai,Ar,As,Ap,Ay,Ab,Aj,Am,A9,Value.oneCell',Ah,Ba,Aw,A4,A1,Al,An,Ae,Ak,isZ,A6,A3,Ad,Aa,Ag,A0,Af,↓reduceIte,reduceSub,reduceEqDiff,reduceAdd,reduceMul,reduceLT,reduceLeDiff,reduceToNat,reduceLE,Int.reduceLT,reduceNeg,reduceCtorEq,zzR,gos,Int.reduceAdd,Int.reduceSub,Int.reduceMul,reduceEq,h1,h2])
      rfl
    · rw [if_neg (by omega)]
      by_cases h3:i ∈ rw0
      · rw [decide_eq_true h3] at k1
        rw [if_pos h3]
        refine Bj (n:=42) (m:=3) (rs:=[.tmp 6,.tmp 7]) Try.func19 rfl rfl rfl rfl (by decide) fun base => ?_
        repeat (first|((first|refine Bd rfl (by simp only [tys]) ?_|refine Bc rfl (by simp only [tys]) ?_); apply Exists.intro; apply And.intro; (focus (simp -dsimp only [simx,zzC,zzB,tys,ite_self,A8,A2,Ax,Aq,Ao,At,Az,Ac,A5,PV.sk,Ai,Ar,As,Ap,Ay,Ab,Aj,Am,A9,Value.oneCell',Ah,Ba,Aw,A4,A1,Al,An,Ae,Ak,isZ,A6,A3,Ad,Aa,Ag,A0,Af,↓reduceIte,reduceSub,reduceEqDiff,reduceAdd,reduceMul,reduceLT,reduceLeDiff,reduceToNat,reduceLE,Int.reduceLT,reduceNeg,reduceCtorEq,zzL,if_true,if_false] <;> rfl)); apply Exists.intro; apply And.intro; (focus (first|exact q2|exact k1)))|refine Bg rfl ?_|refine Bb rfl ?_|refine ⟨(dxX (by kernel_rfl)),?_⟩|exact (dxX (by kernel_rfl))|simp -dsimp (maxSteps:=20000000) (disch:=omega) only [simx,zzC,zzB,tys,ite_self,A8,A2,Ax,Aq,Ao,At,Az,Ac,A5,PV.sk,Ai,Ar,As,Ap,Ay,Ab,Aj,Am,A9,Value.oneCell',Ah,Ba,Aw,A4,A1,Al,An,Ae,Ak,isZ,A6,A3,Ad,Aa,Ag,A0,Af,↓reduceIte,reduceSub,reduceEqDiff,reduceAdd,reduceMul,reduceLT,reduceLeDiff,reduceToNat,reduceLE,Int.reduceLT,reduceNeg,reduceCtorEq,zzR,gos,Int.reduceAdd,Int.reduceSub,Int.reduceMul,reduceEq,h1,h2])
        rfl
      · rw [decide_eq_false h3] at k1
        rw [if_neg h3]
        have k2:=k2 i.toNat (by omega)
        rw [show ((i.toNat:Nat):Int)=i by omega] at k2
        refine Bj (n:=42) (m:=3) (rs:=[.tmp 6,.tmp 7]) Try.func19 rfl rfl rfl rfl (by decide) fun base => ?_
        repeat (first|((first|refine Bd rfl (by simp only [tys]) ?_|refine Bc rfl (by simp only [tys]) ?_); apply Exists.intro; apply And.intro; (focus (simp -dsimp only [simx,zzC,zzB,tys,ite_self,A8,A2,Ax,Aq,Ao,At,Az,Ac,A5,PV.sk,Ai,Ar,As,Ap,Ay,Ab,Aj,Am,A9,Value.oneCell',Ah,Ba,Aw,A4,A1,Al,An,Ae,Ak,isZ,A6,A3,Ad,Aa,Ag,A0,Af,↓reduceIte,reduceSub,reduceEqDiff,reduceAdd,reduceMul,reduceLT,reduceLeDiff,reduceToNat,reduceLE,Int.reduceLT,reduceNeg,reduceCtorEq,zzL,if_true,if_false] <;> rfl)); apply Exists.intro; apply And.intro; (focus (first|exact q2|exact k1|exact k2)))|refine Bg rfl ?_|refine Bb rfl ?_|refine ⟨(dxX (by kernel_rfl)),?_⟩|exact (dxX (by kernel_rfl))|simp -dsimp (maxSteps:=20000000) (disch:=omega) only [simx,zzC,zzB,tys,ite_self,A8,A2,Ax,Aq,Ao,At,Az,Ac,A5,PV.sk,Ai,Ar,As,Ap,Ay,Ab,Aj,Am,A9,Value.oneCell',Ah,Ba,Aw,A4,A1,Al,An,Ae,Ak,isZ,A6,A3,Ad,Aa,Ag,A0,Af,↓reduceIte,reduceSub,reduceEqDiff,reduceAdd,reduceMul,reduceLT,reduceLeDiff,reduceToNat,reduceLE,Int.reduceLT,reduceNeg,reduceCtorEq,zzR,gos,Int.reduceAdd,Int.reduceSub,Int.reduceMul,reduceEq,h1,h2])
theorem Mn {P R C:Nat} {l b:List Int} (hP:Prm P) (M:Mt P R C l) (hin:∀ a ∈ l,In P a) (hb:∀ a ∈ b,In P a) (hbl:b.length=R) :
    CallsP Try.prog 16 [u64 P,C3 R C l,lu b] (.tup [lu (Kc P R (Bf P C R l) (fun y => Gh P y b)).1,i64 (Kc P R (Bf P C R l) (fun y => Gh P y b)).2]):=by
  have hp:=M.hp
  have r2:=M.r2
  have q1:=Hn P b R (by rw [hbl,B3]; omega)
  rw [(Ei _ _).2 ⟨fun x hx => (hb x hx).2,hp.1,hp.2⟩,decide_eq_true (show (b.length:Int)=R by omega)] at q1
  have q2:=Gy hP M hin
  have hw:=Dx hP M hin
  have k1:=fun (b0 b1 b2:Name) (h:Heap) h0 h1 h2 n1 n2 => Wb (base:=b0) (h:=h) (b1:=b1) (b2:=b2) (l:=l) (vs:=C5 P (Bf P C R l)) (b:=b) hp hw M.r2 h0 hb hbl h1 h2 n1 n2
  unfold Kc
  unfold Aj3 at k1
  generalize C5 P (Bf P C R l)=vs at q2 k1
  generalize Bf P C R l=c at q2 hw k1 ⊢
  obtain ⟨rw0,cw,cc,uu⟩:=c
  simp only at k1 ⊢
  cases hf:Jt rw0 (fun i => Gh P (Dc P R (rw0,cw,cc,uu) i) b) R with
  | none =>
    rw [hf] at k1
    simp only at k1 ⊢
    refine Bj (n:=30) (m:=3) (rs:=[.tmp 6,.tmp 7]) Try.func16 rfl rfl rfl rfl (by decide) fun base => ?_
    repeat (first|((first|refine Bd rfl (by simp only [tys]) ?_|refine Bc rfl (by simp only [tys]) ?_); apply Exists.intro; apply And.intro; (focus (simp -dsimp only [simx,zzC,zzB,tys,ite_self,A8,A2,Ax,Aq,Ao,At,Az,Ac,A5,PV.sk,Ai,Ar,As,Ap,Ay,Ab,Aj,Am,A9,Value.oneCell',Ah,Ba,Aw,A4,A1,Al,An,Ae,Ak,isZ,A6,A3,Ad,Aa,Ag,A0,Af,↓reduceIte,reduceSub,reduceEqDiff,reduceAdd,reduceMul,reduceLT,reduceLeDiff,reduceToNat,reduceLE,Int.reduceLT,reduceNeg,reduceCtorEq,zzL,if_true,if_false] <;> rfl)); apply Exists.intro; apply And.intro; (focus (first|exact q1|exact q2)))|refine Bg rfl ?_|refine Bb rfl ?_|refine ⟨(dxX (by kernel_rfl)),?_⟩|exact (dxX (by kernel_rfl))|simp -dsimp (maxSteps:=20000000) (disch:=omega) only [simx,zzC,zzB,tys,ite_self,A8,A2,Ax,Aq,Ao,At,Az,Ac,A5,PV.sk,Ai,Ar,As,Ap,Ay,Ab,Aj,Am,A9,Value.oneCell',Ah,Ba,Aw,A4,A1,Al,An,Ae,Ak,isZ,A6,A3,Ad,Aa,Ag,A0,Af,↓reduceIte,reduceSub,reduceEqDiff,reduceAdd,reduceMul,reduceLT,reduceLeDiff,reduceToNat,reduceLE,Int.reduceLT,reduceNeg,reduceCtorEq,gos,Int.reduceAdd,Int.reduceSub,Int.reduceMul,reduceEq])
    refine G4 rfl (by simp only [tys]) rfl (k1 _ ((0,0)::base) ((0,2)::base) _ (by simp [Heap.put_at,Heap.none_at]) (by simp [Heap.put_at,Heap.none_at]) (by simp [Heap.put_at,Heap.none_at]) (by simp) (by simp)) ?_
    repeat (first|refine Bg rfl ?_|refine Bb rfl ?_|refine ⟨(dxX (by kernel_rfl)),?_⟩|exact (dxX (by kernel_rfl))|simp -dsimp (maxSteps:=20000000) (disch:=omega) only [simx,zzC,zzB,tys,ite_self,A8,A2,Ax,Aq,Ao,At,Az,Ac,A5,PV.sk,Ai,Ar,As,Ap,Ay,Ab,Aj,Am,A9,Value.oneCell',Ah,Ba,Aw,A4,A1,Al,An,Ae,Ak,isZ,A6,A3,Ad,Aa,Ag,A0,Af,↓reduceIte,reduceSub,reduceEqDiff,reduceAdd,reduceMul,reduceLT,reduceLeDiff,reduceToNat,reduceLE,Int.reduceLT,reduceNeg,reduceCtorEq,zzR,gos,Int.reduceAdd,Int.reduceSub,Int.reduceMul,reduceEq])
    rfl
  | some i =>
    rw [hf] at k1
    simp only at k1 ⊢
    refine Bj (n:=30) (m:=3) (rs:=[.tmp 6,.tmp 7]) Try.func16 rfl rfl rfl rfl (by decide) fun base => ?_
    repeat (first|((first|refine Bd rfl (by simp only [tys]) ?_|refine Bc rfl (by simp only [tys]) ?_); apply Exists.intro; apply And.intro; (focus (simp -dsimp only [simx,zzC,zzB,tys,ite_self,A8,A2,Ax,Aq,Ao,At,Az,Ac,A5,PV.sk,Ai,Ar,As,Ap,Ay,Ab,Aj,Am,A9,Value.oneCell',Ah,Ba,Aw,A4,A1,Al,An,Ae,Ak,isZ,A6,A3,Ad,Aa,Ag,A0,Af,↓reduceIte,reduceSub,reduceEqDiff,reduceAdd,reduceMul,reduceLT,reduceLeDiff,reduceToNat,reduceLE,Int.reduceLT,reduceNeg,reduceCtorEq,zzL,if_true,if_false] <;> rfl)); apply Exists.intro; apply And.intro; (focus (first|exact q1|exact q2)))|refine Bg rfl ?_|refine Bb rfl ?_|refine ⟨(dxX (by kernel_rfl)),?_⟩|exact (dxX (by kernel_rfl))|simp -dsimp (maxSteps:=20000000) (disch:=omega) only [simx,zzC,zzB,tys,ite_self,A8,A2,Ax,Aq,Ao,At,Az,Ac,A5,PV.sk,Ai,Ar,As,Ap,Ay,Ab,Aj,Am,A9,Value.oneCell',Ah,Ba,Aw,A4,A1,Al,An,Ae,Ak,isZ,A6,A3,Ad,Aa,Ag,A0,Af,↓reduceIte,reduceSub,reduceEqDiff,reduceAdd,reduceMul,reduceLT,reduceLeDiff,reduceToNat,reduceLE,Int.reduceLT,reduceNeg,reduceCtorEq,gos,Int.reduceAdd,Int.reduceSub,Int.reduceMul,reduceEq])
    refine G4 rfl (by simp only [tys]) rfl (k1 _ ((0,0)::base) ((0,2)::base) _ (by simp [Heap.put_at,Heap.none_at]) (by simp [Heap.put_at,Heap.none_at]) (by simp [Heap.put_at,Heap.none_at]) (by simp) (by simp)) ?_
    repeat (first|refine Bg rfl ?_|refine Bb rfl ?_|refine ⟨(dxX (by kernel_rfl)),?_⟩|exact (dxX (by kernel_rfl))|simp -dsimp (maxSteps:=20000000) (disch:=omega) only [simx,zzC,zzB,tys,ite_self,A8,A2,Ax,Aq,Ao,At,Az,Ac,A5,PV.sk,Ai,Ar,As,Ap,Ay,Ab,Aj,Am,A9,Value.oneCell',Ah,Ba,Aw,A4,A1,Al,An,Ae,Ak,isZ,A6,A3,Ad,Aa,Ag,A0,Af,↓reduceIte,reduceSub,reduceEqDiff,reduceAdd,reduceMul,reduceLT,reduceLeDiff,reduceToNat,reduceLE,Int.reduceLT,reduceNeg,reduceCtorEq,zzR,gos,Int.reduceAdd,Int.reduceSub,Int.reduceMul,reduceEq])
theorem Aq3 {P:Nat} (hP:Prm P) {r c:Int} {l b:List Int} (hl:l.length ≤ maxLen) (wl:W64s l) (hb:b.length ≤ maxLen) (h:Ju P r c l=false) (i:Int) :
    CallsP Try.prog 15 [u64 P,C3 r c l,lu b] (.tup [lu [],i64 1]) ∧ CallsP Try.prog 16 [u64 P,C3 r c l,lu b] (.tup [lu [],i64 1]) ∧ CallsP Try.prog 17 [u64 P,C3 r c l] (.tup [lu [],i64 1]) ∧
    CallsP Try.prog 18 [u64 P,C3 r c l] (.tup [lu [],i64 1]) ∧ CallsP Try.prog 19 [u64 P,C3 r c l,i64 i] (.tup [lu [],i64 1]):=by
  have q1:=Hn P b r hb
  have q2:=An1 hP hl wl h
  refine ⟨?_,?_,?_,?_,?_⟩
  · cases hv:(Fe P b && decide ((b.length:Int)=r)) with
    | false =>
      rw [hv] at q1
      refine Bj (n:=49) (m:=3) (rs:=[.tmp 6,.tmp 7]) Try.func15 rfl rfl rfl rfl (by decide) fun base => ?_
      repeat (first|((first|refine Bd rfl (by simp only [tys]) ?_|refine Bc rfl (by simp only [tys]) ?_); apply Exists.intro; apply And.intro; (focus (simp -dsimp only [simx,zzC,zzB,tys,ite_self,A8,A2,Ax,Aq,Ao,At,Az,Ac,A5,PV.sk,Ai,Ar,As,Ap,Ay,Ab,Aj,Am,A9,Value.oneCell',Ah,Ba,Aw,A4,A1,Al,An,Ae,Ak,isZ,A6,A3,Ad,Aa,Ag,A0,Af,↓reduceIte,reduceSub,reduceEqDiff,reduceAdd,reduceMul,reduceLT,reduceLeDiff,reduceToNat,reduceLE,Int.reduceLT,reduceNeg,reduceCtorEq,zzL,if_true,if_false] <;> rfl)); apply Exists.intro; apply And.intro; (focus (first|exact q1|exact q2)))|refine Bg rfl ?_|refine Bb rfl ?_|refine ⟨(dxX (by kernel_rfl)),?_⟩|exact (dxX (by kernel_rfl))|simp -dsimp (maxSteps:=20000000) (disch:=omega) only [simx,zzC,zzB,tys,ite_self,A8,A2,Ax,Aq,Ao,At,Az,Ac,A5,PV.sk,Ai,Ar,As,Ap,Ay,Ab,Aj,Am,A9,Value.oneCell',Ah,Ba,Aw,A4,A1,Al,An,Ae,Ak,isZ,A6,A3,Ad,Aa,Ag,A0,Af,↓reduceIte,reduceSub,reduceEqDiff,reduceAdd,reduceMul,reduceLT,reduceLeDiff,reduceToNat,reduceLE,Int.reduceLT,reduceNeg,reduceCtorEq,zzR,gos,Int.reduceAdd,Int.reduceSub,Int.reduceMul,reduceEq])
      rfl
    | true =>
      rw [hv] at q1
      refine Bj (n:=49) (m:=3) (rs:=[.tmp 6,.tmp 7]) Try.func15 rfl rfl rfl rfl (by decide) fun base => ?_
      repeat (first|((first|refine Bd rfl (by simp only [tys]) ?_|refine Bc rfl (by simp only [tys]) ?_); apply Exists.intro; apply And.intro; (focus (simp -dsimp only [simx,zzC,zzB,tys,ite_self,A8,A2,Ax,Aq,Ao,At,Az,Ac,A5,PV.sk,Ai,Ar,As,Ap,Ay,Ab,Aj,Am,A9,Value.oneCell',Ah,Ba,Aw,A4,A1,Al,An,Ae,Ak,isZ,A6,A3,Ad,Aa,Ag,A0,Af,↓reduceIte,reduceSub,reduceEqDiff,reduceAdd,reduceMul,reduceLT,reduceLeDiff,reduceToNat,reduceLE,Int.reduceLT,reduceNeg,reduceCtorEq,zzL,if_true,if_false] <;> rfl)); apply Exists.intro; apply And.intro; (focus (first|exact q1|exact q2)))|refine Bg rfl ?_|refine Bb rfl ?_|refine ⟨(dxX (by kernel_rfl)),?_⟩|exact (dxX (by kernel_rfl))|simp -dsimp (maxSteps:=20000000) (disch:=omega) only [simx,zzC,zzB,tys,ite_self,A8,A2,Ax,Aq,Ao,At,Az,Ac,A5,PV.sk,Ai,Ar,As,Ap,Ay,Ab,Aj,Am,A9,Value.oneCell',Ah,Ba,Aw,A4,A1,Al,An,Ae,Ak,isZ,A6,A3,Ad,Aa,Ag,A0,Af,↓reduceIte,reduceSub,reduceEqDiff,reduceAdd,reduceMul,reduceLT,reduceLeDiff,reduceToNat,reduceLE,Int.reduceLT,reduceNeg,reduceCtorEq,zzR,gos,Int.reduceAdd,Int.reduceSub,Int.reduceMul,reduceEq])
      rfl
  · cases hv:(Fe P b && decide ((b.length:Int)=r)) with
    | false =>
      rw [hv] at q1
      refine Bj (n:=30) (m:=3) (rs:=[.tmp 6,.tmp 7]) Try.func16 rfl rfl rfl rfl (by decide) fun base => ?_
      repeat (first|((first|refine Bd rfl (by simp only [tys]) ?_|refine Bc rfl (by simp only [tys]) ?_); apply Exists.intro; apply And.intro; (focus (simp -dsimp only [simx,zzC,zzB,tys,ite_self,A8,A2,Ax,Aq,Ao,At,Az,Ac,A5,PV.sk,Ai,Ar,As,Ap,Ay,Ab,Aj,Am,A9,Value.oneCell',Ah,Ba,Aw,A4,A1,Al,An,Ae,Ak,isZ,A6,A3,Ad,Aa,Ag,A0,Af,↓reduceIte,reduceSub,reduceEqDiff,reduceAdd,reduceMul,reduceLT,reduceLeDiff,reduceToNat,reduceLE,Int.reduceLT,reduceNeg,reduceCtorEq,zzL,if_true,if_false] <;> rfl)); apply Exists.intro; apply And.intro; (focus (first|exact q1|exact q2)))|refine Bg rfl ?_|refine Bb rfl ?_|refine ⟨(dxX (by kernel_rfl)),?_⟩|exact (dxX (by kernel_rfl))|simp -dsimp (maxSteps:=20000000) (disch:=omega) only [simx,zzC,zzB,tys,ite_self,A8,A2,Ax,Aq,Ao,At,Az,Ac,A5,PV.sk,Ai,Ar,As,Ap,Ay,Ab,Aj,Am,A9,Value.oneCell',Ah,Ba,Aw,A4,A1,Al,An,Ae,Ak,isZ,A6,A3,Ad,Aa,Ag,A0,Af,↓reduceIte,reduceSub,reduceEqDiff,reduceAdd,reduceMul,reduceLT,reduceLeDiff,reduceToNat,reduceLE,Int.reduceLT,reduceNeg,reduceCtorEq,zzR,gos,Int.reduceAdd,Int.reduceSub,Int.reduceMul,reduceEq])
      rfl
    | true =>
      rw [hv] at q1
      refine Bj (n:=30) (m:=3) (rs:=[.tmp 6,.tmp 7]) Try.func16 rfl rfl rfl rfl (by decide) fun base => ?_
      repeat (first|((first|refine Bd rfl (by simp only [tys]) ?_|refine Bc rfl (by simp only [tys]) ?_); apply Exists.intro; apply And.intro; (focus (simp -dsimp only [simx,zzC,zzB,tys,ite_self,A8,A2,Ax,Aq,Ao,At,Az,Ac,A5,PV.sk,Ai,Ar,As,Ap,Ay,Ab,Aj,Am,A9,Value.oneCell',Ah,Ba,Aw,A4,A1,Al,An,Ae,Ak,isZ,A6,A3,Ad,Aa,Ag,A0,Af,↓reduceIte,reduceSub,reduceEqDiff,reduceAdd,reduceMul,reduceLT,reduceLeDiff,reduceToNat,reduceLE,Int.reduceLT,reduceNeg,reduceCtorEq,zzL,if_true,if_false] <;> rfl)); apply Exists.intro; apply And.intro; (focus (first|exact q1|exact q2)))|refine Bg rfl ?_|refine Bb rfl ?_|refine ⟨(dxX (by kernel_rfl)),?_⟩|exact (dxX (by kernel_rfl))|simp -dsimp (maxSteps:=20000000) (disch:=omega) only [simx,zzC,zzB,tys,ite_self,A8,A2,Ax,Aq,Ao,At,Az,Ac,A5,PV.sk,Ai,Ar,As,Ap,Ay,Ab,Aj,Am,A9,Value.oneCell',Ah,Ba,Aw,A4,A1,Al,An,Ae,Ak,isZ,A6,A3,Ad,Aa,Ag,A0,Af,↓reduceIte,reduceSub,reduceEqDiff,reduceAdd,reduceMul,reduceLT,reduceLeDiff,reduceToNat,reduceLE,Int.reduceLT,reduceNeg,reduceCtorEq,zzR,gos,Int.reduceAdd,Int.reduceSub,Int.reduceMul,reduceEq])
      rfl
  · refine Bj (n:=46) (m:=2) (rs:=[.tmp 4,.tmp 5]) Try.func17 rfl rfl rfl rfl (by decide) fun base => ?_
    repeat (first|((first|refine Bd rfl (by simp only [tys]) ?_|refine Bc rfl (by simp only [tys]) ?_); apply Exists.intro; apply And.intro; (focus (simp -dsimp only [simx,zzC,zzB,tys,ite_self,A8,A2,Ax,Aq,Ao,At,Az,Ac,A5,PV.sk,Ai,Ar,As,Ap,Ay,Ab,Aj,Am,A9,Value.oneCell',Ah,Ba,Aw,A4,A1,Al,An,Ae,Ak,isZ,A6,A3,Ad,Aa,Ag,A0,Af,↓reduceIte,reduceSub,reduceEqDiff,reduceAdd,reduceMul,reduceLT,reduceLeDiff,reduceToNat,reduceLE,Int.reduceLT,reduceNeg,reduceCtorEq,zzL,if_true,if_false] <;> rfl)); apply Exists.intro; apply And.intro; (focus (first|exact q2)))|refine Bg rfl ?_|refine Bb rfl ?_|refine ⟨(dxX (by kernel_rfl)),?_⟩|exact (dxX (by kernel_rfl))|simp -dsimp (maxSteps:=20000000) (disch:=omega) only [simx,zzC,zzB,tys,ite_self,A8,A2,Ax,Aq,Ao,At,Az,Ac,A5,PV.sk,Ai,Ar,As,Ap,Ay,Ab,Aj,Am,A9,Value.oneCell',Ah,Ba,Aw,A4,A1,Al,An,Ae,Ak,isZ,A6,A3,Ad,Aa,Ag,A0,Af,↓reduceIte,reduceSub,reduceEqDiff,reduceAdd,reduceMul,reduceLT,reduceLeDiff,reduceToNat,reduceLE,Int.reduceLT,reduceNeg,reduceCtorEq,zzR,gos,Int.reduceAdd,Int.reduceSub,Int.reduceMul,reduceEq])
    rfl
  · refine Bj (n:=21) (m:=2) (rs:=[.tmp 4,.tmp 5]) Try.func18 rfl rfl rfl rfl (by decide) fun base => ?_
    repeat (first|((first|refine Bd rfl (by simp only [tys]) ?_|refine Bc rfl (by simp only [tys]) ?_); apply Exists.intro; apply And.intro; (focus (simp -dsimp only [simx,zzC,zzB,tys,ite_self,A8,A2,Ax,Aq,Ao,At,Az,Ac,A5,PV.sk,Ai,Ar,As,Ap,Ay,Ab,Aj,Am,A9,Value.oneCell',Ah,Ba,Aw,A4,A1,Al,An,Ae,Ak,isZ,A6,A3,Ad,Aa,Ag,A0,Af,↓reduceIte,reduceSub,reduceEqDiff,reduceAdd,reduceMul,reduceLT,reduceLeDiff,reduceToNat,reduceLE,Int.reduceLT,reduceNeg,reduceCtorEq,zzL,if_true,if_false] <;> rfl)); apply Exists.intro; apply And.intro; (focus (first|exact q2)))|refine Bg rfl ?_|refine Bb rfl ?_|refine ⟨(dxX (by kernel_rfl)),?_⟩|exact (dxX (by kernel_rfl))|simp -dsimp (maxSteps:=20000000) (disch:=omega) only [simx,zzC,zzB,tys,ite_self,A8,A2,Ax,Aq,Ao,At,Az,Ac,A5,PV.sk,Ai,Ar,As,Ap,Ay,Ab,Aj,Am,A9,Value.oneCell',Ah,Ba,Aw,A4,A1,Al,An,Ae,Ak,isZ,A6,A3,Ad,Aa,Ag,A0,Af,↓reduceIte,reduceSub,reduceEqDiff,reduceAdd,reduceMul,reduceLT,reduceLeDiff,reduceToNat,reduceLE,Int.reduceLT,reduceNeg,reduceCtorEq,zzR,gos,Int.reduceAdd,Int.reduceSub,Int.reduceMul,reduceEq])
    rfl
  · refine Bj (n:=42) (m:=3) (rs:=[.tmp 6,.tmp 7]) Try.func19 rfl rfl rfl rfl (by decide) fun base => ?_
    repeat (first|((first|refine Bd rfl (by simp only [tys]) ?_|refine Bc rfl (by simp only [tys]) ?_); apply Exists.intro; apply And.intro; (focus (simp -dsimp only [simx,zzC,zzB,tys,ite_self,A8,A2,Ax,Aq,Ao,At,Az,Ac,A5,PV.sk,Ai,Ar,As,Ap,Ay,Ab,Aj,Am,A9,Value.oneCell',Ah,Ba,Aw,A4,A1,Al,An,Ae,Ak,isZ,A6,A3,Ad,Aa,Ag,A0,Af,↓reduceIte,reduceSub,reduceEqDiff,reduceAdd,reduceMul,reduceLT,reduceLeDiff,reduceToNat,reduceLE,Int.reduceLT,reduceNeg,reduceCtorEq,zzL,if_true,if_false] <;> rfl)); apply Exists.intro; apply And.intro; (focus (first|exact q2)))|refine Bg rfl ?_|refine Bb rfl ?_|refine ⟨(dxX (by kernel_rfl)),?_⟩|exact (dxX (by kernel_rfl))|simp -dsimp (maxSteps:=20000000) (disch:=omega) only [simx,zzC,zzB,tys,ite_self,A8,A2,Ax,Aq,Ao,At,Az,Ac,A5,PV.sk,Ai,Ar,As,Ap,Ay,Ab,Aj,Am,A9,Value.oneCell',Ah,Ba,Aw,A4,A1,Al,An,Ae,Ak,isZ,A6,A3,Ad,Aa,Ag,A0,Af,↓reduceIte,reduceSub,reduceEqDiff,reduceAdd,reduceMul,reduceLT,reduceLeDiff,reduceToNat,reduceLE,Int.reduceLT,reduceNeg,reduceCtorEq,zzR,gos,Int.reduceAdd,Int.reduceSub,Int.reduceMul,reduceEq])
    rfl
theorem Ab9 {P:Nat} {r c:Int} {l b:List Int} (hb:b.length ≤ maxLen) (h:(Fe P b && decide ((b.length:Int)=r))=false) :
    CallsP Try.prog 15 [u64 P,C3 r c l,lu b] (.tup [lu [],i64 1]) ∧ CallsP Try.prog 16 [u64 P,C3 r c l,lu b] (.tup [lu [],i64 1]):=by
  have q1:=Hn P b r hb
  rw [h] at q1
  refine ⟨?_,?_⟩
  · refine Bj (n:=49) (m:=3) (rs:=[.tmp 6,.tmp 7]) Try.func15 rfl rfl rfl rfl (by decide) fun base => ?_
    repeat (first|((first|refine Bd rfl (by simp only [tys]) ?_|refine Bc rfl (by simp only [tys]) ?_); apply Exists.intro; apply And.intro; (focus (simp -dsimp only [simx,zzC,zzB,tys,ite_self,A8,A2,Ax,Aq,Ao,At,Az,Ac,A5,PV.sk,Ai,Ar,As,Ap,Ay,Ab,Aj,Am,A9,Value.oneCell',Ah,Ba,Aw,A4,A1,Al,An,Ae,Ak,isZ,A6,A3,Ad,Aa,Ag,A0,Af,↓reduceIte,reduceSub,reduceEqDiff,reduceAdd,reduceMul,reduceLT,reduceLeDiff,reduceToNat,reduceLE,Int.reduceLT,reduceNeg,reduceCtorEq,zzL,if_true,if_false] <;> rfl)); apply Exists.intro; apply And.intro; (focus (first|exact q1)))|refine Bg rfl ?_|refine Bb rfl ?_|refine ⟨(dxX (by kernel_rfl)),?_⟩|exact (dxX (by kernel_rfl))|simp -dsimp (maxSteps:=20000000) (disch:=omega) only [simx,zzC,zzB,tys,ite_self,A8,A2,Ax,Aq,Ao,At,Az,Ac,A5,PV.sk,Ai,Ar,As,Ap,Ay,Ab,Aj,Am,A9,Value.oneCell',Ah,Ba,Aw,A4,A1,Al,An,Ae,Ak,isZ,A6,A3,Ad,Aa,Ag,A0,Af,↓reduceIte,reduceSub,reduceEqDiff,reduceAdd,reduceMul,reduceLT,reduceLeDiff,reduceToNat,reduceLE,Int.reduceLT,reduceNeg,reduceCtorEq,zzR,gos,Int.reduceAdd,Int.reduceSub,Int.reduceMul,reduceEq])
    rfl
  · refine Bj (n:=30) (m:=3) (rs:=[.tmp 6,.tmp 7]) Try.func16 rfl rfl rfl rfl (by decide) fun base => ?_
    repeat (first|((first|refine Bd rfl (by simp only [tys]) ?_|refine Bc rfl (by simp only [tys]) ?_); apply Exists.intro; apply And.intro; (focus (simp -dsimp only [simx,zzC,zzB,tys,ite_self,A8,A2,Ax,Aq,Ao,At,Az,Ac,A5,PV.sk,Ai,Ar,As,Ap,Ay,Ab,Aj,Am,A9,Value.oneCell',Ah,Ba,Aw,A4,A1,Al,An,Ae,Ak,isZ,A6,A3,Ad,Aa,Ag,A0,Af,↓reduceIte,reduceSub,reduceEqDiff,reduceAdd,reduceMul,reduceLT,reduceLeDiff,reduceToNat,reduceLE,Int.reduceLT,reduceNeg,reduceCtorEq,zzL,if_true,if_false] <;> rfl)); apply Exists.intro; apply And.intro; (focus (first|exact q1)))|refine Bg rfl ?_|refine Bb rfl ?_|refine ⟨(dxX (by kernel_rfl)),?_⟩|exact (dxX (by kernel_rfl))|simp -dsimp (maxSteps:=20000000) (disch:=omega) only [simx,zzC,zzB,tys,ite_self,A8,A2,Ax,Aq,Ao,At,Az,Ac,A5,PV.sk,Ai,Ar,As,Ap,Ay,Ab,Aj,Am,A9,Value.oneCell',Ah,Ba,Aw,A4,A1,Al,An,Ae,Ak,isZ,A6,A3,Ad,Aa,Ag,A0,Af,↓reduceIte,reduceSub,reduceEqDiff,reduceAdd,reduceMul,reduceLT,reduceLeDiff,reduceToNat,reduceLE,Int.reduceLT,reduceNeg,reduceCtorEq,zzR,gos,Int.reduceAdd,Int.reduceSub,Int.reduceMul,reduceEq])
    rfl
end Go.Proofs.Ythnfphgjfpcpbaa.TM
namespace Go.Proofs.Ythnfphgjfpcpbaa.TM
open Go Go.RowKit
attribute [local irreducible] K W Dg Effs Xg Xo Xr Xdg Xdo Xdr Xif CallsP CallR
def Jv (n i:Nat):List Int:=tbl n (fun m => if m=i then 1 else 0)
theorem Fw (n i:Nat):(Jv n i).length=n:=Ca ..
theorem Oe {p:Int} (hp:Md p) (n i:Nat):∀ a ∈ Jv n i,In p a:=fun a ha => by
  obtain ⟨m,_,rfl⟩:=Dh ha
  (try simp only)
  have:=hp.1
  split
  · exact ⟨by decide,by omega⟩
  · exact ⟨by decide,by omega⟩
def Gl (p:Int) (C:Nat) (c:Cy) (f:Nat):List Int:=svL p C c (C5 p c) (Er c.1.length) (Jv C f) c.1.length
def V9 (cols:List Int) (C:Nat):Option Nat:=Jt cols (fun _ => true) C
def Ip (p:Int) (C:Nat) (c:Cy):List Int × Int:=match V9 c.2.1 C with
  | some f => (Gl p C c f,0)
  | none => ([],6)
set_option maxHeartbeats 4000000 in
theorem Nw {P R C:Nat} {l:List Int} (hP:Prm P) (M:Mt P R C l) (hin:∀ a ∈ l,In P a) :
    CallsP Try.prog 17 [u64 P,C3 R C l] (.tup [lu (Ip P C (Bf P C R l)).1,i64 (Ip P C (Bf P C R l)).2]):=by
  have hp:=M.hp
  have r2:=M.r2
  have c2:=M.c2
  have q2:=Gy hP M hin
  have hw:=Dx hP M hin
  have rle:=hw.rle
  have ul:=hw.ul
  have ql:=hw.ql
  have vi:=Mb hP hp hw
  have k2:=fun f => Jy (l:=l) (x:=Jv C f) (z:=Er (Bf P C R l).1.length) hp hw r2 c2 (Oe hp C f) (Fw C f) (Lt hp _) (D8 _) vi.1 vi.2
  have xl:=fun f => Kr (p:=P) (C:=C) (c:=Bf P C R l) (vs:=C5 P (Bf P C R l)) (z:=Er (Bf P C R l).1.length) (Fw C f) (Bf P C R l).1.length
  unfold Ip V9
  have ke:Gl P C (Bf P C R l)=fun f => svL P C (Bf P C R l) (C5 P (Bf P C R l)) (Er (Bf P C R l).1.length) (Jv C f) (Bf P C R l).1.length:=rfl
  rw [← show Gl P C (Bf P C R l)=fun f => svL P C (Bf P C R l) (C5 P (Bf P C R l)) (Er (Bf P C R l).1.length) (Jv C f) (Bf P C R l).1.length from rfl] at ke
  change ∀ f,Ls _ _ _ _ _ ((Gl P C (Bf P C R l) f).map iu) at k2
  change ∀ f,(Gl P C (Bf P C R l) f).length=C at xl
  clear ke
  generalize Gl P C (Bf P C R l)=KX at k2 xl ⊢
  generalize C5 P (Bf P C R l)=vs at q2 k2
  generalize Bf P C R l=c at q2 hw k2 rle ul ql ⊢
  obtain ⟨rw0,cw,cc,uu⟩:=c
  simp only at k2 rle ul ql ⊢
  have b1:C * 8 ≤ 140737488355328:=by omega
  have b2:C ≤ 140737488355328:=by omega
  have b3:rw0.length * 8 ≤ 140737488355328:=by omega
  have b4:rw0.length ≤ 140737488355328:=by omega
  have ez:(Cc [Value.int .u64 0] C).map IV.v=(Er C).map iu:=Ey C
  have ez2:(Cc [Value.int .u64 0] rw0.length).map IV.v=(Er rw0.length).map iu:=Ey _
  have rl:((Cc [Value.int .u64 0] C).map IV.v).length=C:=by rw [List.length_map,C8]; simp
  have zl2:((Cc [Value.int .u64 0] rw0.length).map IV.v).length=rw0.length:=by rw [List.length_map,C8]; simp
  have nz2:((Cc [Value.int .u64 0] rw0.length).map IV.v).take rw0.length=(Cc [Value.int .u64 0] rw0.length).map IV.v:=List.take_of_length_le (by omega)
  refine Bj (n:=46) (m:=2) (rs:=[.tmp 4,.tmp 5]) Try.func17 rfl rfl rfl rfl (by decide) fun base => ?_
  repeat (first|((first|refine Bd rfl (by simp only [tys]) ?_|refine Bc rfl (by simp only [tys]) ?_); apply Exists.intro; apply And.intro; (focus (simp -dsimp only [simx,zzC,zzB,tys,ite_self,A8,A2,Ax,Aq,Ao,At,Az,Ac,A5,PV.sk,Ai,Ar,As,Ap,Ay,Ab,Aj,Am,A9,Value.oneCell',Ah,Ba,Aw,A4,A1,Al,An,Ae,Ak,isZ,A6,A3,Ad,Aa,Ag,A0,Af,↓reduceIte,reduceSub,reduceEqDiff,reduceAdd,reduceMul,reduceLT,reduceLeDiff,reduceToNat,reduceLE,Int.reduceLT,reduceNeg,reduceCtorEq,zzL,if_true,if_false] <;> rfl)); apply Exists.intro; apply And.intro; (focus (first|exact q2)))|refine Bg rfl ?_|refine Bb rfl ?_|refine ⟨(dxX (by kernel_rfl)),?_⟩|exact (dxX (by kernel_rfl))|simp -dsimp (maxSteps:=20000000) (disch:=omega) only [simx,zzC,zzB,tys,ite_self,A8,A2,Ax,Aq,Ao,At,Az,Ac,A5,PV.sk,Ai,Ar,As,Ap,Ay,Ab,Aj,Am,A9,Value.oneCell',Ah,Ba,Aw,A4,A1,Al,An,Ae,Ak,isZ,A6,A3,Ad,Aa,Ag,A0,Af,↓reduceIte,reduceSub,reduceEqDiff,reduceAdd,reduceMul,reduceLT,reduceLeDiff,reduceToNat,reduceLE,Int.reduceLT,reduceNeg,reduceCtorEq,gos,Int.reduceAdd,Int.reduceSub,Int.reduceMul,reduceEq])
  refine B5 [3,6,20,21] [] (0) (C) (fun j => ∀ i,i < j → (!decide ((i:Int) ∈ cw) && true)=false) (fun j => [(21,i64 j)]) (fun j => (Heap.none.put ((0,0)::base) (.var [i64 R,i64 C,lu l])).put ((1,6)::base) (.var [li rw0,li cw,llP cc,llP uu,u64 P,i64 R,i64 C,lu l,lu vs])) ?_ ?_ ?_ ?_ ?_ (by decide) ?_
  · exact (Bl)
  · ((simp -dsimp (disch:=omega) only [simx,zzB,tys,ite_self,A8,A2,Ax,Aq,Ao,At,Az,Ac,A5,PV.sk,Ai,Ar,As,Ap,Ay,Ab,Aj,Am,A9,Value.oneCell',Ah,Ba,Aw,A4,A1,Al,An,Ae,Ak,isZ,A6,A3,Ad,Aa,Ag,A0,Af,↓reduceIte,reduceSub,reduceEqDiff,reduceAdd,reduceMul,reduceLT,reduceLeDiff,reduceToNat,reduceLE,Int.reduceLT,reduceNeg,reduceCtorEq,gos,Int.reduceAdd,Int.reduceSub,Int.reduceMul,reduceEq]) <;> first|rfl|simp)
  · funext c
    simp (maxSteps:=20000000) only [Heap.drop_at,Bh,Heap.put_at,Heap.none_at,List.mem_cons,List.not_mem_nil,or_false]
    by_cases e0:c=(0,0)::base
    · subst e0; simp []
    by_cases e1:c=(1,6)::base
    · subst e1; simp []
    simp [e0,e1]
  · omega
  · intro i hi; omega
  · intro j hj hf
    by_cases cj:j < C
    · have k1:=F1 cw (j:Int) (by rw [B3]; omega)
      by_cases cm:(j:Int) ∈ cw
      · rw [decide_eq_true cm] at k1
        repeat (first|((first|refine Bd rfl (by simp only [tys]) ?_|refine Bc rfl (by simp only [tys]) ?_); apply Exists.intro; apply And.intro; (focus (simp -dsimp only [simx,zzC,zzB,tys,ite_self,A8,A2,Ax,Aq,Ao,At,Az,Ac,A5,PV.sk,Ai,Ar,As,Ap,Ay,Ab,Aj,Am,A9,Value.oneCell',Ah,Ba,Aw,A4,A1,Al,An,Ae,Ak,isZ,A6,A3,Ad,Aa,Ag,A0,Af,↓reduceIte,reduceSub,reduceEqDiff,reduceAdd,reduceMul,reduceLT,reduceLeDiff,reduceToNat,reduceLE,Int.reduceLT,reduceNeg,reduceCtorEq,zzL,if_true,if_false] <;> rfl)); apply Exists.intro; apply And.intro; (focus (first|exact k1)))|refine Bg rfl ?_|refine Bb rfl ?_|refine ⟨(dxX (by kernel_rfl)),?_⟩|exact (dxX (by kernel_rfl))|simp -dsimp (maxSteps:=20000000) (disch:=omega) only [simx,zzC,zzB,tys,ite_self,A8,A2,Ax,Aq,Ao,At,Az,Ac,A5,PV.sk,Ai,Ar,As,Ap,Ay,Ab,Aj,Am,A9,Value.oneCell',Ah,Ba,Aw,A4,A1,Al,An,Ae,Ak,isZ,A6,A3,Ad,Aa,Ag,A0,Af,↓reduceIte,reduceSub,reduceEqDiff,reduceAdd,reduceMul,reduceLT,reduceLeDiff,reduceToNat,reduceLE,Int.reduceLT,reduceNeg,reduceCtorEq,gos,Int.reduceAdd,Int.reduceSub,Int.reduceMul,reduceEq,cj])
        refine ⟨cj,(Bl),?_,rfl,drop_nil _⟩
        intro i hi
        by_cases e:i=j
        · subst e; rw [decide_eq_true cm]; rfl
        · have:=hf i (by omega); simpa using this
      · rw [decide_eq_false cm] at k1
        have e:Jt cw (fun i => true) C=some j:=G0 cj hf (by rw [decide_eq_false cm]; rfl)
        rw [e]
        have j1:j + 1 ≤ C:=cj
        have px:=Du (fun _ => 0) 1 cj
        rw [← Ey C] at px
        have k2:=k2 j
        have xl:=xl j
        obtain ⟨X,hX⟩:∃ X,KX j=X:=⟨_,rfl⟩
        rw [hX] at k2 xl
        have nt:(X.map iu).take C=X.map iu:=List.take_of_length_le (by simp [xl])
        repeat (first|((first|refine Bd rfl (by simp only [tys]) ?_|refine Bc rfl (by simp only [tys]) ?_); apply Exists.intro; apply And.intro; (focus (simp -dsimp only [simx,zzC,zzB,tys,ite_self,A8,A2,Ax,Aq,Ao,At,Az,Ac,A5,PV.sk,Ai,Ar,As,Ap,Ay,Ab,Aj,Am,A9,Value.oneCell',Ah,Ba,Aw,A4,A1,Al,An,Ae,Ak,isZ,A6,A3,Ad,Aa,Ag,A0,Af,↓reduceIte,reduceSub,reduceEqDiff,reduceAdd,reduceMul,reduceLT,reduceLeDiff,reduceToNat,reduceLE,Int.reduceLT,reduceNeg,reduceCtorEq,zzL,if_true,if_false] <;> rfl)); apply Exists.intro; apply And.intro; (focus (first|exact k1)))|refine Bg rfl ?_|refine Bb rfl ?_|refine ⟨(dxX (by kernel_rfl)),?_⟩|exact (dxX (by kernel_rfl))|simp -dsimp (maxSteps:=20000000) (disch:=omega) only [simx,zzC,zzB,tys,ite_self,A8,A2,Ax,Aq,Ao,At,Az,Ac,A5,PV.sk,Ai,Ar,As,Ap,Ay,Ab,Aj,Am,A9,Value.oneCell',Ah,Ba,Aw,A4,A1,Al,An,Ae,Ak,isZ,A6,A3,Ad,Aa,Ag,A0,Af,↓reduceIte,reduceSub,reduceEqDiff,reduceAdd,reduceMul,reduceLT,reduceLeDiff,reduceToNat,reduceLE,Int.reduceLT,reduceNeg,reduceCtorEq,gos,Int.reduceAdd,Int.reduceSub,Int.reduceMul,reduceEq,cj,b1,b2,b3,b4,rl,j1,px,ul])
        refine K0 (args:=[D1 P R C l (rw0,cw,cc,uu) vs,.view ((8,2)::base) 0 1 C C,.view ((10,6)::base) 0 1 rw0.length rw0.length]) (largs:=[D1 P R C l (rw0,cw,cc,uu) vs,.view wN 0 1 C C,.i (.l rw0.length ((Er rw0.length).map iu))]) ((8,2)::base) k2 rfl (by simp only [tys]) rfl ?_ (by simp [Al,An]) ?_ rfl (by simp [xl,Fw]) ?_
        · simp [Heap.put_at]; rfl
        · have h1:∀ h,Fz h ((8,2)::base) (D1 P R C l (rw0,cw,cc,uu) vs)=some (D1 P R C l (rw0,cw,cc,uu) vs):=fun h => by simp [Fz,isV,Al,An,Ch,Cv,Cl]
          have h2:∀ h,Fz h ((8,2)::base) (.view ((8,2)::base) 0 1 C C)=some (.view wN 0 1 C C):=fun h => by simp [Fz,isV,reV]
          simp only [Cv,h1,h2]
          simp only [Fz,isV,Al,An,Ch,Cl,Heap.put_at]
          simp [zl2,nz2]
          exact ez2
        · rw [show (List.filter (H8 ((8,2)::base)) (List.flatMap Al [D1 P R C l (rw0,cw,cc,uu) vs,.view ((8,2)::base) 0 1 C C,.view ((10,6)::base) 0 1 rw0.length rw0.length]))=[(10,6)::base] by simp [Al,An,H8]]
          repeat (first|refine Bg rfl ?_|refine Bb rfl ?_|refine ⟨(dxX (by kernel_rfl)),?_⟩|exact (dxX (by kernel_rfl))|simp -dsimp (maxSteps:=20000000) (disch:=omega) only [simx,zzC,zzB,tys,ite_self,A8,A2,Ax,Aq,Ao,At,Az,Ac,A5,PV.sk,Ai,Ar,As,Ap,Ay,Ab,Aj,Am,A9,Value.oneCell',Ah,Ba,Aw,A4,A1,Al,An,Ae,Ak,isZ,A6,A3,Ad,Aa,Ag,A0,Af,↓reduceIte,reduceSub,reduceEqDiff,reduceAdd,reduceMul,reduceLT,reduceLeDiff,reduceToNat,reduceLE,Int.reduceLT,reduceNeg,reduceCtorEq,zzR,gos,Int.reduceAdd,Int.reduceSub,Int.reduceMul,reduceEq,List.length_map,xl,nt])
          simp [hX,xl]
    · have ej:C=j:=by omega
      subst ej
      have e:Jt cw (fun i => true) C=none:=G1 hf
      rw [e]
      repeat (first|refine Bg rfl ?_|refine Bb rfl ?_|refine ⟨(dxX (by kernel_rfl)),?_⟩|exact (dxX (by kernel_rfl))|simp -dsimp (maxSteps:=20000000) (disch:=omega) only [simx,zzC,zzB,tys,ite_self,A8,A2,Ax,Aq,Ao,At,Az,Ac,A5,PV.sk,Ai,Ar,As,Ap,Ay,Ab,Aj,Am,A9,Value.oneCell',Ah,Ba,Aw,A4,A1,Al,An,Ae,Ak,isZ,A6,A3,Ad,Aa,Ag,A0,Af,↓reduceIte,reduceSub,reduceEqDiff,reduceAdd,reduceMul,reduceLT,reduceLeDiff,reduceToNat,reduceLE,Int.reduceLT,reduceNeg,reduceCtorEq,zzR,gos,Int.reduceAdd,Int.reduceSub,Int.reduceMul,reduceEq])
      rfl
end Go.Proofs.Ythnfphgjfpcpbaa.TM
namespace Go.Proofs.Ythnfphgjfpcpbaa.TM
open Go Go.RowKit
attribute [local irreducible] K W Dg Effs Xg Xo Xr Xdg Xdo Xdr Xif CallsP CallR
theorem T8 {P : Program} {C : B9} {h h0 : Heap} {base : Name} {Qf : Ex → List PV → Heap → Prop} {k : List It} {t : List PV} {R : It} {d : Option Tmp} {s : Name} {ty : TypeId} (e : TypeId) (zs : List Value) {n z m : Nat} {cs : List IV} (xs : List IV) {y : PV} {k2 : SK}
    (he:Bw P ty=some e) (hz:B6 P e=some zs) (hzl:zs.length=z) (hz0:0 < z) (hn:cs.length=n * z) (hs:h s=if n=0 then none else some (.row false cs)) (hy:y.sk=some k2) (hm:k2.len=m) (hm0:0 < m) (hx:k2.cells h z=some xs)
    (hby:(n + m) * P.bytesOf e ≤ 140737488355328) (hl:n + m ≤ maxLen)
    (hk:K P C h0 base Qf (R::k) .normal (Cx t d (rowP s z (n + m) (cs ++ xs))) (h.put s (.row false (cs ++ xs)))) :
    Xr P C h0 base Qf (Do P h s ty (rowP s z n cs) y) d R k t h:=Ab0 (Lo he hz hzl hz0 hn hs hy hm hm0 hx hby hl) hk
def Lk (p:Int) (n:Nat) (c:Cy) (j:Nat):List Int:=(List.range j).flatMap (fun i => En p n c (Jv n i))
theorem M5 (p:Int) (n:Nat) (c:Cy) (j:Nat):Lk p n c (j + 1)=Lk p n c j ++ En p n c (Jv n j):=by
  unfold Lk; rw [List.range_succ,List.flatMap_append]; simp
theorem V0 (p:Int) (n:Nat) (c:Cy):∀ j,(Lk p n c j).length=j * n
  | 0 => by simp [Lk]
  | j + 1 => by rw [M5,List.length_append,V0 p n c j,Ig,Nat.succ_mul]
theorem Z8 {p:Int} (hp:Md p) (n:Nat) (c:Cy):∀ j,∀ a ∈ Lk p n c j,In p a
  | 0,a,ha => by simp [Lk] at ha
  | j + 1,a,ha => by
    rw [M5] at ha
    rcases List.mem_append.1 ha with ha|ha
    · exact Z8 hp n c j a ha
    · exact Og hp c _ a ha
set_option maxHeartbeats 8000000 in
theorem Tq {P R:Nat} {l:List Int} (hP:Prm P) (M:Mt P R R l) (hin:∀ a ∈ l,In P a) (h:(Bf P R R l).1.length=R) :
    CallsP Try.prog 36 [u64 P,C3 R R l] (.tup [C3 R R (Ee R R (Lk P R (Bf P R R l) R)),i64 0]):=by
  have hp:=M.hp
  have r1:=M.r1
  have r2:=M.r2
  have q2:=Gy hP M hin
  have hw:=Dx hP M hin
  have vi:=Mb hP hp hw
  have k1:=fun (vs b:List Int) (hb:∀ a ∈ b,In P a) (hbl:b.length=R) => Nz (l:=l) (vs:=vs) hp hw r2 hb hbl
  have k2:=fun b (hb:∀ a ∈ b,In P a) (hbl:b.length=R) => Jy (l:=l) (x:=Er R) (z:=hlL P (Bf P R R l) b (Bf P R R l).1.length) hp hw r2 r2 (Lt hp R) (D8 R) (Ts hp hw hb hbl _ (Nat.le_refl _)) (Gq ..) vi.1 vi.2
  have zl:=fun b => Gq P (Bf P R R l) b (Bf P R R l).1.length
  change ∀ b,_ → _ → Ls _ _ _ _ _ ((En P R (Bf P R R l) b).map iu) at k2
  have xl:=fun b => Ig P R (Bf P R R l) b
  have inx:=M5 P R (Bf P R R l)
  have inl:=V0 P R (Bf P R R l)
  have Mi:Mt P R R (Lk P R (Bf P R R l) R):=⟨hp,r1,r2,r1,r2,inl R,fun a ha => (Z8 hp R _ R a ha).2⟩
  have q3:=Ac1 P R R (Lk P R (Bf P R R l) R) (by rw [inl]; have:=J4 r2 r2; rw [B3]; omega)
  rw [show Zl P R R (Lk P R (Bf P R R l) R)=(((R:Int),(R:Int),Ee R R (Lk P R (Bf P R R l) R)),(0:Int)) by unfold Zl; rw [Xz Mi]; rfl] at q3
  rw [h] at k1 k2 zl
  have k1:=k1 (C5 P (Bf P R R l))
  have i0:Lk P R (Bf P R R l) 0=[]:=rfl
  generalize hZ:(fun b => hlL P (Bf P R R l) b R)=HZ at *
  have hz:∀ b,hlL P (Bf P R R l) b R=HZ b:=fun b => by rw [← hZ]
  simp only [hz] at k1 k2 zl
  generalize En P R (Bf P R R l)=SX at k2 xl inx
  generalize Lk P R (Bf P R R l)=IJ at inx inl Mi q3 i0 ⊢
  generalize C5 P (Bf P R R l)=vs at q2 vi k1 k2
  clear hz hZ
  generalize Bf P R R l=c at q2 hw k1 k2 h
  obtain ⟨rw0,cw,cc,uu⟩:=c
  simp only at h
  have h1:¬ (rw0.length:Int) < (R:Int):=by omega
  have b1:R * 8 ≤ 140737488355328:=by omega
  have b2:R ≤ 140737488355328:=by omega
  have bd:=J4 r2 r2
  have rl:((Cc [Value.int .u64 0] R).map IV.v).length=R:=by rw [List.length_map,C8]; simp
  have ez:(Cc [Value.int .u64 0] R).map IV.v=(Er R).map iu:=Ey R
  refine Bj (n:=74) (m:=2) (rs:=[.cell 4 25,.tmp 5]) Try.func36 rfl rfl rfl rfl (by decide) fun base => ?_
  repeat (first|((first|refine Bd rfl (by simp only [tys]) ?_|refine Bc rfl (by simp only [tys]) ?_); apply Exists.intro; apply And.intro; (focus (simp -dsimp only [simx,zzC,zzB,tys,ite_self,A8,A2,Ax,Aq,Ao,At,Az,Ac,A5,PV.sk,Ai,Ar,As,Ap,Ay,Ab,Aj,Am,A9,Value.oneCell',Ah,Ba,Aw,A4,A1,Al,An,Ae,Ak,isZ,A6,A3,Ad,Aa,Ag,A0,Af,↓reduceIte,reduceSub,reduceEqDiff,reduceAdd,reduceMul,reduceLT,reduceLeDiff,reduceToNat,reduceLE,Int.reduceLT,reduceNeg,reduceCtorEq,zzL,if_true,if_false] <;> rfl)); apply Exists.intro; apply And.intro; (focus (first|exact q2)))|refine Bg rfl ?_|refine Bb rfl ?_|refine ⟨(dxX (by kernel_rfl)),?_⟩|exact (dxX (by kernel_rfl))|simp -dsimp (maxSteps:=20000000) (disch:=omega) only [simx,zzC,zzB,tys,ite_self,A8,A2,Ax,Aq,Ao,At,Az,Ac,A5,PV.sk,Ai,Ar,As,Ap,Ay,Ab,Aj,Am,A9,Value.oneCell',Ah,Ba,Aw,A4,A1,Al,An,Ae,Ak,isZ,A6,A3,Ad,Aa,Ag,A0,Af,↓reduceIte,reduceSub,reduceEqDiff,reduceAdd,reduceMul,reduceLT,reduceLeDiff,reduceToNat,reduceLE,Int.reduceLT,reduceNeg,reduceCtorEq,gos,Int.reduceAdd,Int.reduceSub,Int.reduceMul,reduceEq,h1,SK.len])
  refine B5 [0,3,4,6,8,44,45] [(12,2)::base,(12,5)::base] (0) (R) (fun j => True) (fun j => [(45,i64 j)]) (fun j => C9 ((((Heap.none.put ((0,0)::base) (.var [i64 R,i64 R,lu l])).put ((0,1)::base) (.var [i64 0,i64 0,Dk])).put ((3,6)::base) (.var [li rw0,li cw,llP cc,llP uu,u64 P,i64 R,i64 R,lu l,lu vs])).put ((8,5)::base) (.var [i64 R,i64 R,rowP ((15,3)::base) 1 (j * R) ((IJ j).map iu)])) ((15,3)::base) (j * R) ((IJ j).map iu)) ?_ ?_ ?_ ?_ ?_ (by decide) ?_
  · exact (Bv (by simp only [Heap.none_at]) (by (simp -dsimp only [zzB,tys,ite_self,A8,A2,Ax,Aq,Ao,At,Az,Ac,A5,PV.sk,Ai,Ar,As,Ap,Ay,Ab,Aj,Am,A9,Value.oneCell',Ah,Ba,Aw,A4,A1,Al,An,Ae,Ak,isZ,A6,A3,Ad,Aa,Ag,A0,Af,↓reduceIte,reduceSub,reduceEqDiff,reduceAdd,reduceMul,reduceLT,reduceLeDiff,reduceToNat,reduceLE,Int.reduceLT,reduceNeg,reduceCtorEq,Bm,Bo]) <;> simp [Bs,Bn,Be]) (by repeat (first|exact Bx _|refine Bp ?_|refine B4 ?_|refine Bt ?_|refine Bu ?_ (by simp [Bs,Bn,Be]))) (Bv (by simp only [Heap.none_at]) (by (simp -dsimp only [zzB,tys,ite_self,A8,A2,Ax,Aq,Ao,At,Az,Ac,A5,PV.sk,Ai,Ar,As,Ap,Ay,Ab,Aj,Am,A9,Value.oneCell',Ah,Ba,Aw,A4,A1,Al,An,Ae,Ak,isZ,A6,A3,Ad,Aa,Ag,A0,Af,↓reduceIte,reduceSub,reduceEqDiff,reduceAdd,reduceMul,reduceLT,reduceLeDiff,reduceToNat,reduceLE,Int.reduceLT,reduceNeg,reduceCtorEq,Bm,Bo]) <;> simp [Bs,Bn,Be]) (by repeat (first|exact Bx _|refine Bp ?_|refine B4 ?_|refine Bt ?_|refine Bu ?_ (by simp [Bs,Bn,Be]))) (Bl)))
  · ((simp -dsimp (disch:=omega) only [simx,zzB,tys,ite_self,A8,A2,Ax,Aq,Ao,At,Az,Ac,A5,PV.sk,Ai,Ar,As,Ap,Ay,Ab,Aj,Am,A9,Value.oneCell',Ah,Ba,Aw,A4,A1,Al,An,Ae,Ak,isZ,A6,A3,Ad,Aa,Ag,A0,Af,↓reduceIte,reduceSub,reduceEqDiff,reduceAdd,reduceMul,reduceLT,reduceLeDiff,reduceToNat,reduceLE,Int.reduceLT,reduceNeg,reduceCtorEq,gos,Int.reduceAdd,Int.reduceSub,Int.reduceMul,reduceEq]) <;> first|rfl|simp)
  · rw [i0,Nat.zero_mul,Bk,Ci]
    funext c
    simp (maxSteps:=20000000) only [Heap.drop_at,Bh,Heap.put_at,Heap.none_at,List.mem_cons,List.not_mem_nil,or_false]
    by_cases e0:c=(0,0)::base
    · subst e0; simp []
    by_cases e1:c=(0,1)::base
    · subst e1; simp []
    by_cases e2:c=(3,6)::base
    · subst e2; simp []
    by_cases e3:c=(8,5)::base
    · subst e3; simp []
    by_cases e4:c=(12,2)::base
    · subst e4; simp []
    by_cases e5:c=(12,5)::base
    · subst e5; simp []
    simp [e0,e1,e2,e3,e4,e5]
  · omega
  · trivial
  · intro j hj _
    by_cases cj:j < R
    · have j1:j + 1 ≤ R:=cj
      have px:=Du (fun _ => 0) 1 cj
      rw [← Ey R] at px
      change _=(Jv R j).map iu at px
      have ulen:=Fw R j
      have k1:=k1 (Jv R j) (Oe hp R j) ulen
      have k2:=k2 (Jv R j) (Oe hp R j) ulen
      have zl:=zl (Jv R j)
      have xl:=xl (Jv R j)
      have nx:=inx j
      have il:=inl j
      generalize SX (Jv R j)=X at k2 xl nx
      generalize HZ (Jv R j)=Z at k1 k2 zl
      generalize Jv R j=U at px k1 ulen
      rw [lu,zl] at k1
      have ut:(U.map iu).take R=U.map iu:=List.take_of_length_le (by simp [ulen])
      have b3:=Fb (c:=R) cj
      repeat (first|((first|refine Bd rfl (by simp only [tys]) ?_|refine Bc rfl (by simp only [tys]) ?_); apply Exists.intro; apply And.intro; (focus (simp -dsimp only [simx,zzC,zzB,tys,ite_self,A8,A2,Ax,Aq,Ao,At,Az,Ac,A5,PV.sk,Ai,Ar,As,Ap,Ay,Ab,Aj,Am,A9,Value.oneCell',Ah,Ba,Aw,A4,A1,Al,An,Ae,Ak,isZ,A6,A3,Ad,Aa,Ag,A0,Af,↓reduceIte,reduceSub,reduceEqDiff,reduceAdd,reduceMul,reduceLT,reduceLeDiff,reduceToNat,reduceLE,Int.reduceLT,reduceNeg,reduceCtorEq,zzL,if_true,if_false,List.length_map,ulen,ut] <;> rfl)); apply Exists.intro; apply And.intro; (focus (first|exact k1)))|refine Bg rfl ?_|refine Bb rfl ?_|refine ⟨(dxX (by kernel_rfl)),?_⟩|exact (dxX (by kernel_rfl))|simp -dsimp (maxSteps:=20000000) (disch:=omega) only [simx,zzC,zzB,tys,ite_self,A8,A2,Ax,Aq,Ao,At,Az,Ac,A5,PV.sk,Ai,Ar,As,Ap,Ay,Ab,Aj,Am,A9,Value.oneCell',Ah,Ba,Aw,A4,A1,Al,An,Ae,Ak,isZ,A6,A3,Ad,Aa,Ag,A0,Af,↓reduceIte,reduceSub,reduceEqDiff,reduceAdd,reduceMul,reduceLT,reduceLeDiff,reduceToNat,reduceLE,Int.reduceLT,reduceNeg,reduceCtorEq,gos,Int.reduceAdd,Int.reduceSub,Int.reduceMul,reduceEq,cj,b1,b2,rl,j1,px,List.length_map,ulen,ut])
      refine K0 (args:=[D1 P R R l (rw0,cw,cc,uu) vs,.view ((12,5)::base) 0 1 R R,.i (.l R (Z.map iu))]) ((12,5)::base) k2 rfl (by simp only [tys]) rfl (by simp [Heap.put_at]; exact ez) (by simp [Al,An]) (by simp [Cv,Fz,isV,reV,Al,An,Ch,Cl]) rfl (by simp [xl,D8]) ?_
      rw [show (List.filter (H8 ((12,5)::base)) (List.flatMap Al [D1 P R R l (rw0,cw,cc,uu) vs,.view ((12,5)::base) 0 1 R R,.i (.l R (Z.map iu))]))=[] by simp [Al,An,H8]]
      repeat (first|refine Bg rfl ?_|refine Bb rfl ?_|refine ⟨(dxX (by kernel_rfl)),?_⟩|exact (dxX (by kernel_rfl))|simp -dsimp (maxSteps:=20000000) (disch:=omega) only [simx,zzC,zzB,tys,ite_self,A8,A2,Ax,Aq,Ao,At,Az,Ac,A5,PV.sk,Ai,Ar,As,Ap,Ay,Ab,Aj,Am,A9,Value.oneCell',Ah,Ba,Aw,A4,A1,Al,An,Ae,Ak,isZ,A6,A3,Ad,Aa,Ag,A0,Af,↓reduceIte,reduceSub,reduceEqDiff,reduceAdd,reduceMul,reduceLT,reduceLeDiff,reduceToNat,reduceLE,Int.reduceLT,reduceNeg,reduceCtorEq,gos,Int.reduceAdd,Int.reduceSub,Int.reduceMul,reduceEq])
      have xt:(X.map iu).take R=X.map iu:=List.take_of_length_le (by simp [xl])
      refine T8 (s:=(15,3)::base) (n:=j * R) (z:=1) (m:=R) (cs:=(IJ j).map iu) 22 [.int .u64 0] (X.map iu) (k2:=.own ((12,5)::base) 0 1 R R) (by simp only [tys]) (by simp only [tys]) rfl (by decide) (by simp [il]) (by simp [Bh,Heap.put_at,Heap.none_at]) rfl rfl (by omega) (by simp [SK.cells,Heap.put_at,xl,xt]) (by simp only [tys]; omega) (by rw [B3]; omega) ?_
      have rp:rowP ((15,3)::base) 1 (j * R + R) ((IJ j).map iu ++ X.map iu)=.view ((15,3)::base) 0 1 (j * R + R) ((IJ j).map iu ++ X.map iu).length:=if_neg (by omega)
      repeat (first|refine Bg rfl ?_|refine Bb rfl ?_|refine ⟨(dxX (by kernel_rfl)),?_⟩|exact (dxX (by kernel_rfl))|simp -dsimp (maxSteps:=20000000) (disch:=omega) only [simx,zzC,zzB,tys,ite_self,A8,A2,Ax,Aq,Ao,At,Az,Ac,A5,PV.sk,Ai,Ar,As,Ap,Ay,Ab,Aj,Am,A9,Value.oneCell',Ah,Ba,Aw,A4,A1,Al,An,Ae,Ak,isZ,A6,A3,Ad,Aa,Ag,A0,Af,↓reduceIte,reduceSub,reduceEqDiff,reduceAdd,reduceMul,reduceLT,reduceLeDiff,reduceToNat,reduceLE,Int.reduceLT,reduceNeg,reduceCtorEq,gos,Int.reduceAdd,Int.reduceSub,Int.reduceMul,reduceEq,rp])
      have sm:(j + 1) * R=j * R + R:=Nat.succ_mul j R
      have hd:¬ R=0:=by omega
      refine ⟨cj,(Bv (by simp only [Heap.none_at]) (by (simp -dsimp only [zzB,tys,ite_self,A8,A2,Ax,Aq,Ao,At,Az,Ac,A5,PV.sk,Ai,Ar,As,Ap,Ay,Ab,Aj,Am,A9,Value.oneCell',Ah,Ba,Aw,A4,A1,Al,An,Ae,Ak,isZ,A6,A3,Ad,Aa,Ag,A0,Af,↓reduceIte,reduceSub,reduceEqDiff,reduceAdd,reduceMul,reduceLT,reduceLeDiff,reduceToNat,reduceLE,Int.reduceLT,reduceNeg,reduceCtorEq,Bm,Bo]) <;> simp [Bs,Bn,Be]) (by repeat (first|exact Bx _|refine Bp ?_|refine B4 ?_|refine Bt ?_|refine Bu ?_ (by simp [Bs,Bn,Be]))) (Bv (by simp only [Heap.none_at]) (by (simp -dsimp only [zzB,tys,ite_self,A8,A2,Ax,Aq,Ao,At,Az,Ac,A5,PV.sk,Ai,Ar,As,Ap,Ay,Ab,Aj,Am,A9,Value.oneCell',Ah,Ba,Aw,A4,A1,Al,An,Ae,Ak,isZ,A6,A3,Ad,Aa,Ag,A0,Af,↓reduceIte,reduceSub,reduceEqDiff,reduceAdd,reduceMul,reduceLT,reduceLeDiff,reduceToNat,reduceLE,Int.reduceLT,reduceNeg,reduceCtorEq,Bm,Bo]) <;> simp [Bs,Bn,Be]) (by repeat (first|exact Bx _|refine Bp ?_|refine B4 ?_|refine Bt ?_|refine Bu ?_ (by simp [Bs,Bn,Be]))) (Bl))),rfl,?_⟩
      rw [sm,nx,List.map_append,rp]
      funext c
      simp (maxSteps:=20000000) only [Heap.drop_at,Bh,Heap.put_at,Heap.none_at,List.mem_cons,List.not_mem_nil,or_false]
      by_cases e0:c=(0,0)::base
      · subst e0; simp [hd]
      by_cases e1:c=(0,1)::base
      · subst e1; simp [hd]
      by_cases e2:c=(3,6)::base
      · subst e2; simp [hd]
      by_cases e3:c=(8,5)::base
      · subst e3; simp [hd]
      by_cases e4:c=(12,2)::base
      · subst e4; simp [hd]
      by_cases e5:c=(12,5)::base
      · subst e5; simp [hd]
      by_cases e6:c=(15,3)::base
      · subst e6; simp [hd]
      simp [e0,e1,e2,e3,e4,e5,e6,hd]
    · have ej:R=j:=by omega
      subst ej
      have il:=inl R
      have hne:¬ R * R=0:=Nat.ne_of_gt (Nat.mul_pos (by omega) (by omega))
      have rp:rowP ((15,3)::base) 1 (R * R) ((IJ R).map iu)=.view ((15,3)::base) 0 1 (R * R) (R * R):=by unfold rowP; rw [if_neg hne,List.length_map,il]
      have it:((IJ R).map iu).take (R * R)=(IJ R).map iu:=List.take_of_length_le (by simp [il])
      rw [rp]
      rw [C3,lu,il] at q3
      repeat (first|((first|refine Bd rfl (by simp only [tys]) ?_|refine Bc rfl (by simp only [tys]) ?_); apply Exists.intro; apply And.intro; (focus (simp -dsimp only [simx,zzC,zzB,tys,ite_self,A8,A2,Ax,Aq,Ao,At,Az,Ac,A5,PV.sk,Ai,Ar,As,Ap,Ay,Ab,Aj,Am,A9,Value.oneCell',Ah,Ba,Aw,A4,A1,Al,An,Ae,Ak,isZ,A6,A3,Ad,Aa,Ag,A0,Af,↓reduceIte,reduceSub,reduceEqDiff,reduceAdd,reduceMul,reduceLT,reduceLeDiff,reduceToNat,reduceLE,Int.reduceLT,reduceNeg,reduceCtorEq,zzL,if_true,if_false,List.length_map,il,it,hne] <;> rfl)); apply Exists.intro; apply And.intro; (focus (first|exact q3)))|refine Bg rfl ?_|refine Bb rfl ?_|refine ⟨(dxX (by kernel_rfl)),?_⟩|exact (dxX (by kernel_rfl))|simp -dsimp (maxSteps:=20000000) (disch:=omega) only [simx,zzC,zzB,tys,ite_self,A8,A2,Ax,Aq,Ao,At,Az,Ac,A5,PV.sk,Ai,Ar,As,Ap,Ay,Ab,Aj,Am,A9,Value.oneCell',Ah,Ba,Aw,A4,A1,Al,An,Ae,Ak,isZ,A6,A3,Ad,Aa,Ag,A0,Af,↓reduceIte,reduceSub,reduceEqDiff,reduceAdd,reduceMul,reduceLT,reduceLeDiff,reduceToNat,reduceLE,Int.reduceLT,reduceNeg,reduceCtorEq,zzR,gos,Int.reduceAdd,Int.reduceSub,Int.reduceMul,reduceEq,hne,List.length_map,il,it])
      skip
end Go.Proofs.Ythnfphgjfpcpbaa.TM
namespace Go.Proofs.Ythnfphgjfpcpbaa.TM
open Go Go.RowKit
def Fd:Nat → (Nat → Bool) → Nat
  | 0,_ => 0
  | n + 1,f => Fd n f + (if f n=true then 1 else 0)
theorem Sf {n:Nat} {f g:Nat → Bool} (h:∀ i,i < n → f i=g i):Fd n f=Fd n g:=by
  induction n with
  | zero => rfl
  | succ n ih => rw [Fd,Fd,ih fun i hi => h i (by omega),h n (by omega)]
theorem Aa8 {n:Nat} {f:Nat → Bool} (h:∀ i,i < n → f i=true):Fd n f=n:=by
  induction n with
  | zero => rfl
  | succ n ih => rw [Fd,ih fun i hi => h i (by omega),if_pos (h n (by omega))]
theorem Bc0 (m n:Nat) (f:Nat → Bool):Fd (m + n) f=Fd m f + Fd n (fun i => f (m + i)):=by
  induction n with
  | zero => rfl
  | succ n ih => rw [← Nat.add_assoc,Fd,ih,Fd]; omega
theorem Tu (N:Nat) (f:Nat → Bool):∀ a,Fd (a * N) (fun q => f (q % N))=a * Fd N f
  | 0 => by simp [Fd]
  | a + 1 => by
    rw [Nat.succ_mul,Bc0,Tu N f a,Nat.succ_mul]
    congr 1
    exact Sf fun i hi => by rw [Nat.mul_add_mod_self_right,Nat.mod_eq_of_lt hi]
theorem Au7 {m a:Nat} {f:Nat → Bool} (ha:a < m) (hf:f a=true):Fd m f=Fd m (fun j => f j && j != a) + 1:=by
  induction m with
  | zero => omega
  | succ m ih =>
    rw [Fd,Fd]
    by_cases e:a=m
    · subst e
      rw [if_pos hf,if_neg (by simp)]
      have:Fd a f=Fd a (fun j => f j && j != a):=Sf fun i hi => by
        have:(i != a)=true:=by simp; omega
        rw [this,Bool.and_true]
      omega
    · rw [ih (by omega)]
      have:(m != a)=true:=by simp; omega
      rw [this,Bool.and_true]; omega
theorem Mh:∀ (n:Nat) (f:Nat → Bool) (m:Nat) (g:Nat → Bool) (φ:Nat → Nat),(∀ i,i < n → f i=true → φ i < m ∧ g (φ i)=true) →
    (∀ i j,i < n → j < n → f i=true → f j=true → φ i=φ j → i=j) → Fd n f ≤ Fd m g
  | 0,_,_,_,_,_,_ => Nat.zero_le _
  | n + 1,f,m,g,φ,h1,h2 => by
    rw [Fd]
    by_cases c:f n=true
    · rw [if_pos c]
      obtain ⟨a1,a2⟩:=h1 n (by omega) c
      rw [Au7 a1 a2]
      refine Nat.succ_le_succ (Mh n f m _ φ (fun i hi hf => ?_) (fun i j hi hj => h2 i j (by omega) (by omega)))
      obtain ⟨b1,b2⟩:=h1 i (by omega) hf
      refine ⟨b1,?_⟩
      have:(φ i != φ n)=true:=by
        simp only [bne_iff_ne]
        intro e
        have:=h2 i n (by omega) (by omega) hf c e
        omega
      rw [b2,this]; rfl
    · rw [if_neg c]
      exact Mh n f m g φ (fun i hi => h1 i (by omega)) (fun i j hi hj => h2 i j (by omega) (by omega))
theorem Au6 {n:Nat} {f g:Nat → Bool} (h:∀ i,i < n → f i=true → g i=true):Fd n f ≤ Fd n g :=
  Mh n f n g id (fun i hi hf => ⟨hi,h i hi hf⟩) (fun _ _ _ _ _ _ e => e)
def vec (P n k:Nat):Int:=((n / P ^ k % P:Nat):Int)
def num (P:Nat):Nat → (Nat → Int) → Nat
  | 0,_ => 0
  | c + 1,x => (x 0 % P).toNat + P * num P c (fun k => x (k + 1))
theorem Tg {P:Nat} (h:0 < P):∀ (c:Nat) (x:Nat → Int),num P c x < P ^ c
  | 0,_ => by simp [num]
  | c + 1,x => by
    have ih:=Tg h c (fun k => x (k + 1))
    have h1:=Int.emod_nonneg (x 0) (show (P:Int) ≠ 0 by omega)
    have h2:=Int.emod_lt_of_pos (x 0) (show (0:Int) < P by omega)
    rw [num,Nat.pow_succ]
    have h3:P * num P c (fun k => x (k + 1)) + P ≤ P * P ^ c:=by rw [← Nat.mul_succ]; exact Nat.mul_le_mul_left P ih
    rw [Nat.mul_comm (P ^ c)]
    omega
theorem Rz {P:Nat}:∀ (c:Nat) {x y:Nat → Int},(∀ k,k < c → x k % P=y k % P) → num P c x=num P c y
  | 0,_,_,_ => rfl
  | c + 1,x,y,h => by rw [num,num,h 0 (by omega),Rz c fun k hk => h (k + 1) (by omega)]
theorem Lu {P:Nat} (h:0 < P):∀ (c:Nat) (x:Nat → Int) (k:Nat),k < c → vec P (num P c x) k=x k % P
  | 0,_,_,hk => by omega
  | c + 1,x,k,hk => by
    have h1:=Int.emod_nonneg (x 0) (show (P:Int) ≠ 0 by omega)
    have h2:=Int.emod_lt_of_pos (x 0) (show (0:Int) < P by omega)
    have h3:(x 0 % P).toNat < P:=by omega
    rw [num]
    cases k with
    | zero =>
      unfold vec
      rw [Nat.pow_zero,Nat.div_one,Nat.add_mul_mod_self_left,Nat.mod_eq_of_lt h3]; omega
    | succ k =>
      have ih:=Lu h c (fun k => x (k + 1)) k (by omega)
      rw [← ih]
      unfold vec
      rw [Nat.pow_succ,Nat.mul_comm (P ^ k) P,← Nat.div_div_eq_div_mul,Nat.add_mul_div_left _ _ h,Nat.div_eq_of_lt h3,Nat.zero_add]
theorem Tf {P:Nat} (h:0 < P):∀ (c n:Nat),n < P ^ c → num P c (vec P n)=n
  | 0,n,hn => by simp at hn; subst hn; rfl
  | c + 1,n,hn => by
    rw [num]
    have e:(fun k => vec P n (k + 1))=vec P (n / P):=by
      funext k; unfold vec; rw [Nat.pow_succ,Nat.mul_comm,← Nat.div_div_eq_div_mul]
    have h0:(vec P n 0 % P).toNat=n % P:=by
      unfold vec; rw [Nat.pow_zero,Nat.div_one]; 
      have:=Nat.mod_lt n h
      rw [Int.emod_eq_of_lt (by omega) (by omega)]; omega
    rw [e,h0,Tf h c (n / P) (by rw [Nat.pow_succ,Nat.mul_comm] at hn; exact (Nat.div_lt_iff_lt_mul h).2 (by rw [Nat.mul_comm]; exact hn)),Nat.mod_add_div]
theorem So {P c m n:Nat} (h:0 < P) (hm:m < P ^ c) (hn:n < P ^ c) (he:∀ k,k < c → vec P m k % P=vec P n k % P):m=n:=by
  rw [← Tf h c m hm,← Tf h c n hn,Rz c he]
theorem Zz {P c:Nat} {x y:Nat → Int} (h:0 < P) (he:num P c x=num P c y):∀ k,k < c → x k % P=y k % P:=fun k hk => by
  rw [← Lu h c x k hk,← Lu h c y k hk,he]
section
variable {P R C r:Nat} {A:Mx} {rw cw:Nat → Nat} {c u:Mx}
theorem Kg {a b N:Nat} (hb:b < N):(a * N + b) / N=a ∧ (a * N + b) % N=b:=by
  have hN:0 < N:=by omega
  refine ⟨?_,?_⟩
  · rw [Nat.add_comm,Nat.add_mul_div_right _ _ hN,Nat.div_eq_of_lt hb,Nat.zero_add]
  · rw [Nat.add_comm,Nat.add_mul_mod_self_right,Nat.mod_eq_of_lt hb]
theorem Cp.kcnt (hP:Prm P) (H:Cp P R C r A rw cw c u) {f:Nat → Bool} (hf:∀ n,n < P ^ C → (f n=true ↔ ∀ i,i < R → apX C A (vec P n) i % P=0)):P ^ r * Fd (P ^ C) f=P ^ C:=by
  have p0:0 < P:=by have:=hP.1; omega
  have N0:0 < P ^ C:=Nat.pow_pos p0
  have hs:∀ z:Nat → Int,∃ x:Nat → Int,∀ k,k < r → apX C u x k % P=z k % P:=fun z => by
    obtain ⟨x,_,h⟩:=H.usolve hP z (fun _ => 0); exact ⟨x,h⟩
  let s:Nat → Nat → Int:=fun y => Classical.choose (hs (vec P y))
  have ss:∀ y k,k < r → apX C u (s y) k % P=vec P y k % P:=fun y => Classical.choose_spec (hs (vec P y))
  have hk:∀ n,n < P ^ C → (f n=true ↔ ∀ k,k < r → apX C u (vec P n) k % P=0):=fun n hn => (hf n hn).trans H.ker
  refine Nat.le_antisymm ?_ ?_
  · rw [← Tu]
    refine Nat.le_trans ?_ (Nat.le_of_eq (Aa8 (n:=P ^ C) (f:=fun _ => true) fun _ _ => rfl))
    refine Mh _ _ _ _ (fun q => num P C (fun j => vec P (q % P ^ C) j + s (q / P ^ C) j)) (fun q _ _ => ⟨Tg p0 _ _,rfl⟩) (fun q q' hq hq' fq fq' he => ?_)
    have e1:=Zz p0 he
    have hy:q / P ^ C < P ^ r:=(Nat.div_lt_iff_lt_mul N0).2 hq
    have hy':q' / P ^ C < P ^ r:=(Nat.div_lt_iff_lt_mul N0).2 hq'
    have k1:=(hk _ (Nat.mod_lt q N0)).1 fq
    have k2:=(hk _ (Nat.mod_lt q' N0)).1 fq'
    have ey:q / P ^ C=q' / P ^ C:=by
      refine So p0 hy hy' fun k hk => ?_
      have e2:=T6 (A:=u) e1 k
      rw [T7,T7,Int.add_emod,k1 k hk,ss _ k hk,Int.add_emod (apX C u (vec P (q' % P ^ C)) k),k2 k hk,ss _ k hk] at e2
      simpa using e2
    have en:q % P ^ C=q' % P ^ C:=by
      refine So p0 (Nat.mod_lt _ N0) (Nat.mod_lt _ N0) fun k hk => ?_
      have e3:=e1 k hk
      simp only [ey] at e3
      have:=Jj e3 (rfl:s (q' / P ^ C) k % P=s (q' / P ^ C) k % P)
      simpa using this
    rw [← Nat.div_add_mod q (P ^ C),← Nat.div_add_mod q' (P ^ C),ey,en]
  · rw [← Tu]
    have:P ^ C=Fd (P ^ C) (fun _ => true):=(Aa8 fun _ _ => rfl).symm
    refine Nat.le_trans (Nat.le_of_eq this) ?_
    have ny:∀ n,num P r (apX C u (vec P n)) < P ^ r:=fun n => Tg p0 _ _
    have nx:∀ x,num P C x < P ^ C:=fun x => Tg p0 _ _
    refine Mh _ _ _ _ (fun n => num P r (apX C u (vec P n)) * P ^ C + num P C (fun j => vec P n j - s (num P r (apX C u (vec P n))) j)) (fun n hn _ => ⟨?_,?_⟩) (fun n n' hn hn' _ _ he => ?_)
    · have h1:=ny n
      have h2:=nx (fun j => vec P n j - s (num P r (apX C u (vec P n))) j)
      have h3:num P r (apX C u (vec P n)) * P ^ C + P ^ C ≤ P ^ r * P ^ C:=by rw [← Nat.succ_mul]; exact Nat.mul_le_mul_right _ h1
      omega
    · rw [(Kg (nx _)).2,hk _ (nx _)]
      intro k hk
      have e1:∀ j,j < C → vec P (num P C (fun j => vec P n j - s (num P r (apX C u (vec P n))) j)) j % P=(vec P n j - s (num P r (apX C u (vec P n))) j) % P:=fun j hj => by
        rw [Lu p0 _ _ _ hj,Int.emod_emod_of_dvd _ (Int.dvd_refl _)]
      rw [T6 e1,Aa9,Int.sub_emod,ss _ k hk,Lu p0 _ _ _ hk,Int.emod_emod_of_dvd _ (Int.dvd_refl _),Int.sub_self]; rfl
    · have ey:num P r (apX C u (vec P n))=num P r (apX C u (vec P n')):=by rw [← (Kg (a:=num P r (apX C u (vec P n))) (nx _)).1,he,(Kg (nx _)).1]
      have en:=(Kg (a:=num P r (apX C u (vec P n))) (nx (fun j => vec P n j - s (num P r (apX C u (vec P n))) j))).2
      rw [he,(Kg (nx _)).2,ey] at en
      refine So p0 hn hn' fun k hk => ?_
      have e3:=Zz p0 en.symm k hk
      have:=Jk e3 (rfl:s (num P r (apX C u (vec P n'))) k % P=s (num P r (apX C u (vec P n'))) k % P)
      simpa using this
end
end Go.Proofs.Ythnfphgjfpcpbaa.TM
namespace Go.Proofs.Ythnfphgjfpcpbaa.TM
open Go Go.RowKit
def updr (A:Mx) (k:Nat) (u:Nat → Int):Mx:=fun i j => if i=k then u j else A i j
theorem Mp (A:Mx) (k:Nat) (u:Nat → Int):updr A k u k=u:=by funext j; exact if_pos rfl
theorem Zk {A:Mx} {k i:Nat} (h:i ≠ k) (u:Nat → Int):updr A k u i=A i:=by funext j; exact if_neg h
theorem Od (A:Mx) (k:Nat):updr A k (A k)=A:=by funext i j; unfold updr; split <;> simp_all
theorem Gv {A:Mx} {k m:Nat} (h:k ≠ m) (u v:Nat → Int):updr (updr A k u) m v=updr (updr A m v) k u:=by
  funext i j
  unfold updr
  by_cases a:i=m
  · by_cases b:i=k
    · omega
    · simp [a,b]; omega
  · simp [a]
structure Alt (p:Int) (n:Nat) (F:Mx → Int):Prop where
  cg:∀ A B:Mx,(∀ i j,i < n → j < n → A i j % p=B i j % p) → F A % p=F B % p
  lin:∀ (A:Mx) (i:Nat) (u v:Nat → Int) (c:Int),i < n → F (updr A i (fun j => u j + c * v j))=F (updr A i u) + c * F (updr A i v)
  adj:∀ (A:Mx) (i:Nat),i + 1 < n → A i=A (i + 1) → F A=0
def swp (A:Mx) (i j:Nat):Mx:=fun a => A (if a=i then j else if a=j then i else a)
theorem An3 {A:Mx} {i j:Nat} (h:i ≠ j):swp A i j=updr (updr A i (A j)) j (A i):=by
  funext a b
  unfold swp updr
  by_cases e:a=j
  · subst e; rw [if_neg (fun e => h e.symm),if_pos rfl,if_pos rfl]
  · rw [if_neg e]
    by_cases d:a=i
    · rw [if_pos d,if_pos d,if_neg e]
    · rw [if_neg d,if_neg d,if_neg e]
theorem Alt.add {p:Int} {n:Nat} {F:Mx → Int} (H:Alt p n F) (A:Mx) {i:Nat} (u v:Nat → Int) (hi:i < n):F (updr A i (fun j => u j + v j))=F (updr A i u) + F (updr A i v):=by
  have:=H.lin A i u v 1 hi
  simpa using this
theorem Alt.swap0 {p:Int} {n:Nat} {F:Mx → Int} (H:Alt p n F) {i j:Nat} (hi:i < n) (hj:j < n) (hne:i ≠ j) (h0:∀ A:Mx,A i=A j → F A=0) (A:Mx):F (swp A i j)=- F A:=by
  have key:∀ u v:Nat → Int,F (updr (updr A i u) j v)=- F (updr (updr A i v) j u):=by
    intro u v
    have z:∀ w:Nat → Int,F (updr (updr A i w) j w)=0:=fun w => h0 _ (by rw [Mp,Zk hne,Mp])
    have e:=z (fun k => u k + v k)
    rw [H.add _ u v hj,Gv hne,Gv hne,H.add _ u v hi,H.add _ u v hi,← Gv hne,← Gv hne,← Gv hne,← Gv hne,z,z] at e
    omega
  rw [An3 hne,key]
  rw [Od,Od]
theorem Alt.alike {p:Int} {n:Nat} {F:Mx → Int} (H:Alt p n F):∀ (d i:Nat) (A:Mx),i + d + 1 < n → A i=A (i + d + 1) → F A=0
  | 0,i,A,h,he => H.adj A i h he
  | d + 1,i,A,h,he => by
    have sw:=H.swap0 (i:=i + d + 1) (j:=i + d + 2) (by omega) (by omega) (by omega) (fun B hB => H.adj B (i + d + 1) (by omega) hB) A
    have z:F (swp A (i + d + 1) (i + d + 2))=0:=by
      refine Alt.alike H d i _ (by omega) ?_
      show A (if i=i + d + 1 then _ else if i=i + d + 2 then _ else i)=A (if i + d + 1=i + d + 1 then _ else _)
      rw [if_neg (by omega),if_neg (by omega),if_pos rfl,he]
      rfl
    omega
theorem Alt.alt {p:Int} {n:Nat} {F:Mx → Int} (H:Alt p n F) {i j:Nat} (hi:i < n) (hj:j < n) (hne:i ≠ j) (A:Mx) (he:A i=A j):F A=0:=by
  rcases Nat.lt_or_ge i j with h|h
  · exact H.alike (j - i - 1) i A (by omega) (by rw [he]; congr 1; omega)
  · exact H.alike (i - j - 1) j A (by omega) (by rw [← he]; congr 1; omega)
theorem Alt.swap {p:Int} {n:Nat} {F:Mx → Int} (H:Alt p n F) {i j:Nat} (hi:i < n) (hj:j < n) (hne:i ≠ j) (A:Mx):F (swp A i j)=- F A :=
  H.swap0 hi hj hne (fun B hB => H.alt hi hj hne B hB) A
theorem Alt.scale {p:Int} {n:Nat} {F:Mx → Int} (H:Alt p n F) (A:Mx) {i:Nat} (v:Nat → Int) (c:Int) (hi:i < n):F (updr A i (fun j => c * v j))=c * F (updr A i v):=by
  have h1:=H.lin A i (fun _ => 0) v c hi
  have h2:=H.lin A i (fun _ => 0) (fun _ => 0) 1 hi
  simp at h1 h2
  omega
theorem Alt.zero {p:Int} {n:Nat} {F:Mx → Int} (H:Alt p n F) (A:Mx) {i:Nat} (hi:i < n) (h0:∀ j,A i j=0):F A=0:=by
  have h:=H.scale A (A i) 0 hi
  rw [Int.zero_mul] at h
  rw [← Od A i,← h]
  congr 2
  funext j
  rw [h0,Int.mul_zero]
theorem Alt.comb {p:Int} {n:Nat} {F:Mx → Int} (H:Alt p n F) (A:Mx) {i:Nat} (hi:i < n) (s:Nat → Nat) (c:Nat → Int) (u:Nat → Int) :
    ∀ m,(∀ k,k < m → c k=0 ∨ (s k < n ∧ s k ≠ i)) → F (updr A i (fun j => u j + B8 m (fun k => c k * A (s k) j)))=F (updr A i u)
  | 0,_ => by simp [B8]
  | m + 1,h => by
    have ih:=Alt.comb H A hi s c u m fun k hk => h k (by omega)
    have e:(fun j => u j + B8 (m + 1) (fun k => c k * A (s k) j))=fun j => (u j + B8 m (fun k => c k * A (s k) j)) + c m * A (s m) j:=by
      funext j; rw [B8]; omega
    rw [e,H.lin A i _ _ _ hi,ih]
    rcases h m (by omega) with h1|⟨h1,h2⟩
    · rw [h1,Int.zero_mul,Int.add_zero]
    · rw [H.alt hi h1 (Ne.symm h2) (updr A i (A (s m))) (by rw [Mp,Zk h2]),Int.mul_zero,Int.add_zero]
theorem Ss (A:Mx) (k:Nat) (u:Nat → Int):tr (updr A k u)=updc (tr A) k u:=rfl
theorem Ud (p:Int) (n:Nat):Alt p n (Lp n) where
  cg A B h:=Qj n h
  lin A i u v c hi:=by
    rw [Iy,Iy n (updr A i u),Iy n (updr A i v),Ss,Ss,Ss,Ax0 n _ _ _ _ _ hi]
  adj A i hi h:=by
    rw [Iy]
    exact Ax1 n _ i hi fun j => congrFun h j
def Im (m:Nat) (A B:Mx):Mx:=fun i j => B8 m (fun k => A i k * B k j)
theorem Y6 (p:Int) (n:Nat) (B:Mx):Alt p n (fun A => Lp n (Im n A B)) where
  cg A A' h:=Qj n fun i j hi hj => Dn fun k hk => by rw [Int.mul_emod,h i k hi hk,← Int.mul_emod]
  lin A i u v c hi:=by
    have e:∀ w:Nat → Int,Im n (updr A i w) B=updr (Im n A B) i (fun j => B8 n (fun k => w k * B k j)):=fun w => by
      funext a j
      unfold Im updr
      by_cases h:a=i
      · simp [h]
      · simp [h]
    simp only [e]
    rw [← (Ud p n).lin _ i _ _ c hi]
    congr 2
    funext j
    rw [← G8,← Fg]
    refine By fun k _ => ?_
    grind
  adj A i hi h:=(Ud p n).adj _ i hi (by funext j; unfold Im; rw [h])
end Go.Proofs.Ythnfphgjfpcpbaa.TM
namespace Go.Proofs.Ythnfphgjfpcpbaa.TM
open Go Go.RowKit
def eps (x y:Int):Int:=if x < y then 1 else -1
theorem At6 {x y:Int} (h:x ≠ y):eps y x=- eps x y:=by
  unfold eps
  by_cases c:x < y
  · rw [if_pos c,if_neg (by omega)]
  · rw [if_neg c,if_pos (by omega)]; rfl
def Gm (f:Nat → Int) (y:Int):Nat → Int
  | 0 => 1
  | k + 1 => Gm f y k * eps (f k) y
def Fh (f:Nat → Int):Nat → Int
  | 0 => 1
  | j + 1 => Fh f j * Gm f (f j) j
def sw (a b:Nat) (f:Nat → Int):Nat → Int:=fun i => if i=a then f b else if i=b then f a else f i
theorem sw_a (a b:Nat) (f:Nat → Int):sw a b f a=f b:=if_pos rfl
theorem sw_b (a b:Nat) (f:Nat → Int):sw a b f b=f a:=by
  unfold sw
  by_cases h:b=a
  · subst h; rw [if_pos rfl]
  · rw [if_neg h,if_pos rfl]
theorem Ac5 {a b i:Nat} (f:Nat → Int) (h1:i ≠ a) (h2:i ≠ b):sw a b f i=f i:=by unfold sw; rw [if_neg h1,if_neg h2]
theorem Jl {f g:Nat → Int} {y:Int}:∀ {k:Nat},(∀ i,i < k → f i=g i) → Gm f y k=Gm g y k
  | 0,_ => rfl
  | k + 1,h => by rw [Gm,Gm,Jl (fun i hi => h i (by omega)),h k (by omega)]
theorem K9 {f g:Nat → Int}:∀ {n:Nat},(∀ i,i < n → f i=g i) → Fh f n=Fh g n
  | 0,_ => rfl
  | n + 1,h => by rw [Fh,Fh,K9 (fun i hi => h i (by omega)),h n (by omega),Jl (fun i hi => h i (by omega))]
theorem Wf (f:Nat → Int) (y:Int) (a:Nat):∀ d,Gm (sw a (a + 1) f) y (a + 2 + d)=Gm f y (a + 2 + d)
  | 0 => by
    rw [Nat.add_zero,show a + 2=(a + 1) + 1 from rfl,Gm,Gm,Gm,Gm,sw_a,sw_b,Jl (g:=f) (fun i hi => Ac5 f (by omega) (by omega)),Int.mul_assoc,Int.mul_assoc,Int.mul_comm (eps (f (a + 1)) y)]
  | d + 1 => by
    rw [show a + 2 + (d + 1)=(a + 2 + d) + 1 from rfl,Gm,Gm,Wf f y a d,Ac5 f (by omega) (by omega)]
theorem O4 (f:Nat → Int) (a:Nat) (h:f a ≠ f (a + 1)):∀ d,Fh (sw a (a + 1) f) (a + 2 + d)=- Fh f (a + 2 + d)
  | 0 => by
    have e:∀ y,Gm (sw a (a + 1) f) y a=Gm f y a:=fun y => Jl (fun i hi => Ac5 f (by omega) (by omega))
    rw [Nat.add_zero,show a + 2=(a + 1) + 1 from rfl,Fh,Fh,Fh,Fh,Gm,Gm,sw_a,sw_b,e,e,K9 (g:=f) (fun i hi => Ac5 f (by omega) (by omega)),At6 h]
    generalize Fh f a=s
    generalize Gm f (f a) a=x
    generalize Gm f (f (a + 1)) a=y
    generalize eps (f a) (f (a + 1))=z
    rw [Int.mul_neg,Int.mul_neg]
    congr 1
    rw [Int.mul_assoc,Int.mul_assoc,← Int.mul_assoc y x,← Int.mul_assoc x y,Int.mul_comm y x]
  | d + 1 => by
    rw [show a + 2 + (d + 1)=(a + 2 + d) + 1 from rfl,Fh,Fh,O4 f a h d,Ac5 f (by omega) (by omega),Wf,Int.neg_mul]
def InjN (f:Nat → Int) (n:Nat):Prop:=∀ i j,i < n → j < n → f i=f j → i=j
theorem InjN.sw {f:Nat → Int} {n a b:Nat} (h:InjN f n) (ha:a < n) (hb:b < n):InjN (sw a b f) n:=by
  have key:∀ i,i < n → ∃ i',i' < n ∧ TM.sw a b f i=f i' ∧ (i'=if i=a then b else if i=b then a else i):=fun i hi => by
    unfold TM.sw
    by_cases h1:i=a
    · exact ⟨b,hb,by rw [if_pos h1],by rw [if_pos h1]⟩
    · by_cases h2:i=b
      · exact ⟨a,ha,by rw [if_neg h1,if_pos h2],by rw [if_neg h1,if_pos h2]⟩
      · exact ⟨i,hi,by rw [if_neg h1,if_neg h2],by rw [if_neg h1,if_neg h2]⟩
  intro i j hi hj he
  obtain ⟨i',hi',e1,e2⟩:=key i hi
  obtain ⟨j',hj',e3,e4⟩:=key j hj
  have:=h i' j' hi' hj' (by rw [← e1,← e3]; exact he)
  rw [e2,e4] at this
  split at this <;> split at this <;> (try split at this) <;> (try split at this) <;> omega
theorem S3:∀ (d a n:Nat) (f:Nat → Int),InjN f n → a + 1 + d < n → Fh (sw a (a + 1 + d) f) n=- Fh f n
  | 0,a,n,f,hi,hn => by
    obtain ⟨e,rfl⟩:∃ e,n=a + 2 + e:=⟨n - (a + 2),by omega⟩
    exact O4 f a (fun he => by have:=hi a (a + 1) (by omega) (by omega) he; omega) e
  | d + 1,a,n,f,hi,hn => by
    obtain ⟨e,he⟩:∃ e,n=(a + 1 + d) + 2 + e:=⟨n - (a + 1 + d + 2),by omega⟩
    have h1:sw a (a + 1 + (d + 1)) f=sw (a + 1 + d) (a + 1 + d + 1) (sw a (a + 1 + d) (sw (a + 1 + d) (a + 1 + d + 1) f)):=by
      rw [show a + 1 + (d + 1)=a + 1 + d + 1 from rfl]
      funext i
      unfold sw
      have n1:¬ a=a + 1 + d:=by omega
      have n2:¬ a=a + 1 + d + 1:=by omega
      have n3:¬ a + 1 + d + 1=a:=by omega
      have n4:¬ a + 1 + d=a:=by omega
      have n5:¬ a + 1 + d + 1=a + 1 + d:=by omega
      have n6:¬ a + 1 + d=a + 1 + d + 1:=by omega
      by_cases c1:i=a
      · subst c1; simp only [if_true,n1,n2,n3,n4,n5,n6,if_false]
      · by_cases c2:i=a + 1 + d
        · subst c2; simp only [if_true,n1,n2,n3,n4,n5,n6,if_false]
        · by_cases c3:i=a + 1 + d + 1
          · subst c3; simp only [if_true,n1,n2,n3,n4,n5,n6,if_false]
          · simp only [c1,c2,c3,if_false]
    have i1:=hi.sw (a:=a + 1 + d) (b:=a + 1 + d + 1) (by omega) (by omega)
    have i2:=i1.sw (a:=a) (b:=a + 1 + d) (by omega) (by omega)
    have adj:∀ g:Nat → Int,InjN g n → Fh (sw (a + 1 + d) (a + 1 + d + 1) g) n=- Fh g n:=fun g hg => by
      rw [he]
      exact O4 g (a + 1 + d) (fun h => by have:=hg (a + 1 + d) (a + 1 + d + 1) (by omega) (by omega) h; omega) e
    rw [h1,adj _ i2,S3 d a n _ i1 (by omega),adj _ hi]
    omega
end Go.Proofs.Ythnfphgjfpcpbaa.TM
namespace Go.Proofs.Ythnfphgjfpcpbaa.TM
open Go Go.RowKit
attribute [local irreducible] K W Dg Effs Xg Xo Xr Xdg Xdo Xdr Xif CallsP CallR
theorem Vi {n:Nat}:∀ {l:List Int},l.Nodup → (∀ a ∈ l,0 ≤ a ∧ a < n) → l.length ≤ n:=by
  induction n with
  | zero =>
    intro l _ h
    cases l with
    | nil => simp
    | cons a l => have:=h a (by simp); omega
  | succ n ih =>
    intro l hn h
    by_cases hm:(n:Int) ∈ l
    · have h1:=List.length_erase_of_mem hm
      have h2:=ih (l:=l.erase (n:Int)) (hn.erase _) (fun a ha => by
        have h3:=h a (List.mem_of_mem_erase ha)
        have h4:a ≠ (n:Int):=fun e => by
          subst e
          exact (List.Nodup.not_mem_erase hn) ha
        omega)
      omega
    · have:=ih hn (fun a ha => by
        have h3:=h a ha
        have:a ≠ (n:Int):=fun e => hm (e ▸ ha)
        omega)
      omega
end Go.Proofs.Ythnfphgjfpcpbaa.TM
namespace Go.Proofs.Ythnfphgjfpcpbaa.TM
open Go Go.RowKit
def InN (q:Nat → Int) (n:Nat):Prop:=∀ i,i < n → 0 ≤ q i ∧ q i < n
theorem Rh {q:Nat → Int}:∀ {n:Nat},InjN q n → (tbl n q).Nodup
  | 0,_ => List.nodup_nil
  | n + 1,h => by
    rw [Fx,List.nodup_append]
    refine ⟨Rh fun i j hi hj => h i j (by omega) (by omega),by simp,fun x hx y hy he => ?_⟩
    obtain ⟨i,hi,e⟩:=Dh hx
    have hy':y=q n:=by simpa using hy
    have:=h i n (by omega) (by omega) (by rw [e,he,hy'])
    omega
theorem surjN {q:Nat → Int} {n:Nat} (h:InjN q n) (hr:InN q n) (m:Nat) (hm:m < n):∃ i,i < n ∧ q i=m:=by
  by_cases c:(m:Int) ∈ tbl n q
  · exact Dh c
  · have h1:((m:Int)::tbl n q).Nodup:=List.nodup_cons.2 ⟨c,Rh h⟩
    have h2:=Vi h1 (n:=n) (fun a ha => by
      rcases List.mem_cons.1 ha with rfl|ha
      · omega
      · obtain ⟨i,hi,rfl⟩:=Dh ha; exact hr i hi)
    rw [List.length_cons,Ca] at h2
    omega
theorem Aa7 (y:Int):∀ k:Nat,(k:Int) ≤ y → Gm (fun i => (i:Int)) y k=1
  | 0,_ => rfl
  | k + 1,h => by rw [Gm,Aa7 y k (by omega),eps,if_pos (by omega)]; rfl
theorem Zp:∀ n,Fh (fun i => (i:Int)) n=1
  | 0 => rfl
  | n + 1 => by rw [Fh,Zp n,Aa7 _ _ (by omega)]; rfl
theorem sw_in {q:Nat → Int} {n a b:Nat} (h:InN q n) (ha:a < n) (hb:b < n):InN (sw a b q) n:=fun i hi => by
  unfold sw
  by_cases c1:i=a
  · rw [if_pos c1]; exact h b hb
  · by_cases c2:i=b
    · rw [if_neg c1,if_pos c2]; exact h a ha
    · rw [if_neg c1,if_neg c2]; exact h i hi
end Go.Proofs.Ythnfphgjfpcpbaa.TM
namespace Go.Proofs.Ythnfphgjfpcpbaa.TM
open Go Go.RowKit
def nx (l:List Int) (a:Int):Int:=l.getD a.toNat 0
end Go.Proofs.Ythnfphgjfpcpbaa.TM
namespace Go.Proofs.Ythnfphgjfpcpbaa.TM
open Go Go.RowKit
theorem Az0 (a b:Nat) (f:Nat → Int):sw a b f=sw b a f:=by
  funext i
  unfold sw
  by_cases c1:i=a
  · by_cases c2:i=b
    · rw [if_pos c1,if_pos c2,← c1,← c2]
    · rw [if_pos c1,if_neg c2,if_pos c1]
  · by_cases c2:i=b
    · rw [if_neg c1,if_pos c2,if_pos c2]
    · rw [if_neg c1,if_neg c2,if_neg c2,if_neg c1]
theorem Ac9 {a b n:Nat} {f:Nat → Int} (h:InjN f n) (ha:a < n) (hb:b < n) (hab:a ≠ b):Fh (sw a b f) n=- Fh f n:=by
  rcases Nat.lt_or_gt_of_ne hab with c|c
  · obtain ⟨d,rfl⟩:∃ d,b=a + 1 + d:=⟨b - (a + 1),by omega⟩
    exact S3 d a n f h hb
  · obtain ⟨d,rfl⟩:∃ d,a=b + 1 + d:=⟨a - (b + 1),by omega⟩
    rw [Az0]
    exact S3 d b n f h ha
def alt:Nat → Int
  | 0 => 1
  | k + 1 => - alt k
end Go.Proofs.Ythnfphgjfpcpbaa.TM
namespace Go.Proofs.Ythnfphgjfpcpbaa.TM
open Go Go.RowKit
theorem Ur (f:Nat → Int):∀ n,Fh f n=1 ∨ Fh f n=-1
  | 0 => .inl rfl
  | n + 1 => by
    have key:∀ (y:Int) (k:Nat),Gm f y k=1 ∨ Gm f y k=-1:=fun y k => by
      induction k with
      | zero => exact .inl rfl
      | succ k ih =>
        rw [Gm,eps]
        rcases ih with h|h <;> rw [h] <;> split <;> simp
    rw [Fh]
    rcases Ur f n with h|h <;> rcases key (f n) n with e|e <;> rw [h,e] <;> simp
end Go.Proofs.Ythnfphgjfpcpbaa.TM
namespace Go.Proofs.Ythnfphgjfpcpbaa.TM
open Go Go.RowKit
def idX:Mx:=fun i j => if j=i then 1 else 0
def pmX (f:Nat → Int):Mx:=fun i j => if (j:Int)=f i then 1 else 0
def K3:Nat → (Nat → Int) → Int
  | 0,_ => 1
  | n + 1,f => K3 n f * f n
theorem Ej {p a:Int}:a % p % p=a % p:=Int.emod_emod_of_dvd _ (Int.dvd_refl _)
theorem Alt.perm {p:Int} {n:Nat} {F:Mx → Int} (H:Alt p n F):∀ (m:Nat) (f:Nat → Int),m ≤ n → InjN f n → InN f n → (∀ i,m ≤ i → i < n → f i=i) → F (pmX f) % p=Fh f n * F idX % p
  | 0,f,_,_,_,hf => by
    rw [K9 (g:=fun i => (i:Int)) fun i hi => hf i (Nat.zero_le _) hi,Zp,Int.one_mul]
    refine H.cg _ _ fun i j hi hj => ?_
    unfold pmX idX
    rw [hf i (Nat.zero_le _) hi]
    by_cases e:j=i
    · rw [if_pos (by omega),if_pos e]
    · rw [if_neg (by omega),if_neg e]
  | m + 1,f,hm,hi,hr,hf => by
    obtain ⟨i0,h0,h1⟩:=surjN hi hr m (by omega)
    by_cases e:i0=m
    · subst e
      exact Alt.perm H i0 f (by omega) hi hr fun i a b => by
        by_cases c:i=i0
        · subst c; exact h1
        · exact hf i (by omega) b
    · have hlt:i0 < m:=by
        rcases Nat.lt_or_ge i0 (m + 1) with c|c
        · omega
        · have:=hf i0 c h0; omega
      have ih:=Alt.perm H m (sw i0 m f) (by omega) (hi.sw h0 (by omega)) (sw_in hr h0 (by omega)) fun i a b => by
        by_cases c:i=m
        · subst c; rw [sw_b]; exact h1
        · rw [Ac5 _ (by omega) c]; exact hf i (by omega) b
      have e2:pmX (sw i0 m f)=swp (pmX f) i0 m:=by
        funext a b
        unfold pmX swp sw
        by_cases c:a=i0
        · simp [c]
        · by_cases d:a=m
          · subst d; simp only [c,if_false,if_true]
          · simp [c,d]
      rw [e2,H.swap h0 (by omega) e,Ac9 hi h0 (by omega) e,Int.neg_mul] at ih
      have h9:(0 - - F (pmX f)) % p=(0 - - (Fh f n * F idX)) % p:=Jj rfl ih
      rw [Int.zero_sub,Int.neg_neg,Int.zero_sub,Int.neg_neg] at h9
      exact h9
def hdX (m:Nat) (A B:Mx):Mx:=fun i => if i < m then A i else B i
theorem Ja {m i:Nat} (h:i < m) (A B:Mx):hdX m A B i=A i:=if_pos h
theorem Jb {m i:Nat} (h:¬ i < m) (A B:Mx):hdX m A B i=B i:=if_neg h
theorem V3 (A B:Mx):hdX 0 A B=B:=by funext i; exact Jb (by omega) A B
theorem Bb4 (m:Nat) (A B:Mx):updr (hdX m A B) m (A m)=hdX (m + 1) A B:=by
  funext i j
  unfold updr
  by_cases a:i=m
  · subst a; rw [if_pos rfl,Ja (by omega)]
  · rw [if_neg a]
    by_cases b:i < m
    · rw [Ja b,Ja (by omega)]
    · rw [Jb b,Jb (by omega)]
theorem As9 (m:Nat) (A B:Mx):updr (hdX m A B) m (B m)=hdX m A B:=by
  funext i j
  unfold updr
  by_cases a:i=m
  · subst a; rw [if_pos rfl,Jb (by omega)]
  · rw [if_neg a]
section
variable {P n r:Nat} {A:Mx} {rw cw:Nat → Nat} {c u:Mx} {F:Mx → Int}
def Xf (r:Nat) (rw:Nat → Nat) (u:Mx):Mx:=fun i j => B8 r (fun k => if rw k=i then u k j else 0)
theorem Zs (h:∀ j k,j < k → k < r → rw j < rw k) {k:Nat} (hk:k < r) (j:Nat):Xf r rw u (rw k) j=u k j:=by
  unfold Xf
  rw [← Dm (fun m => u m j) hk]
  refine By fun m hm => ?_
  by_cases e:m=k
  · subst e; rw [if_pos rfl,if_pos rfl]
  · rw [if_neg e,if_neg]
    intro he
    rcases Nat.lt_or_ge m k with a|a
    · have:=h m k a hk; omega
    · have:=h k m (by omega) hm; omega
theorem Cp.alt_rest (hA:Alt P n F) (H:Cp P n n r A rw cw c u):F A % P=F (Xf r rw u) % P:=by
  have key:∀ m,m ≤ n → F A % P=F (hdX m (Xf r rw u) A) % P:=by
    intro m
    induction m with
    | zero => intro _; rw [V3]
    | succ m ih =>
      intro hm
      rw [ih (by omega)]
      have h1:=hA.comb (hdX m (Xf r rw u) A) (i:=m) (by omega) rw (fun k => if rw k < m then c m k else 0) (Xf r rw u m) r (fun k hk => by
        by_cases e:rw k < m
        · right; exact ⟨H.rlt k hk,by omega⟩
        · left; exact if_neg e)
      rw [Bb4] at h1
      rw [← h1]
      refine hA.cg _ _ fun i j hi hj => ?_
      unfold updr
      by_cases a:i=m
      · subst a
        rw [Jb (by omega),if_pos rfl,H.made i hi j hj]
        have e0:Xf r rw u i j=B8 r (fun k => if rw k=i then u k j else 0):=rfl
        (try dsimp only)
        rw [e0,← Fg]
        refine Dn fun k hk => ?_
        rcases Nat.lt_trichotomy (rw k) i with e|e|e
        · rw [if_neg (by omega),if_pos e,Ja e,Zs H.rinc hk j,Int.zero_add]
        · rw [if_pos e,if_neg (by omega),Int.zero_mul,Int.add_zero]
          have h1:=H.c1 k hk
          rw [e] at h1
          rw [Int.mul_emod,h1,Int.one_mul,Ej]
        · rw [if_neg (by omega),if_neg (by omega),Int.zero_mul,Int.add_zero]
          have h1:=H.cz k hk i e
          rw [Qx h1]; rfl
      · rw [if_neg a]
  rw [key n (Nat.le_refl n)]
  refine hA.cg _ _ fun i j hi hj => ?_
  rw [Ja hi]
theorem Cp.alt_zero (hA:Alt P n F) (H:Cp P n n r A rw cw c u) (hr:r < n):F A % P=0:=by
  rw [H.alt_rest hA]
  have:∃ i,i < n ∧ ∀ k,k < r → rw k ≠ i:=by
    refine Classical.byContradiction fun hn => ?_
    have hs:∀ i,i < n → ∃ k,k < r ∧ rw k=i:=fun i hi => Classical.byContradiction fun h => hn ⟨i,hi,fun k hk e => h ⟨k,hk,e⟩⟩
    have:=pigeon r n (fun i => if h:∃ k,k < r ∧ rw k=i then Classical.choose h else 0) (fun i hi => by
      simp only [dif_pos (hs i hi)]; exact (Classical.choose_spec (hs i hi)).1) (fun i j hij hj he => by
      simp only [dif_pos (hs i (by omega)),dif_pos (hs j hj)] at he
      have h1:=(Classical.choose_spec (hs i (by omega))).2
      have h2:=(Classical.choose_spec (hs j hj)).2
      rw [he,h2] at h1; omega)
    omega
  obtain ⟨i,hi,h⟩:=this
  rw [hA.zero _ hi fun j => W5 fun k hk => if_neg (h k hk)]; rfl
theorem Bb2 {rw:Nat → Nat} (h:∀ j k,j < k → k < n → rw j < rw k) (hl:∀ k,k < n → rw k < n):∀ k,k < n → rw k=k:=by
  have lo:∀ k,k < n → k ≤ rw k:=by
    intro k
    induction k with
    | zero => exact fun _ => Nat.zero_le _
    | succ k ih => intro hk; have:=ih (by omega); have:=h k (k + 1) (by omega) hk; omega
  have hi:∀ d k,k + d + 1=n → rw k ≤ k:=by
    intro d
    induction d with
    | zero => intro k hk; have:=hl k (by omega); omega
    | succ d ih => intro k hk; have:=ih (k + 1) (by omega); have:=h k (k + 1) (by omega) (by omega); omega
  intro k hk
  exact Nat.le_antisymm (hi (n - k - 1) k (by omega)) (lo k hk)
theorem Cp.alt_full (hA:Alt P n F) (H:Cp P n n n A rw cw c u):F A % P=K3 n (fun k => u k (cw k)) * F (pmX (fun k => (cw k:Int))) % P:=by
  have rid:=Bb2 H.rinc H.rlt
  have e0:F A % P=F u % P:=by
    rw [H.alt_rest hA]
    refine hA.cg _ _ fun i j hi hj => ?_
    have:=Zs (u:=u) H.rinc hi j
    rw [rid i hi] at this
    rw [this]
  rw [e0]
  have inj:InjN (fun k => (cw k:Int)) n:=fun i j hi hj he => H.cdis hi hj (by (try dsimp only at he); omega)
  have inn:InN (fun k => (cw k:Int)) n:=fun i hi => ⟨by (try dsimp only); omega,by have:=H.clt i hi; (try dsimp only); omega⟩
  have surj:∀ j,j < n → ∃ k,k < n ∧ cw k=j:=fun j hj => by
    obtain ⟨i,h1,h2⟩:=surjN inj inn j hj
    exact ⟨i,h1,by omega⟩
  have p1:∀ k,pmX (fun k => (cw k:Int)) k (cw k)=1:=fun k => if_pos rfl
  have p0:∀ k q,k < n → q < n → k ≠ q → pmX (fun k => (cw k:Int)) k (cw q)=0:=fun k q hk hq hn => if_neg fun h => hn (H.cdis hk hq (by simp only at h; omega))
  generalize hG:pmX (fun k => (cw k:Int))=G at p1 p0 ⊢
  have key:∀ m,m ≤ n → F (hdX m u G) % P=K3 m (fun k => u k (cw k)) * F G % P:=by
    intro m
    induction m with
    | zero => intro _; rw [V3,K3,Int.one_mul]
    | succ m ih =>
      intro hm
      have e1:F (hdX (m + 1) u G) % P=F (updr (hdX m u G) m (fun j => u m (cw m) * G m j + B8 n (fun k => (if m < k then u m (cw k) else 0) * hdX m u G k j))) % P:=by
        refine hA.cg _ _ fun i j hi hj => ?_
        unfold updr
        by_cases a:i=m
        · subst a
          rw [Ja (by omega),if_pos rfl]
          obtain ⟨q,hq,rfl⟩:=surj j hj
          have zk:∀ k,k < n → k ≠ q → (if i < k then u i (cw k) else 0) * hdX i u G k (cw q)=0:=fun k hk hkq => by
            by_cases f:i < k
            · rw [Jb (by omega),p0 k q hk hq hkq,Int.mul_zero]
            · rw [if_neg f,Int.zero_mul]
          have zs:B8 n (fun k => (if i < k then u i (cw k) else 0) * hdX i u G k (cw q))=(if i < q then u i (cw q) else 0) * hdX i u G q (cw q):=by
            rw [← Dm (fun k => (if i < k then u i (cw k) else 0) * hdX i u G k (cw q)) hq]
            refine By fun k hk => ?_
            by_cases g:k=q
            · rw [if_pos g]
            · rw [if_neg g,zk k hk g]
          (try dsimp only)
          rw [zs]
          rcases Nat.lt_trichotomy q i with e|e|e
          · rw [if_neg (by omega),p0 i q hi hq (by omega),Int.mul_zero,Int.zero_mul,H.uz q i e hi]; rfl
          · subst e
            rw [if_neg (by omega),p1,Int.mul_one,Int.zero_mul,Int.add_zero]
          · rw [if_pos e,Jb (by omega),p1,p0 i q hi hq (by omega),Int.mul_one,Int.mul_zero,Int.zero_add]
        · rw [if_neg a]
          by_cases b:i < m
          · rw [Ja b,Ja (by omega)]
          · rw [Jb b,Jb (by omega)]
      rw [e1,hA.comb _ (by omega) (fun k => k) (fun k => if m < k then u m (cw k) else 0) _ n (fun k hk => by
        by_cases f:m < k
        · right; exact ⟨hk,by omega⟩
        · left; exact if_neg f),hA.scale _ _ _ (by omega),As9,K3,D4 rfl (ih (by omega))]
      congr 1
      grind
  have:=key n (Nat.le_refl n)
  rw [← this]
  exact hA.cg _ _ fun i j hi hj => by rw [Ja hi]
def pdX (n r:Nat) (cw:Nat → Nat) (u:Mx):Int:=if r=n then K3 n (fun k => u k (cw k)) * Fh (fun k => (cw k:Int)) n else 0
theorem Cp.rle {R C:Nat} (H:Cp P R C r A rw cw c u):r ≤ R:=by
  rcases Nat.eq_zero_or_pos r with h|h
  · omega
  · have lo:∀ k,k < r → k ≤ rw k:=by
      intro k
      induction k with
      | zero => exact fun _ => Nat.zero_le _
      | succ k ih => intro hk; have:=ih (by omega); have:=H.rinc k (k + 1) (by omega) hk; omega
    have:=lo (r - 1) (by omega)
    have:=H.rlt (r - 1) (by omega)
    omega
theorem Cp.det (hA:Alt P n F) (H:Cp P n n r A rw cw c u):F A % P=pdX n r cw u * F idX % P:=by
  unfold pdX
  by_cases h:r=n
  · subst h
    rw [if_pos rfl,H.alt_full hA,D4 rfl (hA.perm r (fun k => (cw k:Int)) (Nat.le_refl _) (fun i j hi hj he => H.cdis hi hj (by (try dsimp only at he); omega)) (fun i hi => ⟨by (try dsimp only); omega,by have:=H.clt i hi; (try dsimp only); omega⟩) fun i a b => by omega),← Int.mul_assoc]
  · have:=H.rle
    rw [if_neg h,Int.zero_mul,H.alt_zero hA (by omega)]; rfl
end
end Go.Proofs.Ythnfphgjfpcpbaa.TM
namespace Go.Proofs.Ythnfphgjfpcpbaa.TM
open Go Go.RowKit
def Rk (P R C r:Nat) (A:Mx):Prop:=∃ rw cw c u,Cp P R C r A rw cw c u
section
variable {P R C D S r s t:Nat} {A B:Mx}
theorem Cp.cong {rw cw:Nat → Nat} {c u:Mx} (H:Cp P R C r A rw cw c u) (h:∀ i j,i < R → j < C → A i j % P=B i j % P):Cp P R C r B rw cw c u :=
  ⟨H.rlt,H.rinc,H.clt,H.upiv,H.uz,H.uh,H.c1,H.cz,fun i hi j hj => by rw [← h i j hi hj]; exact H.made i hi j hj⟩
theorem Ao9 (hP:Prm P) (hp:Md P) (R C:Nat) (A:Mx):∃ r,Rk P R C r A:=by
  have K:=Zn (R:=R) (C:=C) (l:=tbl (R * C) (fun q => A (q / C) (q % C) % P)) hP hp (Ca ..) (fun a ha => by
    obtain ⟨q,_,rfl⟩:=Dh ha; exact Dl hp _) R (Nat.le_refl R)
  refine ⟨_,_,_,_,_,K.H.cong fun i j hi hj => ?_⟩
  rw [Tw _ hi hj,Lm hj,Nc hj,Ej]
theorem pow_le {P a b:Nat} (hP:Prm P) (h:P ^ a ≤ P ^ b):a ≤ b:=(Nat.pow_le_pow_iff_right hP.1).1 h
noncomputable def kB (P R C:Nat) (A:Mx):Nat → Bool:=fun n => by classical exact decide (∀ i,i < R → apX C A (vec P n) i % P=0)
theorem Ye (n:Nat):kB P R C A n=true ↔ ∀ i,i < R → apX C A (vec P n) i % P=0:=by unfold kB; simp
theorem Rk.kc (hP:Prm P) (H:Rk P R C r A):P ^ r * Fd (P ^ C) (kB P R C A)=P ^ C:=by
  obtain ⟨_,_,_,_,H⟩:=H
  exact H.kcnt hP fun n _ => Ye n
theorem Rk.le_rows (H:Rk P R C r A):r ≤ R:=by obtain ⟨_,_,_,_,H⟩:=H; exact H.rle
theorem Rk.ker_le (hP:Prm P) (H:Rk P R C r A) (K:Rk P S C s B) (h:∀ x:Nat → Int,(∀ i,i < R → apX C A x i % P=0) → ∀ i,i < S → apX C B x i % P=0):s ≤ r:=by
  have h1:=H.kc hP
  have h2:=K.kc hP
  have p0:0 < P:=by have:=hP.1; omega
  have h3:Fd (P ^ C) (kB P R C A) ≤ Fd (P ^ C) (kB P S C B):=Au6 fun n _ hn => (Ye n).2 (h _ ((Ye n).1 hn))
  refine pow_le hP ?_
  have h4:0 < Fd (P ^ C) (kB P S C B):=by
    rcases Nat.eq_zero_or_pos (Fd (P ^ C) (kB P S C B)) with e|e
    · rw [e,Nat.mul_zero] at h2; have:=Nat.pow_pos (n:=C) p0; omega
    · exact e
  refine Nat.le_of_mul_le_mul_right ?_ h4
  exact Nat.le_trans (Nat.le_of_eq (h2.trans h1.symm)) (Nat.mul_le_mul_left _ h3)
theorem T5 (K C:Nat) (A B:Mx) (x:Nat → Int) (i:Nat):apX C (Im K A B) x i=apX K A (apX C B x) i:=by
  unfold apX Im
  rw [By fun k _ => (G8 C (A i k) (fun j => B k j * x j)).symm,If]
  refine By fun j _ => ?_
  rw [← Mv]
  exact By fun k _ => by rw [Int.mul_assoc]
theorem apX_z {p:Int} {C:Nat} {A:Mx} {x:Nat → Int} (h:∀ j,j < C → x j % p=0) (i:Nat):apX C A x i % p=0:=W7 fun j hj => N4 (h j hj)
theorem Rk.mul_right (hP:Prm P) (K:Rk P S C s B) (M:Rk P R C t (Im S A B)):t ≤ s :=
  K.ker_le hP M fun x hx i _ => by rw [T5]; exact apX_z hx i
end
section
variable {P n r:Nat} {A B:Mx} {rw cw:Nat → Nat} {c u:Mx}
theorem Ab3:∀ n,Lp n idX=1
  | 0 => rfl
  | n + 1 => by
    rw [Ew]
    have:B8 (n + 1) (fun k => sg k * idX 0 k * Lp n (mnr idX k))=B8 (n + 1) (fun k => if k=0 then (fun _ => (1:Int)) k else 0):=By fun k hk => by
      by_cases e:k=0
      · subst e
        rw [if_pos rfl,Zq,show idX 0 0=1 from rfl]
        have:Lp n (mnr idX 0)=Lp n idX:=Iz n fun i j _ _ => by
          show (if skip 0 j=i + 1 then _ else _)=if j=i then _ else _
          rw [show skip 0 j=j + 1 from rfl]
          by_cases e:j=i
          · rw [if_pos (by omega),if_pos e]
          · rw [if_neg (by omega),if_neg e]
        rw [this,Ab3 n]; rfl
      · rw [if_neg e,show idX 0 k=0 from if_neg e,Int.mul_zero,Int.zero_mul]
    rw [this,Dm _ (by omega)]
theorem Cp.lp (H:Cp P n n r A rw cw c u):Lp n A % P=pdX n r cw u % P:=by
  rw [H.det (Ud P n),Ab3,Int.mul_one]
theorem Bd3 (hP:Prm P) (hp:Md P) (n:Nat) (A B:Mx):Lp n (Im n A B) % P=Lp n A * Lp n B % P:=by
  obtain ⟨r,_,_,_,_,H⟩:=Ao9 hP hp n n A
  have h1:=H.det (Y6 P n B)
  have e:Lp n (Im n idX B)=Lp n B:=Iz n fun i j hi hj => by
    unfold Im
    rw [← Dm (fun k => B k j) hi]
    refine By fun k _ => ?_
    unfold idX
    by_cases e:k=i
    · rw [if_pos e,if_pos e,Int.one_mul]
    · rw [if_neg e,if_neg e,Int.zero_mul]
  rw [e] at h1
  rw [h1]
  exact D4 H.lp.symm rfl
theorem U9 (hP:Prm P) {f:Nat → Int}:∀ n,(∀ k,k < n → f k % P ≠ 0) → K3 n f % P ≠ 0
  | 0,_ => by rw [K3,Int.emod_eq_of_lt (by decide) (by have:=hP.1; omega)]; decide
  | n + 1,h => fun e => U9 hP n (fun k hk => h k (by omega)) (by
      refine Classical.byContradiction fun hn => h n (by omega) (Va hP e hn))
theorem sgn_nz {f:Nat → Int} {n:Nat}:Fh f n * Fh f n=1:=by
  rcases Ur f n with h|h <;> rw [h] <;> rfl
theorem Cp.det_nz (hP:Prm P) (H:Cp P n n r A rw cw c u):pdX n r cw u % P ≠ 0 ↔ r=n:=by
  unfold pdX
  constructor
  · intro h
    refine Classical.byContradiction fun hn => h ?_
    rw [if_neg hn]; rfl
  · rintro rfl
    rw [if_pos rfl]
    intro h
    refine U9 hP _ (fun k hk => H.upiv k hk) ?_
    have:K3 r (fun k => u k (cw k))=K3 r (fun k => u k (cw k)) * Fh (fun k => (cw k:Int)) r * Fh (fun k => (cw k:Int)) r:=by
      rw [Int.mul_assoc,sgn_nz,Int.mul_one]
    rw [this]; exact Qx h
theorem Rk.lp_nz (hP:Prm P) (H:Rk P n n r A):Lp n A % P ≠ 0 ↔ r=n:=by
  obtain ⟨_,_,_,_,H⟩:=H
  rw [H.lp]; exact H.det_nz hP
end
end Go.Proofs.Ythnfphgjfpcpbaa.TM
namespace Go.Proofs.Ythnfphgjfpcpbaa.TM
open Go Go.RowKit
def rwC (c:Cy) (k:Nat):Nat:=(c.1.getD k 0).toNat
def cwC (c:Cy) (k:Nat):Nat:=(c.2.1.getD k 0).toNat
def ccC (c:Cy):Mx:=fun i k => (c.2.2.1.getD i []).getD k 0
def uuC (c:Cy):Mx:=fun k j => (c.2.2.2.getD k []).getD j 0
abbrev CpC (P R C:Nat) (A:Mx) (c:Cy):Prop:=Cp P R C c.1.length A (rwC c) (cwC c) (ccC c) (uuC c)
theorem Ba3 (r:Nat) (x:List Int) (k:Nat):(Vd r x).getD k 0=x.getD k 0:=by
  unfold Vd
  rw [List.getD_eq_getElem?_getD,List.getD_eq_getElem?_getD]
  by_cases h:k < x.length
  · rw [List.getElem?_append_left h]
  · rw [List.getElem?_append_right (by omega),List.getElem?_eq_none (l:=x) (by omega),List.getElem?_replicate]
    split <;> rfl
theorem Ff {P R C:Nat} {l:List Int} (hP:Prm P) (M:Mt P R C l) (hin:∀ a ∈ l,In P a):CpC P R C (cl C l) (Bf P C R l):=by
  have K:=Zn hP M.hp M.len hin R (Nat.le_refl R)
  have e1:(Bf P C R l).1.length=(tkN P C l R).us.length:=K.I.rl
  have e2:ccC (Bf P C R l)=cF (tkN P C l R):=by
    funext i k
    show (((tkN P C l R).cs.map (Vd (tkN P C l R).us.length)).getD i []).getD k 0=(csF (tkN P C l R) i).getD k 0
    unfold csF
    by_cases h:i < (tkN P C l R).cs.length
    · rw [List.getD_eq_getElem?_getD (l:=List.map _ _),List.getElem?_map,List.getElem?_eq_getElem h,Option.map_some,Option.getD_some,Ba3,List.getD_eq_getElem?_getD (l:=(tkN P C l R).cs),List.getElem?_eq_getElem h]; rfl
    · rw [List.getD_eq_getElem?_getD (l:=List.map _ _),List.getElem?_map,List.getElem?_eq_none (by omega),List.getD_eq_getElem?_getD (l:=(tkN P C l R).cs),List.getElem?_eq_none (by omega)]; rfl
  unfold CpC
  rw [e1,e2]
  exact K.H
section
variable {P R C:Nat} {A:Mx} {c:Cy}
theorem Az1 {n m:Nat} (h:m ≤ n) {f:Nat → Int} (hz:∀ i,m ≤ i → i < n → f i=0):B8 n f=B8 m f:=by
  obtain ⟨d,rfl⟩:∃ d,n=m + d:=⟨n - m,by omega⟩
  rw [K8,W5 (n:=d) fun i hi => hz _ (by omega) (by omega),Int.add_zero]
theorem Z9 (b z:List Int) (i:Nat):∀ j,hlX P c b z i j % P=(b.getD i 0 - B8 j (fun t => ccC c i t * z.getD t 0)) % P
  | 0 => by simp [hlX,B8]
  | j + 1 => by
    rw [hlX,Ej,Jj (Z9 b z i j) Ej,B8]
    congr 1
    unfold ccC
    omega
theorem Om (b:List Int):∀ k m,m < k → (hlL P c b k).getD m 0=hlX P c b (hlL P c b m) (rwC c m) m
  | 0,m,h => by omega
  | k + 1,m,h => by
    rw [hlL,List.getD_eq_getElem?_getD]
    by_cases e:m < k
    · rw [List.getElem?_append_left (by rw [Gq]; exact e),← List.getD_eq_getElem?_getD,Om b k m e]
    · have:m=k:=by omega
      subst this
      rw [List.getElem?_append_right (by rw [Gq]; omega),Gq,Nat.sub_self]; rfl
theorem Bb3 (b:List Int):∀ k m t,m ≤ k → t < m → (hlL P c b m).getD t 0=(hlL P c b k).getD t 0:=fun k m t h1 h2 => by
  rw [Om b m t h2,Om b k t (by omega)]
theorem Aj1 (hP:Prm P) (H:CpC P R C A c) (b:List Int):∀ m,m < c.1.length → B8 c.1.length (fun k => ccC c (rwC c m) k * (hlL P c b c.1.length).getD k 0) % P=b.getD (rwC c m) 0 % P:=by
  intro m hm
  have e1:B8 c.1.length (fun k => ccC c (rwC c m) k * (hlL P c b c.1.length).getD k 0) % P=B8 (m + 1) (fun k => ccC c (rwC c m) k * (hlL P c b c.1.length).getD k 0) % P:=by
    rw [Dn (g:=fun k => if k < m + 1 then ccC c (rwC c m) k * (hlL P c b c.1.length).getD k 0 else 0) (fun k hk => by
      by_cases h:k < m + 1
      · rw [if_pos h]
      · rw [if_neg h,Qx (H.cz k hk _ (H.rinc m k (by omega) hk))]; rfl),Az1 (m:=m + 1) (by omega) fun i h1 _ => if_neg (by omega)]
    congr 1
    exact By fun k hk => if_pos hk
  have hp1:(1:Int) < P:=by have:=hP.1; omega
  rw [e1,B8,Om b c.1.length m hm]
  have h1:=Z9 (P:=P) (c:=c) b (hlL P c b m) (rwC c m) m
  have h2:ccC c (rwC c m) m * hlX P c b (hlL P c b m) (rwC c m) m % P=1 * (b.getD (rwC c m) 0 - B8 m (fun t => ccC c (rwC c m) t * (hlL P c b m).getD t 0)) % P:=D4 ((H.c1 m hm).trans (Int.emod_eq_of_lt (by decide) hp1).symm) h1
  rw [Jk rfl h2,By fun t ht => by rw [← Bb3 b c.1.length m t (by omega) ht]]
  congr 1
  omega
theorem Sx {z x:List Int} {k:Nat} (hc:0 ≤ c.2.1.getD k 0):∀ q,svN P c z k x q % P=(z.getD k 0 - B8 q (fun j => if j=cwC c k then 0 else uuC c k j * x.getD j 0)) % P
  | 0 => by simp [svN,B8]
  | q + 1 => by
    rw [svN,B8]
    by_cases e:(q:Int)=c.2.1.getD k 0
    · rw [if_pos e,if_pos (show q=cwC c k by unfold cwC; omega),Sx hc q]; congr 1; omega
    · rw [if_neg e,if_neg (show ¬ q=cwC c k by unfold cwC; omega),Ej,Jj (Sx hc q) Ej]
      congr 1
      unfold uuC
      omega
theorem Gz (hP:Prm P) (hp:Md P) (hw:CupW P R C c) (H:CpC P R C A c) (z:List Int) {x:List Int} (hx:x.length=C) :
    ∀ d,d ≤ c.1.length → (∀ j,j < C → (∀ k,k < c.1.length → j ≠ cwC c k) → (svL P C c (C5 P c) z x d).getD j 0=x.getD j 0) ∧ ∀ k,c.1.length - d ≤ k → k < c.1.length → apX C (uuC c) (fun j => (svL P C c (C5 P c) z x d).getD j 0) k % P=z.getD k 0 % P
  | 0,_ => ⟨fun _ _ _ => rfl,fun k h1 h2 => by omega⟩
  | d + 1,hd => by
    obtain ⟨h1,h2⟩:=Gz hP hp hw H z hx d (by omega)
    obtain ⟨m,hm⟩:∃ m,m=c.1.length - 1 - d:=⟨_,rfl⟩
    have hmr:m < c.1.length:=by omega
    have xl:=Kr (p:=P) (c:=c) (vs:=C5 P c) (z:=z) hx d
    have hq:=hw.qb (c.2.1.getD m 0) (C0 (by rw [hw.ql]; exact hmr))
    have hcw:=H.clt m hmr
    have hv:(C5 P c).getD m 0=D7 P (uuC c m (cwC c m)):=Ct _ (by rw [hw.ul]; exact hmr)
    obtain ⟨u1,u2⟩:=hw.ur (c.2.2.2.getD m []) (C0 (by rw [hw.ul]; exact hmr))
    have hi:=Ce u2 (i:=cwC c m) (by omega)
    have hinv:uuC c m (cwC c m) * (C5 P c).getD m 0 % P=1:=by
      rw [hv]; exact (Ir hp.1 hp.2 hi (Hs hP hi (hw.nz m hmr))).2
    have get:∀ j,j < C → (svL P C c (C5 P c) z x (d + 1)).getD j 0=if j=cwC c m then svN P c z m (svL P C c (C5 P c) z x d) C * (C5 P c).getD m 0 % P else (svL P C c (C5 P c) z x d).getD j 0:=fun j hj => by
      rw [svL,← hm]; exact Ct _ hj
    refine ⟨fun j hj hn => by rw [get j hj,if_neg (hn m hmr),h1 j hj hn],fun k h3 h4 => ?_⟩
    have e1:apX C (uuC c) (fun j => (svL P C c (C5 P c) z x (d + 1)).getD j 0) k=B8 C (fun j => if j=cwC c m then 0 else uuC c k j * (svL P C c (C5 P c) z x d).getD j 0) + uuC c k (cwC c m) * (svN P c z m (svL P C c (C5 P c) z x d) C * (C5 P c).getD m 0 % P):=by
      unfold apX
      rw [← Dm (fun j => uuC c k j * (svN P c z m (svL P C c (C5 P c) z x d) C * (C5 P c).getD m 0 % P)) hcw,← Fg]
      refine By fun j hj => ?_
      (try dsimp only)
      rw [get j hj]
      by_cases e:j=cwC c m
      · rw [if_pos e,if_pos e,if_pos e,Int.zero_add]
      · rw [if_neg e,if_neg e,if_neg e,Int.add_zero]
    rw [e1]
    by_cases e:k=m
    · subst e
      have h5:=Sx (P:=P) (c:=c) (z:=z) (x:=svL P C c (C5 P c) z x d) (k:=k) hq.1 C
      generalize B8 C (fun j => if j=cwC c k then 0 else uuC c k j * (svL P C c (C5 P c) z x d).getD j 0)=S at h5 ⊢
      generalize svN P c z k (svL P C c (C5 P c) z x d) C=N at h5 ⊢
      have h6:uuC c k (cwC c k) * (N * (C5 P c).getD k 0 % P) % P=1 * (z.getD k 0 - S) % P:=by
        rw [D4 rfl Ej,show uuC c k (cwC c k) * (N * (C5 P c).getD k 0)=(uuC c k (cwC c k) * (C5 P c).getD k 0) * N by grind]
        exact D4 (hinv.trans (Int.emod_eq_of_lt (by decide) (by have:=hp.1; omega)).symm) h5
      rw [Jk rfl h6]
      congr 1
      omega
    · have h5:=h2 k (by omega) h4
      have h6:=H.uz m k (by omega) h4
      rw [← h5,Int.add_emod,Qx h6,Int.add_zero,Ej]
      unfold apX
      refine Dn fun j hj => ?_
      by_cases e:j=cwC c m
      · rw [if_pos e,e,Qx h6]; rfl
      · rw [if_neg e]
theorem Zt (hP:Prm P) (hp:Md P) (hw:CupW P R C c) (H:CpC P R C A c) {i:Nat} (hi:i < R) (hn:∀ k,k < c.1.length → rwC c k ≠ i) :
    ∀ d,d ≤ c.1.length → (∀ m,m < R → m ≠ i → (∀ k,c.1.length - d ≤ k → k < c.1.length → m ≠ rwC c k) → (rwS P R c i d).2.getD m 0=0) ∧ (rwS P R c i d).2.getD i 0=1 ∧
      (∀ k,k < c.1.length → B8 R (fun m => (rwS P R c i d).2.getD m 0 * ccC c m k) % P=(if k < c.1.length - d then (rwS P R c i d).1.getD k 0 else 0) % P)
  | 0,_ => by
    have g:∀ m,m < R → (rwS P R c i 0).2.getD m 0=if m=i then 1 else 0:=fun m hm => Ct _ hm
    refine ⟨fun m hm h _ => by rw [g m hm,if_neg h],by rw [g i hi,if_pos rfl],fun k hk => ?_⟩
    rw [if_pos (by omega),By (g:=fun m => if m=i then ccC c m k else 0) fun m hm => by
      rw [g m hm]
      by_cases e:m=i
      · rw [if_pos e,if_pos e,Int.one_mul]
      · rw [if_neg e,if_neg e,Int.zero_mul],Dm _ hi]; rfl
  | d + 1,hd => by
    obtain ⟨h1,h2,h3⟩:=Zt hP hp hw H hi hn d (by omega)
    obtain ⟨m0,hm⟩:∃ m,m=c.1.length - 1 - d:=⟨_,rfl⟩
    have hmr:m0 < c.1.length:=by omega
    have hr:=H.rlt m0 hmr
    have e0:(c.1.getD m0 0).toNat=rwC c m0:=rfl
    have gy:∀ m,m < R → (rwS P R c i (d + 1)).2.getD m 0=if m=rwC c m0 then (0 - (rwS P R c i d).1.getD m0 0) % P else (rwS P R c i d).2.getD m 0:=fun m hm' => by
      rw [rwS,← hm]; exact Ct _ hm'
    have gl:∀ k,k < c.1.length → (rwS P R c i (d + 1)).1.getD k 0=if k < m0 then ((rwS P R c i d).1.getD k 0 - (rwS P R c i d).1.getD m0 0 * ccC c (rwC c m0) k % P) % P else (rwS P R c i d).1.getD k 0:=fun k hk => by
      rw [rwS,← hm]; exact Ct _ hk
    have y0:(rwS P R c i d).2.getD (rwC c m0) 0=0:=h1 _ hr (hn m0 hmr) fun k h4 h5 e => by
      have:=H.rinc m0 k (by omega) h5; omega
    refine ⟨fun m hm' h4 h5 => ?_,?_,fun k hk => ?_⟩
    · rw [gy m hm',if_neg (h5 m0 (by omega) hmr)]
      exact h1 m hm' h4 fun k h6 h7 => h5 k (by omega) h7
    · rw [gy i hi,if_neg (fun e => hn m0 hmr e.symm)]; exact h2
    · have e1:B8 R (fun m => (rwS P R c i (d + 1)).2.getD m 0 * ccC c m k)=B8 R (fun m => (rwS P R c i d).2.getD m 0 * ccC c m k) + ((0 - (rwS P R c i d).1.getD m0 0) % P) * ccC c (rwC c m0) k:=by
        rw [← Dm (fun m => ((0 - (rwS P R c i d).1.getD m0 0) % P) * ccC c m k) hr,← Fg]
        refine By fun m hm' => ?_
        rw [gy m hm']
        by_cases e:m=rwC c m0
        · rw [if_pos e,if_pos e,e,y0,Int.zero_mul,Int.zero_add]
        · rw [if_neg e,if_neg e,Int.add_zero]
      have h4:=h3 k hk
      rw [e1,Jk h4 (D4 Ej rfl)]
      generalize hL:(rwS P R c i d).1.getD m0 0=L0
      by_cases a:k < m0
      · rw [if_pos (by omega),if_pos (by omega),gl k hk,if_pos a,Ej,hL,Jj rfl Ej]
        congr 1
        rw [Int.sub_mul,Int.zero_mul]; omega
      · by_cases b:k=m0
        · subst b
          rw [if_pos (by omega),if_neg (by omega),hL]
          have h5:=H.c1 k hmr
          have:(0 - L0) * ccC c (rwC c k) k % P=(0 - L0) * 1 % P:=D4 rfl (h5.trans (Int.emod_eq_of_lt (by decide) (by have:=hp.1; omega)).symm)
          rw [Jk rfl this]
          congr 1
          omega
        · rw [if_neg (by omega),if_neg (by omega),Int.zero_add,N4 (H.cz k hk _ (H.rinc m0 k (by omega) hk))]; rfl
end
end Go.Proofs.Ythnfphgjfpcpbaa.TM
namespace Go.Proofs.Ythnfphgjfpcpbaa.TM
open Go Go.RowKit
theorem Rg {p:Int} {R C:Nat} {l x:List Int} (hl:l.length=R * C) (hx:x.length=C) {i:Nat} (hi:i < R):(Ea p R C l x).getD i 0=apX C (cl C l) (fun j => x.getD j 0) i % p:=O0 hl hx hi
theorem in_mod {p a:Int} (h:In p a):a % p=a:=Int.emod_eq_of_lt h.1 h.2
theorem Io {a b:List Int} {n:Nat} (ha:a.length=n) (hb:b.length=n) (h:∀ i,i < n → a.getD i 0=b.getD i 0):a=b:=by
  rw [Mr ha,Mr hb]; exact F2 h
section
variable {P R C:Nat} {l b:List Int}
theorem Ol {c:Cy} (hw:CupW P R C c) {i:Nat}:(i:Int) ∈ c.1 ↔ ∃ k,k < c.1.length ∧ rwC c k=i:=by
  constructor
  · intro h
    obtain ⟨k,hk,e⟩:=List.getElem_of_mem h
    refine ⟨k,hk,?_⟩
    unfold rwC
    rw [List.getD_eq_getElem?_getD,List.getElem?_eq_getElem hk,e]; rfl
  · rintro ⟨k,hk,e⟩
    have h1:c.1.getD k 0 ∈ c.1:=C0 hk
    have h2:=hw.rb _ h1
    unfold rwC at e
    rw [show (i:Int)=c.1.getD k 0 by omega]
    exact h1
theorem Hg {c:Cy} (hw:CupW P R C c) {i:Nat}:(i:Int) ∈ c.2.1 ↔ ∃ k,k < c.1.length ∧ cwC c k=i:=by
  constructor
  · intro h
    obtain ⟨k,hk,e⟩:=List.getElem_of_mem h
    refine ⟨k,by rw [← hw.ql]; exact hk,?_⟩
    unfold cwC
    rw [List.getD_eq_getElem?_getD,List.getElem?_eq_getElem hk,e]; rfl
  · rintro ⟨k,hk,e⟩
    have h1:c.2.1.getD k 0 ∈ c.2.1:=C0 (by rw [hw.ql]; exact hk)
    have h2:=hw.qb _ h1
    unfold cwC at e
    rw [show (i:Int)=c.2.1.getD k 0 by omega]
    exact h1
theorem Ac8 (hP:Prm P) (M:Mt P R C l) (hin:∀ a ∈ l,In P a) (b:List Int):∀ k,k < (Bf P C R l).1.length → apX C (cl C l) (fun j => (En P C (Bf P C R l) b).getD j 0) (rwC (Bf P C R l) k) % P=b.getD (rwC (Bf P C R l) k) 0 % P:=by
  have H:=Ff hP M hin
  have hw:=Dx hP M hin
  intro k hk
  rw [H.ap (H.rlt k hk),← Aj1 hP H b k hk]
  refine Dn fun m hm => D4 rfl ?_
  exact (Gz hP M.hp hw H _ (D8 C) _ (Nat.le_refl _)).2 m (by omega) hm
theorem Up (hP:Prm P) (M:Mt P R C l) (hin:∀ a ∈ l,In P a) (b:List Int):∀ j,j < C → (∀ k,k < (Bf P C R l).1.length → j ≠ cwC (Bf P C R l) k) → (En P C (Bf P C R l) b).getD j 0=0:=fun j hj hn => by
  have:=(Gz hP M.hp (Dx hP M hin) (Ff hP M hin) (hlL P (Bf P C R l) b (Bf P C R l).1.length) (D8 C) _ (Nat.le_refl _)).1 j hj hn
  rw [show (En P C (Bf P C R l) b).getD j 0=_ from this]
  exact Ct _ hj
structure RowV (P R C:Nat) (l:List Int) (c:Cy) (i:Nat) (y:List Int):Prop where
  len:y.length=R
  inn:∀ a ∈ y,In P a
  one:y.getD i 0=1
  sup:∀ m,m < R → m ≠ i → (∀ k,k < c.1.length → m ≠ rwC c k) → y.getD m 0=0
  zero:∀ j,j < C → B8 R (fun m => y.getD m 0 * cl C l m j) % P=0
theorem Ha (hP:Prm P) (M:Mt P R C l) (hin:∀ a ∈ l,In P a) {i:Nat} (hi:i < R) (hn:(i:Int) ∉ (Bf P C R l).1):RowV P R C l (Bf P C R l) i (Dc P R (Bf P C R l) i):=by
  have H:=Ff hP M hin
  have hw:=Dx hP M hin
  obtain ⟨h1,h2,h3⟩:=Zt hP M.hp hw H hi (fun k hk e => hn ((Ol hw).2 ⟨k,hk,e⟩)) _ (Nat.le_refl _)
  refine ⟨Mz hw hi,O9 M.hp hw hi,h2,fun m hm he hk => h1 m hm he fun k _ hk' => hk k hk',fun j hj => ?_⟩
  have e:B8 R (fun m => (Dc P R (Bf P C R l) i).getD m 0 * cl C l m j) % P=B8 (Bf P C R l).1.length (fun k => B8 R (fun m => (Dc P R (Bf P C R l) i).getD m 0 * ccC (Bf P C R l) m k) * uuC (Bf P C R l) k j) % P:=by
    rw [Dn fun m hm => D4 (rfl:(Dc P R (Bf P C R l) i).getD m 0 % P=_) (H.made m hm j hj)]
    congr 1
    rw [By fun m _ => (G8 _ ((Dc P R (Bf P C R l) i).getD m 0) (fun k => ccC (Bf P C R l) m k * uuC (Bf P C R l) k j)).symm,If]
    refine By fun k _ => ?_
    rw [← Mv]
    exact By fun m _ => by rw [Int.mul_assoc]
  rw [e]
  refine W7 fun k hk => Qx ?_
  have:=h3 k hk
  rw [if_neg (by omega)] at this
  exact this
theorem RowV.left {c:Cy} {i:Nat} {y:List Int} (hp:Md P) (V:RowV P R C l c i y) (hl:l.length=R * C):Z4 P y R C l=Er C :=
  Io (Ah7 ..) (D8 C) fun k hk => by rw [Ah8 V.len hk,V.zero k hk]; exact (show (Er C).getD k 0=0 from Ct _ hk).symm
theorem P1 {rws:List Int} {S:Nat → Bool} {R:Nat}:(Jt rws S R=none ∧ ∀ i,i < R → (i:Int) ∉ rws → S i=false) ∨ ∃ i,Jt rws S R=some i ∧ i < R ∧ (i:Int) ∉ rws ∧ S i=true:=by
  unfold Jt
  cases h:(List.range R).find? (fun i:Nat => !decide ((i:Int) ∈ rws) && S i) with
  | none =>
    refine .inl ⟨rfl,fun i hi hn => ?_⟩
    have:=List.find?_eq_none.1 h i (List.mem_range.2 hi)
    simpa [hn] using this
  | some i =>
    have h1:=List.find?_some h
    have h2:=List.mem_range.1 (List.mem_of_find?_eq_some h)
    simp at h1
    exact .inr ⟨i,rfl,h2,h1.1,h1.2⟩
end
end Go.Proofs.Ythnfphgjfpcpbaa.TM
namespace Go.Proofs.Ythnfphgjfpcpbaa.TM
open Go Go.RowKit
attribute [local irreducible] K W Dg Effs Xg Xo Xr Xdg Xdo Xdr Xif CallsP CallR
theorem prm7:Prm 7:=⟨by decide,fun a h0 h1 => by
  have:a=1 ∨ a=2 ∨ a=3 ∨ a=4 ∨ a=5 ∨ a=6:=by omega
  rcases this with rfl|rfl|rfl|rfl|rfl|rfl <;> decide⟩
set_option maxHeartbeats 4000000 in
set_option maxRecDepth 100000 in
theorem Tz:CallsP Try.prog 13 [] (bl true):=by
  have M:Mt ((7:Nat):Int) 2 2 [1,2,2,4]:=⟨⟨by decide,by decide⟩,by decide,by decide,by decide,by decide,by decide,by decide⟩
  have hi:∀ a ∈ [1,2,2,4],In ((7:Nat):Int) a:=by show ∀ x ∈ _,0 ≤ x ∧ x < _; decide
  have M1:Mt ((7:Nat):Int) 1 1 [3]:=⟨⟨by decide,by decide⟩,by decide,by decide,by decide,by decide,by decide,by decide⟩
  have hi1:∀ a ∈ [3],In ((7:Nat):Int) a:=by show ∀ x ∈ _,0 ≤ x ∧ x < _; decide
  have b1:∀ a ∈ [1,2],In ((7:Nat):Int) a:=by show ∀ x ∈ _,0 ≤ x ∧ x < _; decide
  have b2:∀ a ∈ [1,3],In ((7:Nat):Int) a:=by show ∀ x ∈ _,0 ≤ x ∧ x < _; decide
  have d1:=Rl prm7 M hi b1 rfl
  have d2:=Mn prm7 M hi b2 rfl
  have d3:=Nw prm7 M hi
  have d4:=R6 prm7 M hi
  have d5:=Rt prm7 M hi 1
  have d6:=Tq prm7 M1 hi1 (by decide +kernel)
  rw [if_pos (by decide +kernel),show En ((7:Nat):Int) 2 (Bf ((7:Nat):Int) 2 2 [1,2,2,4]) [1,2]=[1,0] by decide +kernel] at d1
  rw [show Kc ((7:Nat):Int) 2 (Bf ((7:Nat):Int) 2 2 [1,2,2,4]) (fun y => Gh ((7:Nat):Int) y [1,3])=([5,1],0) by decide +kernel] at d2
  rw [show Ip ((7:Nat):Int) 2 (Bf ((7:Nat):Int) 2 2 [1,2,2,4])=([5,1],0) by decide +kernel] at d3
  rw [show Kc ((7:Nat):Int) 2 (Bf ((7:Nat):Int) 2 2 [1,2,2,4]) (fun _ => true)=([5,1],0) by decide +kernel] at d4
  rw [if_neg (by decide),if_neg (by decide +kernel),show Dc ((7:Nat):Int) 2 (Bf ((7:Nat):Int) 2 2 [1,2,2,4]) (Int.toNat 1)=[5,1] by decide +kernel] at d5
  rw [show Ee 1 1 (Lk ((7:Nat):Int) 1 (Bf ((7:Nat):Int) 1 1 [3]) 1)=[5] by decide +kernel] at d6
  have d7:=Ih [1,0] [1,0] (by decide)
  have d8:=Ih [5,1] [5,1] (by decide)
  have d9:=Ih [5] [5] (by decide)
  rw [decide_eq_true rfl] at d7 d8 d9
  refine Bj (n:=102) (m:=0) (rs:=[.tmp 0]) Try.func13 rfl rfl rfl rfl (by decide) fun base => ?_
  repeat (first|((first|refine Bd rfl (by simp only [tys]) ?_|refine Bc rfl (by simp only [tys]) ?_); apply Exists.intro; apply And.intro; (focus (simp -dsimp only [simx,zzC,zzB,tys,ite_self,A8,A2,Ax,Aq,Ao,At,Az,Ac,A5,PV.sk,Ai,Ar,As,Ap,Ay,Ab,Aj,Am,A9,Value.oneCell',Ah,Ba,Aw,A4,A1,Al,An,Ae,Ak,isZ,A6,A3,Ad,Aa,Ag,A0,Af,↓reduceIte,reduceSub,reduceEqDiff,reduceAdd,reduceMul,reduceLT,reduceLeDiff,reduceToNat,reduceLE,Int.reduceLT,reduceNeg,reduceCtorEq,zzL,if_true,if_false] <;> rfl)); apply Exists.intro; apply And.intro; (focus (first|exact d1|exact d2|exact d3|exact d4|exact d5|exact d6|exact d7|exact d8|exact d9)))|refine Bg rfl ?_|refine Bb rfl ?_|refine ⟨(dxX (by kernel_rfl)),?_⟩|exact (dxX (by kernel_rfl))|simp -dsimp (maxSteps:=20000000) (disch:=omega) only [simx,zzC,zzB,tys,ite_self,A8,A2,Ax,Aq,Ao,At,Az,Ac,A5,PV.sk,Ai,Ar,As,Ap,Ay,Ab,Aj,Am,A9,Value.oneCell',Ah,Ba,Aw,A4,A1,Al,An,Ae,Ak,isZ,A6,A3,Ad,Aa,Ag,A0,Af,↓reduceIte,reduceSub,reduceEqDiff,reduceAdd,reduceMul,reduceLT,reduceLeDiff,reduceToNat,reduceLE,Int.reduceLT,reduceNeg,reduceCtorEq,zzR,gos,Int.reduceAdd,Int.reduceSub,Int.reduceMul,reduceEq])
theorem Vb (p:Nat) (hp:p < 18446744073709551616):∃ b,CallsP Try.prog 14 [u64 p] (bl b) ∧ (b=true → Prm p):=by
  by_cases c1:(p:Int)=2147483647
  · refine ⟨true, ?_, fun _ => by obtain rfl : p = 2147483647 := by omega
                                  exact prm31⟩
    refine Bj (n:=17) (m:=1) (rs:=[.tmp 2]) Try.func14 rfl rfl rfl rfl (by decide) fun base => ?_
    repeat (first|refine Bg rfl ?_|refine Bb rfl ?_|refine ⟨(dxX (by kernel_rfl)),?_⟩|exact (dxX (by kernel_rfl))|simp -dsimp (maxSteps:=20000000) (disch:=omega) only [simx,zzC,zzB,tys,ite_self,A8,A2,Ax,Aq,Ao,At,Az,Ac,A5,PV.sk,Ai,Ar,As,Ap,Ay,Ab,Aj,Am,A9,Value.oneCell',Ah,Ba,Aw,A4,A1,Al,An,Ae,Ak,isZ,A6,A3,Ad,Aa,Ag,A0,Af,↓reduceIte,reduceSub,reduceEqDiff,reduceAdd,reduceMul,reduceLT,reduceLeDiff,reduceToNat,reduceLE,Int.reduceLT,reduceNeg,reduceCtorEq,zzR,gos,Int.reduceAdd,Int.reduceSub,Int.reduceMul,reduceEq])
  by_cases c2:(p:Int)=2305843009213693951
  · refine ⟨true, ?_, fun _ => by obtain rfl : p = 2305843009213693951 := by omega
                                  exact prm61⟩
    refine Bj (n:=17) (m:=1) (rs:=[.tmp 2]) Try.func14 rfl rfl rfl rfl (by decide) fun base => ?_
    repeat (first|refine Bg rfl ?_|refine Bb rfl ?_|refine ⟨(dxX (by kernel_rfl)),?_⟩|exact (dxX (by kernel_rfl))|simp -dsimp (maxSteps:=20000000) (disch:=omega) only [simx,zzC,zzB,tys,ite_self,A8,A2,Ax,Aq,Ao,At,Az,Ac,A5,PV.sk,Ai,Ar,As,Ap,Ay,Ab,Aj,Am,A9,Value.oneCell',Ah,Ba,Aw,A4,A1,Al,An,Ae,Ak,isZ,A6,A3,Ad,Aa,Ag,A0,Af,↓reduceIte,reduceSub,reduceEqDiff,reduceAdd,reduceMul,reduceLT,reduceLeDiff,reduceToNat,reduceLE,Int.reduceLT,reduceNeg,reduceCtorEq,zzR,gos,Int.reduceAdd,Int.reduceSub,Int.reduceMul,reduceEq])
  by_cases c3:(p:Int) < 1048576
  · obtain ⟨b,d,h⟩:=Bb1 p (by omega)
    refine ⟨b,?_,h⟩
    refine Bj (n:=17) (m:=1) (rs:=[.tmp 2]) Try.func14 rfl rfl rfl rfl (by decide) fun base => ?_
    repeat (first|((first|refine Bd rfl (by simp only [tys]) ?_|refine Bc rfl (by simp only [tys]) ?_); apply Exists.intro; apply And.intro; (focus (simp -dsimp only [simx,zzC,zzB,tys,ite_self,A8,A2,Ax,Aq,Ao,At,Az,Ac,A5,PV.sk,Ai,Ar,As,Ap,Ay,Ab,Aj,Am,A9,Value.oneCell',Ah,Ba,Aw,A4,A1,Al,An,Ae,Ak,isZ,A6,A3,Ad,Aa,Ag,A0,Af,↓reduceIte,reduceSub,reduceEqDiff,reduceAdd,reduceMul,reduceLT,reduceLeDiff,reduceToNat,reduceLE,Int.reduceLT,reduceNeg,reduceCtorEq,zzL,if_true,if_false] <;> rfl)); apply Exists.intro; apply And.intro; (focus (first|exact d)))|refine Bg rfl ?_|refine Bb rfl ?_|refine ⟨(dxX (by kernel_rfl)),?_⟩|exact (dxX (by kernel_rfl))|simp -dsimp (maxSteps:=20000000) (disch:=omega) only [simx,zzC,zzB,tys,ite_self,A8,A2,Ax,Aq,Ao,At,Az,Ac,A5,PV.sk,Ai,Ar,As,Ap,Ay,Ab,Aj,Am,A9,Value.oneCell',Ah,Ba,Aw,A4,A1,Al,An,Ae,Ak,isZ,A6,A3,Ad,Aa,Ag,A0,Af,↓reduceIte,reduceSub,reduceEqDiff,reduceAdd,reduceMul,reduceLT,reduceLeDiff,reduceToNat,reduceLE,Int.reduceLT,reduceNeg,reduceCtorEq,zzR,gos,Int.reduceAdd,Int.reduceSub,Int.reduceMul,reduceEq])
  · refine ⟨false,?_,fun h => by cases h⟩
    refine Bj (n:=17) (m:=1) (rs:=[.tmp 2]) Try.func14 rfl rfl rfl rfl (by decide) fun base => ?_
    repeat (first|refine Bg rfl ?_|refine Bb rfl ?_|refine ⟨(dxX (by kernel_rfl)),?_⟩|exact (dxX (by kernel_rfl))|simp -dsimp (maxSteps:=20000000) (disch:=omega) only [simx,zzC,zzB,tys,ite_self,A8,A2,Ax,Aq,Ao,At,Az,Ac,A5,PV.sk,Ai,Ar,As,Ap,Ay,Ab,Aj,Am,A9,Value.oneCell',Ah,Ba,Aw,A4,A1,Al,An,Ae,Ak,isZ,A6,A3,Ad,Aa,Ag,A0,Af,↓reduceIte,reduceSub,reduceEqDiff,reduceAdd,reduceMul,reduceLT,reduceLeDiff,reduceToNat,reduceLE,Int.reduceLT,reduceNeg,reduceCtorEq,zzR,gos,Int.reduceAdd,Int.reduceSub,Int.reduceMul,reduceEq])
end Go.Proofs.Ythnfphgjfpcpbaa.TM
namespace Go.Proofs.Ythnfphgjfpcpbaa.TM
open Go Go.RowKit
attribute [local irreducible] K W Dg Effs Xg Xo Xr Xdg Xdo Xdr Xif CallsP CallR
theorem Rb {P:Int} (hp:Md P) {l:List Int} (h:∀ a ∈ l,In P a):W64s l:=fun a ha => I9 hp (h a ha)
theorem L1 (a:List Int) (hl:a.length ≤ maxLen):CallsP Try.prog 24 [lu a,lu a] (bl true):=by
  have h:=Ih a a hl; rw [decide_eq_true rfl] at h; exact h
end Go.Proofs.Ythnfphgjfpcpbaa.TM
namespace Go.Proofs.Ythnfphgjfpcpbaa.TM
open Go Go.RowKit
section
variable {P R C:Nat} {l b:List Int}
theorem CpC.rle_c {A:Mx} {c:Cy} (H:CpC P R C A c):c.1.length ≤ C :=
  pigeon C c.1.length (cwC c) (fun i hi => H.clt i hi) (fun i j hij hj he => by have:=H.cdis (by omega) hj he; omega)
theorem Aj5 {c:Cy} (hw:CupW P R C c) {A:Mx} (H:CpC P R C A c) (h:∀ j,j < C → (j:Int) ∈ c.2.1):c.1.length=C:=by
  refine Nat.le_antisymm H.rle_c ?_
  have hs:∀ j,j < C → ∃ k,k < c.1.length ∧ cwC c k=j:=fun j hj => (Hg hw).1 (h j hj)
  exact pigeon c.1.length C (fun j => if h:∃ k,k < c.1.length ∧ cwC c k=j then Classical.choose h else 0) (fun j hj => by
    simp only [dif_pos (hs j hj)]; exact (Classical.choose_spec (hs j hj)).1) (fun i j hij hj he => by
    simp only [dif_pos (hs i (by omega)),dif_pos (hs j hj)] at he
    have h1:=(Classical.choose_spec (hs i (by omega))).2
    have h2:=(Classical.choose_spec (hs j hj)).2
    rw [he,h2] at h1; omega)
theorem Aj4 {c:Cy} (hw:CupW P R C c) {A:Mx} (H:CpC P R C A c) {f:Nat} (hf:f < C) (h:(f:Int) ∉ c.2.1):c.1.length < C:=by
  refine pigeon C (c.1.length + 1) (fun i => if i < c.1.length then cwC c i else f) (fun i hi => ?_) (fun i j hij hj he => ?_)
  · (try dsimp only)
    split
    · exact H.clt i (by assumption)
    · exact hf
  · (try dsimp only at he)
    rw [if_pos (by omega)] at he
    by_cases e:j < c.1.length
    · rw [if_pos e] at he
      have:=H.cdis (by omega) e he; omega
    · rw [if_neg e] at he
      exact h ((Hg hw).2 ⟨i,by omega,he⟩)
theorem Ma (c:Cy) (f:Nat):(Gl P C c f).length=C:=Kr (Fw C f) _
theorem Z7 (hp:Md P) (c:Cy) (f:Nat):∀ a ∈ Gl P C c f,In P a:=Sy hp (Oe hp C f) (Fw C f) _
theorem As4 (hP:Prm P) (M:Mt P R C l) (hin:∀ a ∈ l,In P a) {f:Nat} (hf:f < C) (h:(f:Int) ∉ (Bf P C R l).2.1):(Gl P C (Bf P C R l) f).getD f 0=1:=by
  have hw:=Dx hP M hin
  have:=(Gz hP M.hp hw (Ff hP M hin) (Er (Bf P C R l).1.length) (Fw C f) _ (Nat.le_refl _)).1 f hf fun k hk e => h ((Hg hw).2 ⟨k,hk,e.symm⟩)
  rw [show (Gl P C (Bf P C R l) f).getD f 0=_ from this]
  rw [show (Jv C f).getD f 0=_ from Ct _ hf,if_pos rfl]
theorem Kn {n i:Nat} (h:i < n):(Er n).getD i 0=0:=Ct _ h
theorem R7 (hP:Prm P) (M:Mt P R C l) (hin:∀ a ∈ l,In P a) (f:Nat):Ea P R C l (Gl P C (Bf P C R l) f)=Er R:=by
  have H:=Ff hP M hin
  refine Io (G6 ..) (D8 R) fun i hi => ?_
  rw [Rg M.len (Ma ..) hi,Kn hi]
  refine H.ker.2 (fun k hk => ?_) i hi
  have:=(Gz hP M.hp (Dx hP M hin) H (Er (Bf P C R l).1.length) (Fw C f) _ (Nat.le_refl _)).2 k (by omega) hk
  rw [Kn hk] at this
  exact this
theorem Yd (hP : Prm P) (M : Mt P R C l) (hin : ∀ a ∈ l, In P a) : (Ip P C (Bf P C R l) = ([], 6) ∧ (Bf P C R l).1.length = C) ∨
    ∃ x,Ip P C (Bf P C R l)=(x,0) ∧ (Bf P C R l).1.length < C ∧ x.length=C ∧ (∀ a ∈ x,In P a) ∧ Ea P R C l x=Er R ∧ x ≠ Er C:=by
  have hw:=Dx hP M hin
  have H:=Ff hP M hin
  rcases P1 (rws:=(Bf P C R l).2.1) (S:=fun _ => true) (R:=C) with ⟨e,h⟩|⟨f,e,h1,h2,_⟩
  · refine .inl ⟨by unfold Ip V9; rw [e],Aj5 hw H fun j hj => Classical.byContradiction fun hn => by have:=h j hj hn; cases this⟩
  · refine .inr ⟨Gl P C (Bf P C R l) f,by unfold Ip V9; rw [e],Aj4 hw H h1 h2,Ma _ f,Z7 M.hp _ f,R7 hP M hin f,fun e => ?_⟩
    have h3:=As4 hP M hin h1 h2
    rw [e,Kn h1] at h3
    cases h3
end
end Go.Proofs.Ythnfphgjfpcpbaa.TM
namespace Go.Proofs.Ythnfphgjfpcpbaa.TM
open Go Go.RowKit
theorem Wp {P : Program} {C : B9} {h0 : Heap} {base : Name} {Qf : Ex → List PV → Heap → Prop} {k : List It} {t : List PV} {h : Heap} {d : Option Tmp} {p : Op} {nm : Name} {id : Nat} {ops : Array Oper} {ds : List (Option Tmp)} {i : Nat} {os : List Oper} {pf : XPf ops ds i os} {acc : List Keys} {s b : Name} {ty : TypeId} (e : TypeId) (zs : List Value) {n m : Nat} {cs : List IV} (xs : List IV)
    (he:Bw P ty=some e) (hz:B6 P e=some zs) (hzl:zs.length=1) (hb:h b=some (.row false cs)) (hl:cs.length=n) (hm:0 < m) (hx:xs.length=m)
    (hby:(n + m) * P.bytesOf e ≤ 140737488355328) (hmx:n + m ≤ maxLen)
    (hk:K P C h0 base Qf (.xdops id ops ds i os pf ((Et [(b,Box.row false (cs ++ xs))],J9 nm p ((A8 p).map (St.opnd t)))::acc)::k) .normal (Cx t d (.view b 0 1 (n + m) (n + m))) (h.put b (.row false (cs ++ xs)))) :
    Xdr P C h0 base Qf (Do P h s ty (.view b 0 1 n n) (.i (.l m xs))) d p nm (mkD id ops ds i os pf) acc k t h:=by
  refine Yy (out:=⟨.view b 0 1 (n + m) (n + m),[(b,.row false (cs ++ xs))]⟩) ?_ hk
  have h1:¬ m=0:=by omega
  subst hl
  simp only [Do,he,hz,hzl,PV.sk,SK.cells,SK.len,hx,hb,Nat.mul_one,if_true,h1,if_false,hby,hmx,Nat.zero_lt_one,and_self,true_and,List.length_append]
end Go.Proofs.Ythnfphgjfpcpbaa.TM
namespace Go.Proofs.Ythnfphgjfpcpbaa.TM
open Go Go.RowKit
attribute [local irreducible] K W Dg Effs Xg Xo Xr Xdg Xdo Xdr Xif CallsP CallR
theorem P5 (l:List Int) (a:Int) (hl:l.length ≤ maxLen):CallsP Try.prog 72 [li l,i64 a] (i64 (Hj a l 0)):=by
  rw [B3] at hl
  refine Bj (n:=19) (m:=2) (rs:=[.tmp 4]) Try.func72 rfl rfl rfl rfl (by decide) fun base => ?_
  repeat (first|refine Bg rfl ?_|refine Bb rfl ?_|refine ⟨(dxX (by kernel_rfl)),?_⟩|exact (dxX (by kernel_rfl))|simp -dsimp (maxSteps:=20000000) (disch:=omega) only [simx,zzC,zzB,tys,ite_self,A8,A2,Ax,Aq,Ao,At,Az,Ac,A5,PV.sk,Ai,Ar,As,Ap,Ay,Ab,Aj,Am,A9,Value.oneCell',Ah,Ba,Aw,A4,A1,Al,An,Ae,Ak,isZ,A6,A3,Ad,Aa,Ag,A0,Af,↓reduceIte,reduceSub,reduceEqDiff,reduceAdd,reduceMul,reduceLT,reduceLeDiff,reduceToNat,reduceLE,Int.reduceLT,reduceNeg,reduceCtorEq,gos,Int.reduceAdd,Int.reduceSub,Int.reduceMul,reduceEq])
  refine B5 [0,1,5] [] (0) (l.length) (fun j => Hj a (l.drop j) j=Hj a l 0) (fun j => [(5,i64 j)]) (fun j => Heap.none) ?_ ?_ ?_ ?_ ?_ (by decide) ?_
  · exact (Bl)
  · ((simp -dsimp (disch:=omega) only [simx,zzB,tys,ite_self,A8,A2,Ax,Aq,Ao,At,Az,Ac,A5,PV.sk,Ai,Ar,As,Ap,Ay,Ab,Aj,Am,A9,Value.oneCell',Ah,Ba,Aw,A4,A1,Al,An,Ae,Ak,isZ,A6,A3,Ad,Aa,Ag,A0,Af,↓reduceIte,reduceSub,reduceEqDiff,reduceAdd,reduceMul,reduceLT,reduceLeDiff,reduceToNat,reduceLE,Int.reduceLT,reduceNeg,reduceCtorEq,gos,Int.reduceAdd,Int.reduceSub,Int.reduceMul,reduceEq]) <;> first|rfl|simp)
  · exact drop_nil _
  · omega
  · rfl
  · intro j hj hf
    by_cases c:j < l.length
    · have g1:l[j]?=some l[j]:=List.getElem?_eq_getElem c
      rw [List.drop_eq_getElem_cons c,Hj] at hf
      generalize l[j]=x at g1 hf
      by_cases e:a=x
      · rw [if_pos e] at hf
        subst e
        rw [← hf]
        repeat (first|refine Bg rfl ?_|refine Bb rfl ?_|refine ⟨(dxX (by kernel_rfl)),?_⟩|exact (dxX (by kernel_rfl))|simp -dsimp (maxSteps:=20000000) (disch:=omega) only [simx,zzC,zzB,tys,ite_self,A8,A2,Ax,Aq,Ao,At,Az,Ac,A5,PV.sk,Ai,Ar,As,Ap,Ay,Ab,Aj,Am,A9,Value.oneCell',Ah,Ba,Aw,A4,A1,Al,An,Ae,Ak,isZ,A6,A3,Ad,Aa,Ag,A0,Af,↓reduceIte,reduceSub,reduceEqDiff,reduceAdd,reduceMul,reduceLT,reduceLeDiff,reduceToNat,reduceLE,Int.reduceLT,reduceNeg,reduceCtorEq,zzR,gos,Int.reduceAdd,Int.reduceSub,Int.reduceMul,reduceEq,c,g1])
      · rw [if_neg e] at hf
        have e':¬ x=a:=fun h => e h.symm
        repeat (first|refine Bg rfl ?_|refine Bb rfl ?_|refine ⟨(dxX (by kernel_rfl)),?_⟩|exact (dxX (by kernel_rfl))|simp -dsimp (maxSteps:=20000000) (disch:=omega) only [simx,zzC,zzB,tys,ite_self,A8,A2,Ax,Aq,Ao,At,Az,Ac,A5,PV.sk,Ai,Ar,As,Ap,Ay,Ab,Aj,Am,A9,Value.oneCell',Ah,Ba,Aw,A4,A1,Al,An,Ae,Ak,isZ,A6,A3,Ad,Aa,Ag,A0,Af,↓reduceIte,reduceSub,reduceEqDiff,reduceAdd,reduceMul,reduceLT,reduceLeDiff,reduceToNat,reduceLE,Int.reduceLT,reduceNeg,reduceCtorEq,gos,Int.reduceAdd,Int.reduceSub,Int.reduceMul,reduceEq,c,g1,e'])
        exact ⟨c,(Bl),hf,rfl,drop_nil _⟩
    · have hj:j=l.length:=by omega
      subst hj
      rw [List.drop_length,Hj] at hf
      rw [← hf]
      repeat (first|refine Bg rfl ?_|refine Bb rfl ?_|refine ⟨(dxX (by kernel_rfl)),?_⟩|exact (dxX (by kernel_rfl))|simp -dsimp (maxSteps:=20000000) (disch:=omega) only [simx,zzC,zzB,tys,ite_self,A8,A2,Ax,Aq,Ao,At,Az,Ac,A5,PV.sk,Ai,Ar,As,Ap,Ay,Ab,Aj,Am,A9,Value.oneCell',Ah,Ba,Aw,A4,A1,Al,An,Ae,Ak,isZ,A6,A3,Ad,Aa,Ag,A0,Af,↓reduceIte,reduceSub,reduceEqDiff,reduceAdd,reduceMul,reduceLT,reduceLeDiff,reduceToNat,reduceLE,Int.reduceLT,reduceNeg,reduceCtorEq,zzR,gos,Int.reduceAdd,Int.reduceSub,Int.reduceMul,reduceEq])
def Ev (C:Nat) (l:List Int) (c:Cy):List Int:=tbl (c.1.length * c.1.length) (fun q => cl C l (rwC c (q / c.1.length)) (cwC c (q % c.1.length)))
theorem Iv (C:Nat) (l:List Int) (c:Cy):(Ev C l c).length=c.1.length * c.1.length:=Ca ..
theorem Ki {C:Nat} {l:List Int} {c:Cy} {i j:Nat} (hi:i < c.1.length) (hj:j < c.1.length):cl c.1.length (Ev C l c) i j=cl C l (rwC c i) (cwC c j):=by
  unfold Ev
  rw [Tw _ hi hj,Lm hj,Nc hj]
section
variable {p:Int} {R C:Nat} {l:List Int} {c:Cy}
theorem Rr (hw:CupW p R C c) {k:Nat} (hk:k < c.1.length):(c.1.map ii)[k]?=some (ii (rwC c k:Int)) ∧ rwC c k < R:=by
  have h:=hw.rb _ (C0 (l:=c.1) (d:=0) hk)
  rw [List.getElem?_map,D3 (d:=0) hk]
  unfold rwC
  exact ⟨by show some (ii _)=_; congr 2; omega,by omega⟩
theorem We (hw:CupW p R C c) {k:Nat} (hk:k < c.1.length):(c.2.1.map ii)[k]?=some (ii (cwC c k:Int)) ∧ cwC c k < C:=by
  have hk':k < c.2.1.length:=by rw [hw.ql]; exact hk
  have h:=hw.qb _ (C0 (l:=c.2.1) (d:=0) hk')
  rw [List.getElem?_map,D3 (d:=0) hk']
  unfold cwC
  exact ⟨by show some (ii _)=_; congr 2; omega,by omega⟩
end
set_option maxHeartbeats 8000000 in
theorem Nd {p:Int} {R C:Nat} {l:List Int} {c:Cy} (M:Mt p R C l) (hw:CupW p R C c):CallsP Try.prog 69 [C3 R C l,Yn c] (C3 (c.1.length:Int) (c.1.length:Int) (Ev C l c)):=by
  have r2:=M.r2
  have rle:=hw.rle
  have ql:=hw.ql
  have ra:=fun k hk => Rr hw (k:=k) hk
  have qa:=fun k hk => We hw (k:=k) hk
  have lm:=Iv C l c
  have cell:∀ i j,i < c.1.length → j < c.1.length → (Ev C l c).getD (i * c.1.length + j) 0=l.getD (rwC c i * C + cwC c j) 0:=fun i j hi hj => Ki hi hj
  generalize Ev C l c=o at lm cell ⊢
  generalize rwC c=S at ra cell
  generalize cwC c=Q at qa cell
  clear hw
  obtain ⟨rws,cls,cc,uu⟩:=c
  simp only at rle ql ra qa lm cell ⊢
  obtain ⟨r,hr⟩:∃ r,r=rws.length:=⟨_,rfl⟩
  rw [← hr] at rle ql ra qa lm cell ⊢
  have bd:r * r ≤ 64 * 64:=Nat.mul_le_mul (by omega) (by omega)
  have hr':=hr.symm
  refine Bj (n:=47) (m:=2) (rs:=[.cell 4 25]) Try.func69 rfl rfl rfl rfl (by decide) fun base => ?_
  repeat (first|refine Bg rfl ?_|refine Bb rfl ?_|refine ⟨(dxX (by kernel_rfl)),?_⟩|exact (dxX (by kernel_rfl))|simp -dsimp (maxSteps:=20000000) (disch:=omega) only [simx,zzC,zzB,tys,ite_self,A8,A2,Ax,Aq,Ao,At,Az,Ac,A5,PV.sk,Ai,Ar,As,Ap,Ay,Ab,Aj,Am,A9,Value.oneCell',Ah,Ba,Aw,A4,A1,Al,An,Ae,Ak,isZ,A6,A3,Ad,Aa,Ag,A0,Af,↓reduceIte,reduceSub,reduceEqDiff,reduceAdd,reduceMul,reduceLT,reduceLeDiff,reduceToNat,reduceLE,Int.reduceLT,reduceNeg,reduceCtorEq,gos,Int.reduceAdd,Int.reduceSub,Int.reduceMul,reduceEq,SK.len,ql,hr',List.length_map])
  refine B5 [2,3,4,5,6] [] (0) (r) (fun j => True) (fun j => [(6,i64 j)]) (fun j => C9 ((((Heap.none.put ((0,0)::base) (.var [i64 R,i64 C,lu l])).put ((0,1)::base) (.var [li rws,li cls,llP cc,llP uu])).put ((0,2)::base) (.var [i64 0,i64 0,Dk])).put ((1,7)::base) (.var [i64 r,i64 r,rowP ((8,15)::base) 1 (j * r) ((o.take (j * r)).map iu)])) ((8,15)::base) (j * r) ((o.take (j * r)).map iu)) ?_ ?_ ?_ ?_ ?_ (by decide) ?_
  · exact (Bl)
  · ((simp -dsimp (disch:=omega) only [simx,zzB,tys,ite_self,A8,A2,Ax,Aq,Ao,At,Az,Ac,A5,PV.sk,Ai,Ar,As,Ap,Ay,Ab,Aj,Am,A9,Value.oneCell',Ah,Ba,Aw,A4,A1,Al,An,Ae,Ak,isZ,A6,A3,Ad,Aa,Ag,A0,Af,↓reduceIte,reduceSub,reduceEqDiff,reduceAdd,reduceMul,reduceLT,reduceLeDiff,reduceToNat,reduceLE,Int.reduceLT,reduceNeg,reduceCtorEq,gos,Int.reduceAdd,Int.reduceSub,Int.reduceMul,reduceEq]) <;> first|rfl|simp)
  · funext c
    simp (maxSteps:=20000000) only [Heap.drop_at,Bh,Heap.put_at,Heap.none_at,List.mem_cons,List.not_mem_nil,or_false]
    by_cases e0:c=(0,0)::base
    · subst e0; simp [rowP,hr',ql]
    by_cases e1:c=(0,1)::base
    · subst e1; simp [rowP,hr',ql]
    by_cases e2:c=(0,2)::base
    · subst e2; simp [rowP,hr',ql]
    by_cases e3:c=(1,7)::base
    · subst e3; simp [rowP,hr',ql]
    simp [e0,e1,e2,e3,rowP,hr',ql]
  · omega
  · trivial
  · intro j hj _
    by_cases cj:j < r
    · have jd:=Fb (c:=r) cj
      have g1:=ra j cj
      repeat (first|refine Bg rfl ?_|refine Bb rfl ?_|refine ⟨(dxX (by kernel_rfl)),?_⟩|exact (dxX (by kernel_rfl))|simp -dsimp (maxSteps:=20000000) (disch:=omega) only [simx,zzC,zzB,tys,ite_self,A8,A2,Ax,Aq,Ao,At,Az,Ac,A5,PV.sk,Ai,Ar,As,Ap,Ay,Ab,Aj,Am,A9,Value.oneCell',Ah,Ba,Aw,A4,A1,Al,An,Ae,Ak,isZ,A6,A3,Ad,Aa,Ag,A0,Af,↓reduceIte,reduceSub,reduceEqDiff,reduceAdd,reduceMul,reduceLT,reduceLeDiff,reduceToNat,reduceLE,Int.reduceLT,reduceNeg,reduceCtorEq,gos,Int.reduceAdd,Int.reduceSub,Int.reduceMul,reduceEq,cj,SK.len,ql,hr',List.length_map])
      refine B5 [2,3,4,5,6,7] [(8,14)::base] (0) (r) (fun j_ => True) (fun j_ => [(7,i64 j_)]) (fun j_ => C9 ((((Heap.none.put ((0,0)::base) (.var [i64 R,i64 C,lu l])).put ((0,1)::base) (.var [li rws,li cls,llP cc,llP uu])).put ((0,2)::base) (.var [i64 0,i64 0,Dk])).put ((1,7)::base) (.var [i64 r,i64 r,rowP ((8,15)::base) 1 (j * r + j_) ((o.take (j * r + j_)).map iu)])) ((8,15)::base) (j * r + j_) ((o.take (j * r + j_)).map iu)) ?_ ?_ ?_ ?_ ?_ (by decide) ?_
      · exact (Bv (by simp only [Heap.none_at]) (by (simp -dsimp only [zzB,tys,ite_self,A8,A2,Ax,Aq,Ao,At,Az,Ac,A5,PV.sk,Ai,Ar,As,Ap,Ay,Ab,Aj,Am,A9,Value.oneCell',Ah,Ba,Aw,A4,A1,Al,An,Ae,Ak,isZ,A6,A3,Ad,Aa,Ag,A0,Af,↓reduceIte,reduceSub,reduceEqDiff,reduceAdd,reduceMul,reduceLT,reduceLeDiff,reduceToNat,reduceLE,Int.reduceLT,reduceNeg,reduceCtorEq,Bm,Bo]) <;> simp [Bs,Bn,Be]) (by repeat (first|exact Bx _|refine Bp ?_|refine B4 ?_|refine Bt ?_|refine Bu ?_ (by simp [Bs,Bn,Be]))) (Bl))
      · ((simp -dsimp (disch:=omega) only [simx,zzB,tys,ite_self,A8,A2,Ax,Aq,Ao,At,Az,Ac,A5,PV.sk,Ai,Ar,As,Ap,Ay,Ab,Aj,Am,A9,Value.oneCell',Ah,Ba,Aw,A4,A1,Al,An,Ae,Ak,isZ,A6,A3,Ad,Aa,Ag,A0,Af,↓reduceIte,reduceSub,reduceEqDiff,reduceAdd,reduceMul,reduceLT,reduceLeDiff,reduceToNat,reduceLE,Int.reduceLT,reduceNeg,reduceCtorEq,gos,Int.reduceAdd,Int.reduceSub,Int.reduceMul,reduceEq]) <;> first|rfl|simp)
      · funext c
        simp (maxSteps:=20000000) only [Heap.drop_at,Bh,Heap.put_at,Heap.none_at,List.mem_cons,List.not_mem_nil,or_false]
        by_cases e0:c=(0,0)::base
        · subst e0; simp []
        by_cases e1:c=(0,1)::base
        · subst e1; simp []
        by_cases e2:c=(0,2)::base
        · subst e2; simp []
        by_cases e3:c=(1,7)::base
        · subst e3; simp []
        by_cases e4:c=(8,14)::base
        · subst e4; simp []
        simp [e0,e1,e2,e3,e4]
      · omega
      · trivial
      · intro k hk _
        by_cases ck:k < r
        · have ce:=cell j k cj ck
          have g2:=qa k ck
          have tk:=Ms (l:=o) (q:=j * r + k) (by omega)
          rw [ce] at tk
          have a1:=Kz M.len M.r2 M.c2 g1.2 g2.2
          have g3:=g1.1
          have g4:=g2.1
          generalize l.getD (S j * C + Q k) 0=v at tk a1
          have tl:((o.take (j * r + k)).map iu).length=(j * r + k) * 1:=by rw [List.length_map,List.length_take]; omega
          have nle:j * r + k ≤ 4096:=by omega
          generalize o.take (j * r + k)=acc at tk tl ⊢
          generalize hq:j * r + k=q at tk tl nle ⊢
          cases q with
          | zero =>
            obtain rfl:acc=[]:=by cases acc; rfl; simp at tl
            repeat (first|((first|refine Bd rfl (by simp only [tys]) ?_|refine Bc rfl (by simp only [tys]) ?_); apply Exists.intro; apply And.intro; (focus (simp -dsimp only [simx,zzC,zzB,tys,ite_self,A8,A2,Ax,Aq,Ao,At,Az,Ac,A5,PV.sk,Ai,Ar,As,Ap,Ay,Ab,Aj,Am,A9,Value.oneCell',Ah,Ba,Aw,A4,A1,Al,An,Ae,Ak,isZ,A6,A3,Ad,Aa,Ag,A0,Af,↓reduceIte,reduceSub,reduceEqDiff,reduceAdd,reduceMul,reduceLT,reduceLeDiff,reduceToNat,reduceLE,Int.reduceLT,reduceNeg,reduceCtorEq,zzL,if_true,if_false] <;> rfl)); apply Exists.intro; apply And.intro; (focus (first|exact a1)))|refine Bg rfl ?_|refine Bb rfl ?_|refine ⟨(dxX (by kernel_rfl)),?_⟩|exact (dxX (by kernel_rfl))|simp -dsimp (maxSteps:=20000000) (disch:=omega) only [simx,zzC,zzB,tys,ite_self,A8,A2,Ax,Aq,Ao,At,Az,Ac,A5,PV.sk,Ai,Ar,As,Ap,Ay,Ab,Aj,Am,A9,Value.oneCell',Ah,Ba,Aw,A4,A1,Al,An,Ae,Ak,isZ,A6,A3,Ad,Aa,Ag,A0,Af,↓reduceIte,reduceSub,reduceEqDiff,reduceAdd,reduceMul,reduceLT,reduceLeDiff,reduceToNat,reduceLE,Int.reduceLT,reduceNeg,reduceCtorEq,gos,Int.reduceAdd,Int.reduceSub,Int.reduceMul,reduceEq,ck,cj,g3,g4,SK.len,ql,hr',List.length_map,Co,Cn])
            refine Cg 22 [.int .u64 0] [iu v] (by simp only [tys]) (by simp only [tys]) rfl (by decide) (by simp) (by simp [Heap.put_at,Heap.none_at,Bh]) (by simp [Heap.put_at]; rfl) rfl (by simp only [tys]; omega) (by rw [B3]; omega) ?_
            repeat (first|refine Bg rfl ?_|refine Bb rfl ?_|refine ⟨(dxX (by kernel_rfl)),?_⟩|exact (dxX (by kernel_rfl))|simp -dsimp (maxSteps:=20000000) (disch:=omega) only [simx,zzC,zzB,tys,ite_self,A8,A2,Ax,Aq,Ao,At,Az,Ac,A5,PV.sk,Ai,Ar,As,Ap,Ay,Ab,Aj,Am,A9,Value.oneCell',Ah,Ba,Aw,A4,A1,Al,An,Ae,Ak,isZ,A6,A3,Ad,Aa,Ag,A0,Af,↓reduceIte,reduceSub,reduceEqDiff,reduceAdd,reduceMul,reduceLT,reduceLeDiff,reduceToNat,reduceLE,Int.reduceLT,reduceNeg,reduceCtorEq,gos,Int.reduceAdd,Int.reduceSub,Int.reduceMul,reduceEq,ck,Co,Cn,Bi])
            refine ⟨ck,(Bv (by simp only [Heap.none_at]) (by (simp -dsimp only [zzB,tys,ite_self,A8,A2,Ax,Aq,Ao,At,Az,Ac,A5,PV.sk,Ai,Ar,As,Ap,Ay,Ab,Aj,Am,A9,Value.oneCell',Ah,Ba,Aw,A4,A1,Al,An,Ae,Ak,isZ,A6,A3,Ad,Aa,Ag,A0,Af,↓reduceIte,reduceSub,reduceEqDiff,reduceAdd,reduceMul,reduceLT,reduceLeDiff,reduceToNat,reduceLE,Int.reduceLT,reduceNeg,reduceCtorEq,Bm,Bo]) <;> simp [Bs,Bn,Be]) (by repeat (first|exact Bx _|refine Bp ?_|refine B4 ?_|refine Bt ?_|refine Bu ?_ (by simp [Bs,Bn,Be]))) (Bl)),rfl,?_⟩
            rw [← Nat.add_assoc,hq,tk]
            funext c
            simp (maxSteps:=20000000) only [Heap.drop_at,Bh,Heap.put_at,Heap.none_at,List.mem_cons,List.not_mem_nil,or_false]
            by_cases e0:c=(0,0)::base
            · subst e0; simp [rowP]
            by_cases e1:c=(0,1)::base
            · subst e1; simp [rowP]
            by_cases e2:c=(0,2)::base
            · subst e2; simp [rowP]
            by_cases e3:c=(1,7)::base
            · subst e3; simp [rowP]
            by_cases e4:c=(8,14)::base
            · subst e4; simp [rowP]
            by_cases e5:c=(8,15)::base
            · subst e5; simp [rowP]
            simp [e0,e1,e2,e3,e4,e5,rowP]
          | succ q =>
            repeat (first|((first|refine Bd rfl (by simp only [tys]) ?_|refine Bc rfl (by simp only [tys]) ?_); apply Exists.intro; apply And.intro; (focus (simp -dsimp only [simx,zzC,zzB,tys,ite_self,A8,A2,Ax,Aq,Ao,At,Az,Ac,A5,PV.sk,Ai,Ar,As,Ap,Ay,Ab,Aj,Am,A9,Value.oneCell',Ah,Ba,Aw,A4,A1,Al,An,Ae,Ak,isZ,A6,A3,Ad,Aa,Ag,A0,Af,↓reduceIte,reduceSub,reduceEqDiff,reduceAdd,reduceMul,reduceLT,reduceLeDiff,reduceToNat,reduceLE,Int.reduceLT,reduceNeg,reduceCtorEq,zzL,if_true,if_false] <;> rfl)); apply Exists.intro; apply And.intro; (focus (first|exact a1)))|refine Bg rfl ?_|refine Bb rfl ?_|refine ⟨(dxX (by kernel_rfl)),?_⟩|exact (dxX (by kernel_rfl))|simp -dsimp (maxSteps:=20000000) (disch:=omega) only [simx,zzC,zzB,tys,ite_self,A8,A2,Ax,Aq,Ao,At,Az,Ac,A5,PV.sk,Ai,Ar,As,Ap,Ay,Ab,Aj,Am,A9,Value.oneCell',Ah,Ba,Aw,A4,A1,Al,An,Ae,Ak,isZ,A6,A3,Ad,Aa,Ag,A0,Af,↓reduceIte,reduceSub,reduceEqDiff,reduceAdd,reduceMul,reduceLT,reduceLeDiff,reduceToNat,reduceLE,Int.reduceLT,reduceNeg,reduceCtorEq,gos,Int.reduceAdd,Int.reduceSub,Int.reduceMul,reduceEq,ck,cj,g3,g4,SK.len,ql,hr',List.length_map,Co,Cn])
            refine Cg 22 [.int .u64 0] [iu v] (by simp only [tys]) (by simp only [tys]) rfl (by decide) tl (by simp [Heap.put_at,Heap.none_at,Bh]) (by simp [Heap.put_at]; rfl) rfl (by simp only [tys]; omega) (by rw [B3]; omega) ?_
            repeat (first|refine Bg rfl ?_|refine Bb rfl ?_|refine ⟨(dxX (by kernel_rfl)),?_⟩|exact (dxX (by kernel_rfl))|simp -dsimp (maxSteps:=20000000) (disch:=omega) only [simx,zzC,zzB,tys,ite_self,A8,A2,Ax,Aq,Ao,At,Az,Ac,A5,PV.sk,Ai,Ar,As,Ap,Ay,Ab,Aj,Am,A9,Value.oneCell',Ah,Ba,Aw,A4,A1,Al,An,Ae,Ak,isZ,A6,A3,Ad,Aa,Ag,A0,Af,↓reduceIte,reduceSub,reduceEqDiff,reduceAdd,reduceMul,reduceLT,reduceLeDiff,reduceToNat,reduceLE,Int.reduceLT,reduceNeg,reduceCtorEq,gos,Int.reduceAdd,Int.reduceSub,Int.reduceMul,reduceEq,ck,Co,Cn,Bi])
            refine ⟨ck,(Bv (by simp only [Heap.none_at]) (by (simp -dsimp only [zzB,tys,ite_self,A8,A2,Ax,Aq,Ao,At,Az,Ac,A5,PV.sk,Ai,Ar,As,Ap,Ay,Ab,Aj,Am,A9,Value.oneCell',Ah,Ba,Aw,A4,A1,Al,An,Ae,Ak,isZ,A6,A3,Ad,Aa,Ag,A0,Af,↓reduceIte,reduceSub,reduceEqDiff,reduceAdd,reduceMul,reduceLT,reduceLeDiff,reduceToNat,reduceLE,Int.reduceLT,reduceNeg,reduceCtorEq,Bm,Bo]) <;> simp [Bs,Bn,Be]) (by repeat (first|exact Bx _|refine Bp ?_|refine B4 ?_|refine Bt ?_|refine Bu ?_ (by simp [Bs,Bn,Be]))) (Bl)),rfl,?_⟩
            rw [← Nat.add_assoc,hq,tk]
            funext c
            simp (maxSteps:=20000000) only [Heap.drop_at,Bh,Heap.put_at,Heap.none_at,List.mem_cons,List.not_mem_nil,or_false]
            by_cases e0:c=(0,0)::base
            · subst e0; simp [rowP]
            by_cases e1:c=(0,1)::base
            · subst e1; simp [rowP]
            by_cases e2:c=(0,2)::base
            · subst e2; simp [rowP]
            by_cases e3:c=(1,7)::base
            · subst e3; simp [rowP]
            by_cases e4:c=(8,14)::base
            · subst e4; simp [rowP]
            by_cases e5:c=(8,15)::base
            · subst e5; simp [rowP]
            simp [e0,e1,e2,e3,e4,e5,rowP]
        · obtain rfl:r=k:=by omega
          repeat (first|refine Bg rfl ?_|refine Bb rfl ?_|refine ⟨(dxX (by kernel_rfl)),?_⟩|exact (dxX (by kernel_rfl))|simp -dsimp (maxSteps:=20000000) (disch:=omega) only [simx,zzC,zzB,tys,ite_self,A8,A2,Ax,Aq,Ao,At,Az,Ac,A5,PV.sk,Ai,Ar,As,Ap,Ay,Ab,Aj,Am,A9,Value.oneCell',Ah,Ba,Aw,A4,A1,Al,An,Ae,Ak,isZ,A6,A3,Ad,Aa,Ag,A0,Af,↓reduceIte,reduceSub,reduceEqDiff,reduceAdd,reduceMul,reduceLT,reduceLeDiff,reduceToNat,reduceLE,Int.reduceLT,reduceNeg,reduceCtorEq,gos,Int.reduceAdd,Int.reduceSub,Int.reduceMul,reduceEq,SK.len,ql,hr',List.length_map])
          refine ⟨cj,(Bl),rfl,?_⟩
          rw [Nat.succ_mul]
          exact drop_nil _
    · obtain rfl:r=j:=by omega
      have e1:o.take (r * r)=o:=List.take_of_length_le (by omega)
      rcases Nat.eq_zero_or_pos (r * r) with h0|h0
      · obtain rfl:o=[]:=List.eq_nil_of_length_eq_zero (by omega)
        rw [h0]
        repeat (first|refine Bg rfl ?_|refine Bb rfl ?_|refine ⟨(dxX (by kernel_rfl)),?_⟩|exact (dxX (by kernel_rfl))|simp -dsimp (maxSteps:=20000000) (disch:=omega) only [simx,zzC,zzB,tys,ite_self,A8,A2,Ax,Aq,Ao,At,Az,Ac,A5,PV.sk,Ai,Ar,As,Ap,Ay,Ab,Aj,Am,A9,Value.oneCell',Ah,Ba,Aw,A4,A1,Al,An,Ae,Ak,isZ,A6,A3,Ad,Aa,Ag,A0,Af,↓reduceIte,reduceSub,reduceEqDiff,reduceAdd,reduceMul,reduceLT,reduceLeDiff,reduceToNat,reduceLE,Int.reduceLT,reduceNeg,reduceCtorEq,zzR,gos,Int.reduceAdd,Int.reduceSub,Int.reduceMul,reduceEq,SK.len,ql,hr',List.length_map,Bk,Ci,List.take_nil,List.map_nil])
        try rfl
      · have rp:=fun s z cs => Hb s z cs h0
        have rh:=fun h s cs => Ge h s cs h0
        have e2:(o.map iu).take (r * r)=o.map iu:=List.take_of_length_le (by rw [List.length_map]; omega)
        repeat (first|refine Bg rfl ?_|refine Bb rfl ?_|refine ⟨(dxX (by kernel_rfl)),?_⟩|exact (dxX (by kernel_rfl))|simp -dsimp (maxSteps:=20000000) (disch:=omega) only [simx,zzC,zzB,tys,ite_self,A8,A2,Ax,Aq,Ao,At,Az,Ac,A5,PV.sk,Ai,Ar,As,Ap,Ay,Ab,Aj,Am,A9,Value.oneCell',Ah,Ba,Aw,A4,A1,Al,An,Ae,Ak,isZ,A6,A3,Ad,Aa,Ag,A0,Af,↓reduceIte,reduceSub,reduceEqDiff,reduceAdd,reduceMul,reduceLT,reduceLeDiff,reduceToNat,reduceLE,Int.reduceLT,reduceNeg,reduceCtorEq,zzR,gos,Int.reduceAdd,Int.reduceSub,Int.reduceMul,reduceEq,SK.len,ql,hr',e1,rp,rh,List.length_map,lm,e2,lu])
        rw [← lm]
def cmJ (r:Nat) (nl b:List Int) (k i:Nat):List Int:=tbl (r * r) (fun q => if q % r=k ∧ q / r < i then b.getD (q / r) 0 else nl.getD q 0)
theorem Tv (r:Nat) (nl b:List Int) (k i:Nat):(cmJ r nl b k i).length=r * r:=Ca ..
theorem Au8 {r:Nat} {nl b:List Int} {k:Nat} (hl:nl.length=r * r):cmJ r nl b k 0=nl:=by
  refine Io (Tv ..) hl fun q hq => ?_
  unfold cmJ
  rw [Ct _ hq,if_neg (fun h => Nat.not_lt_zero _ h.2)]
theorem Au9 {r:Nat} {nl b:List Int} {k i:Nat} (hk:k < r) (hi:i < r):((cmJ r nl b k i).map iu).take (i * r + k) ++ [iu (b.getD i 0)] ++ ((cmJ r nl b k i).map iu).drop (i * r + k + 1)=(cmJ r nl b k (i + 1)).map iu:=by
  have:=Fb (c:=r) hi
  unfold cmJ
  rw [Du _ _ (by omega)]
  congr 1
  refine F2 fun q hq => ?_
  have dm:=Nat.div_add_mod q r
  have ml:=Nat.mod_lt q (show 0 < r by omega)
  rw [Nat.mul_comm] at dm
  by_cases e:q=i * r + k
  · subst e
    rw [if_pos rfl,if_pos ⟨Nc hk,by rw [Lm hk]; omega⟩,Lm hk]
  · rw [if_neg e]
    by_cases e1:q % r=k ∧ q / r < i
    · rw [if_pos e1,if_pos ⟨e1.1,by omega⟩]
    · rw [if_neg e1,if_neg]
      rintro ⟨h1,h2⟩
      refine e1 ⟨h1,?_⟩
      by_cases h3:q / r=i
      · exact absurd (by rw [← dm,h1,h3]) e
      · omega
theorem cmJ_cl {r:Nat} {nl b:List Int} {k i j:Nat} (hi:i < r) (hj:j < r):cl r (cmJ r nl b k r) i j=updc (cl r nl) k (fun i => b.getD i 0) i j:=by
  unfold cmJ updc
  rw [Tw _ hi hj,Lm hj,Nc hj]
  by_cases e:j=k
  · rw [if_pos ⟨e,hi⟩,if_pos e]
  · rw [if_neg (fun h => e h.1),if_neg e]; rfl
theorem cmJ_in {p:Int} {r:Nat} {nl b:List Int} (hl:nl.length=r * r) (h1:∀ a ∈ nl,In p a) (h2:∀ a ∈ b,In p a) (hbl:b.length=r) (k i:Nat):∀ a ∈ cmJ r nl b k i,In p a:=fun a ha => by
  obtain ⟨q,hq,rfl⟩:=Dh ha
  (try dsimp only)
  split
  · rename_i h
    have:q / r < r:=Nat.div_lt_of_lt_mul hq
    exact Ce h2 (by omega)
  · exact Ce h1 (by omega)
def Yp (p:Int) (r:Nat) (nl b:List Int):List Int:=tbl r (fun k => Lp r (updc (cl r nl) k (fun i => b.getD i 0)) % p * D7 p (Lp r (cl r nl) % p) % p)
set_option maxHeartbeats 8000000 in
set_option maxRecDepth 100000 in
theorem Qa {P r:Nat} {nl b:List Int} (hP:Prm P) (hp:Md P) (h64:r ≤ 64) (hl:nl.length=r * r) (hin:∀ a ∈ nl,In P a) (hb:∀ a ∈ b,In P a) (hbl:b.length=r) (hd:r ≠ 0 → Lp r (cl r nl) % P ≠ 0):CallsP Try.prog 68 [u64 P,C3 (r:Int) (r:Int) nl,lu b] (lu (Yp P r nl b)):=by
  rcases Nat.eq_zero_or_pos r with h0|h0
  · subst h0
    refine Bj (n:=69) (m:=3) (rs:=[.tmp 6]) Try.func68 rfl rfl rfl rfl (by decide) fun base => ?_
    repeat (first|refine Bg rfl ?_|refine Bb rfl ?_|refine ⟨(dxX (by kernel_rfl)),?_⟩|exact (dxX (by kernel_rfl))|simp -dsimp (maxSteps:=20000000) (disch:=omega) only [simx,zzC,zzB,tys,ite_self,A8,A2,Ax,Aq,Ao,At,Az,Ac,A5,PV.sk,Ai,Ar,As,Ap,Ay,Ab,Aj,Am,A9,Value.oneCell',Ah,Ba,Aw,A4,A1,Al,An,Ae,Ak,isZ,A6,A3,Ad,Aa,Ag,A0,Af,↓reduceIte,reduceSub,reduceEqDiff,reduceAdd,reduceMul,reduceLT,reduceLeDiff,reduceToNat,reduceLE,Int.reduceLT,reduceNeg,reduceCtorEq,zzR,gos,Int.reduceAdd,Int.reduceSub,Int.reduceMul,reduceEq])
    try rfl
  have d0:CallsP Try.prog 44 [u64 P,C3 (r:Int) (r:Int) nl] (u64 (Lp r (cl r nl) % P)):=by
    obtain ⟨n,rfl⟩:∃ n,r=n + 1:=⟨r - 1,by omega⟩
    exact M0 hp n nl h64 hl hin
  have d1:=Uh hP hp (Dl hp (Lp r (cl r nl))) (hd (by omega))
  have bd:r * r ≤ 64 * 64:=Nat.mul_le_mul h64 h64
  have vin:In P (D7 P (Lp r (cl r nl) % P)):=(Ir hp.1 hp.2 (Dl hp _) (Hs hP (Dl hp _) (hd (by omega)))).1
  have dk:∀ k,k < r → CallsP Try.prog 44 [u64 P,C3 (r:Int) (r:Int) (cmJ r nl b k r)] (u64 (Lp r (updc (cl r nl) k (fun i => b.getD i 0)) % P)):=fun k hk => by
    rw [← Iz r fun i j hi hj => cmJ_cl (nl:=nl) (b:=b) (k:=k) hi hj]
    have o1:=Tv r nl b k r
    have o2:=cmJ_in hl hin hb hbl k r
    generalize cmJ r nl b k r=o at o1 o2 ⊢
    obtain ⟨n,rfl⟩:∃ n,r=n + 1:=⟨r - 1,by omega⟩
    exact M0 hp n o h64 o1 o2
  have mk:=fun k => F3 P (Lp r (updc (cl r nl) k (fun i => b.getD i 0)) % P) (D7 P (Lp r (cl r nl) % P)) hp (Dl hp _) (I9 hp vin)
  obtain ⟨F,hF⟩:∃ F:Nat → Int,F=fun k => Lp r (updc (cl r nl) k (fun i => b.getD i 0)) % P * D7 P (Lp r (cl r nl) % P) % P:=⟨_,rfl⟩
  have hres:Yp P r nl b=tbl r F:=by rw [hF]; rfl
  have Fk:∀ k,Lp r (updc (cl r nl) k (fun i => b.getD i 0)) % P * D7 P (Lp r (cl r nl) % P) % P=F k:=fun k => by rw [hF]
  rw [hres]
  simp only [Fk] at mk
  clear hres Fk hF vin hd
  have oz:=fun k => Au8 (b:=b) (k:=k) hl
  have on:=fun k i hk hi => Au9 (r:=r) (nl:=nl) (b:=b) (k:=k) (i:=i) hk hi
  have ol:=fun k i => Tv r nl b k i
  generalize Lp r (cl r nl) % (P:Int)=D at d0 d1 mk
  generalize D7 (P:Int) D=iv at d1 mk
  generalize cmJ r nl b=O at dk oz on ol
  obtain ⟨N,hN⟩:∃ N,N=r * r:=⟨_,rfl⟩
  have N0:0 < N:=by rw [hN]; exact Nat.mul_pos h0 h0
  rw [← hN] at hl ol bd
  have r0:¬ (r:Int)=0:=by omega
  refine Bj (n:=69) (m:=3) (rs:=[.tmp 6]) Try.func68 rfl rfl rfl rfl (by decide) fun base => ?_
  repeat (first|((first|refine Bd rfl (by simp only [tys]) ?_|refine Bc rfl (by simp only [tys]) ?_); apply Exists.intro; apply And.intro; (focus (simp -dsimp only [simx,zzC,zzB,tys,ite_self,A8,A2,Ax,Aq,Ao,At,Az,Ac,A5,PV.sk,Ai,Ar,As,Ap,Ay,Ab,Aj,Am,A9,Value.oneCell',Ah,Ba,Aw,A4,A1,Al,An,Ae,Ak,isZ,A6,A3,Ad,Aa,Ag,A0,Af,↓reduceIte,reduceSub,reduceEqDiff,reduceAdd,reduceMul,reduceLT,reduceLeDiff,reduceToNat,reduceLE,Int.reduceLT,reduceNeg,reduceCtorEq,zzL,if_true,if_false] <;> rfl)); apply Exists.intro; apply And.intro; (focus (first|exact d0|exact d1)))|refine Bg rfl ?_|refine Bb rfl ?_|refine ⟨(dxX (by kernel_rfl)),?_⟩|exact (dxX (by kernel_rfl))|simp -dsimp (maxSteps:=20000000) (disch:=omega) only [simx,zzC,zzB,tys,ite_self,A8,A2,Ax,Aq,Ao,At,Az,Ac,A5,PV.sk,Ai,Ar,As,Ap,Ay,Ab,Aj,Am,A9,Value.oneCell',Ah,Ba,Aw,A4,A1,Al,An,Ae,Ak,isZ,A6,A3,Ad,Aa,Ag,A0,Af,↓reduceIte,reduceSub,reduceEqDiff,reduceAdd,reduceMul,reduceLT,reduceLeDiff,reduceToNat,reduceLE,Int.reduceLT,reduceNeg,reduceCtorEq,gos,Int.reduceAdd,Int.reduceSub,Int.reduceMul,reduceEq,r0])
  refine B5 [0,2,4,7,8,10] [(8,4)::base,(8,9)::base,(13,7)::base] (0) (r) (fun j => True) (fun j => [(7,rowP ((13,8)::base) 1 j ((tbl j F).map iu)),(10,i64 j)]) (fun j => C9 (Heap.none.put ((0,0)::base) (.var [i64 r,i64 r,lu nl])) ((13,8)::base) j ((tbl j F).map iu)) ?_ ?_ ?_ ?_ ?_ (by decide) ?_
  · exact (Bv (by simp only [Heap.none_at]) (by (simp -dsimp only [zzB,tys,ite_self,A8,A2,Ax,Aq,Ao,At,Az,Ac,A5,PV.sk,Ai,Ar,As,Ap,Ay,Ab,Aj,Am,A9,Value.oneCell',Ah,Ba,Aw,A4,A1,Al,An,Ae,Ak,isZ,A6,A3,Ad,Aa,Ag,A0,Af,↓reduceIte,reduceSub,reduceEqDiff,reduceAdd,reduceMul,reduceLT,reduceLeDiff,reduceToNat,reduceLE,Int.reduceLT,reduceNeg,reduceCtorEq,Bm,Bo]) <;> simp [Bs,Bn,Be]) (by repeat (first|exact Bx _|refine Bp ?_|refine B4 ?_|refine Bt ?_|refine Bu ?_ (by simp [Bs,Bn,Be]))) (Bv (by simp only [Heap.none_at]) (by (simp -dsimp only [zzB,tys,ite_self,A8,A2,Ax,Aq,Ao,At,Az,Ac,A5,PV.sk,Ai,Ar,As,Ap,Ay,Ab,Aj,Am,A9,Value.oneCell',Ah,Ba,Aw,A4,A1,Al,An,Ae,Ak,isZ,A6,A3,Ad,Aa,Ag,A0,Af,↓reduceIte,reduceSub,reduceEqDiff,reduceAdd,reduceMul,reduceLT,reduceLeDiff,reduceToNat,reduceLE,Int.reduceLT,reduceNeg,reduceCtorEq,Bm,Bo]) <;> simp [Bs,Bn,Be]) (by repeat (first|exact Bx _|refine Bp ?_|refine B4 ?_|refine Bt ?_|refine Bu ?_ (by simp [Bs,Bn,Be]))) (Bv (by simp only [Heap.none_at]) (by (simp -dsimp only [zzB,tys,ite_self,A8,A2,Ax,Aq,Ao,At,Az,Ac,A5,PV.sk,Ai,Ar,As,Ap,Ay,Ab,Aj,Am,A9,Value.oneCell',Ah,Ba,Aw,A4,A1,Al,An,Ae,Ak,isZ,A6,A3,Ad,Aa,Ag,A0,Af,↓reduceIte,reduceSub,reduceEqDiff,reduceAdd,reduceMul,reduceLT,reduceLeDiff,reduceToNat,reduceLE,Int.reduceLT,reduceNeg,reduceCtorEq,Bm,Bo]) <;> simp [Bs,Bn,Be]) (by repeat (first|exact Bx _|refine Bp ?_|refine B4 ?_|refine Bt ?_|refine Bu ?_ (by simp [Bs,Bn,Be]))) (Bl))))
  · ((simp -dsimp (disch:=omega) only [simx,zzB,tys,ite_self,A8,A2,Ax,Aq,Ao,At,Az,Ac,A5,PV.sk,Ai,Ar,As,Ap,Ay,Ab,Aj,Am,A9,Value.oneCell',Ah,Ba,Aw,A4,A1,Al,An,Ae,Ak,isZ,A6,A3,Ad,Aa,Ag,A0,Af,↓reduceIte,reduceSub,reduceEqDiff,reduceAdd,reduceMul,reduceLT,reduceLeDiff,reduceToNat,reduceLE,Int.reduceLT,reduceNeg,reduceCtorEq,gos,Int.reduceAdd,Int.reduceSub,Int.reduceMul,reduceEq]) <;> first|rfl|simp [Bk])
  · rw [Ci]
    funext c
    simp (maxSteps:=20000000) only [Heap.drop_at,Bh,Heap.put_at,Heap.none_at,List.mem_cons,List.not_mem_nil,or_false]
    by_cases e0:c=(0,0)::base
    · subst e0; simp []
    by_cases e1:c=(8,4)::base
    · subst e1; simp []
    by_cases e2:c=(8,9)::base
    · subst e2; simp []
    by_cases e3:c=(13,7)::base
    · subst e3; simp []
    simp [e0,e1,e2,e3]
  · omega
  · trivial
  · intro k hk _
    by_cases ck:k < r
    · repeat (first|refine Bg rfl ?_|refine Bb rfl ?_|refine ⟨(dxX (by kernel_rfl)),?_⟩|exact (dxX (by kernel_rfl))|simp -dsimp (maxSteps:=20000000) (disch:=omega) only [simx,zzC,zzB,tys,ite_self,A8,A2,Ax,Aq,Ao,At,Az,Ac,A5,PV.sk,Ai,Ar,As,Ap,Ay,Ab,Aj,Am,A9,Value.oneCell',Ah,Ba,Aw,A4,A1,Al,An,Ae,Ak,isZ,A6,A3,Ad,Aa,Ag,A0,Af,↓reduceIte,reduceSub,reduceEqDiff,reduceAdd,reduceMul,reduceLT,reduceLeDiff,reduceToNat,reduceLE,Int.reduceLT,reduceNeg,reduceCtorEq,gos,Int.reduceAdd,Int.reduceSub,Int.reduceMul,reduceEq,ck])
      refine Wp (cs:=[]) 22 [.int .u64 0] (nl.map iu) (by simp only [tys]) (by simp only [tys]) rfl (by simp [Heap.put_at]) rfl (by omega) (by simp) (by simp only [tys]; omega) (by rw [B3]; omega) ?_
      repeat (first|refine Bg rfl ?_|refine Bb rfl ?_|refine ⟨(dxX (by kernel_rfl)),?_⟩|exact (dxX (by kernel_rfl))|simp -dsimp (maxSteps:=20000000) (disch:=omega) only [simx,zzC,zzB,tys,ite_self,A8,A2,Ax,Aq,Ao,At,Az,Ac,A5,PV.sk,Ai,Ar,As,Ap,Ay,Ab,Aj,Am,A9,Value.oneCell',Ah,Ba,Aw,A4,A1,Al,An,Ae,Ak,isZ,A6,A3,Ad,Aa,Ag,A0,Af,↓reduceIte,reduceSub,reduceEqDiff,reduceAdd,reduceMul,reduceLT,reduceLeDiff,reduceToNat,reduceLE,Int.reduceLT,reduceNeg,reduceCtorEq,gos,Int.reduceAdd,Int.reduceSub,Int.reduceMul,reduceEq,Nat.zero_add,List.nil_append])
      refine B5 [0,2,4,7,8,10,11,12] [] (0) (r) (fun j_ => True) (fun j_ => [(12,i64 j_)]) (fun j_ => C9 (((Heap.none.put ((0,0)::base) (.var [i64 r,i64 r,lu nl])).put ((8,4)::base) (.row false ((O k j_).map iu))).put ((8,9)::base) (.var [i64 r,i64 r,.view ((8,4)::base) 0 1 N N])) ((13,8)::base) k ((tbl k F).map iu)) ?_ ?_ ?_ ?_ ?_ (by decide) ?_
      · exact (Bl)
      · ((simp -dsimp (disch:=omega) only [simx,zzB,tys,ite_self,A8,A2,Ax,Aq,Ao,At,Az,Ac,A5,PV.sk,Ai,Ar,As,Ap,Ay,Ab,Aj,Am,A9,Value.oneCell',Ah,Ba,Aw,A4,A1,Al,An,Ae,Ak,isZ,A6,A3,Ad,Aa,Ag,A0,Af,↓reduceIte,reduceSub,reduceEqDiff,reduceAdd,reduceMul,reduceLT,reduceLeDiff,reduceToNat,reduceLE,Int.reduceLT,reduceNeg,reduceCtorEq,gos,Int.reduceAdd,Int.reduceSub,Int.reduceMul,reduceEq]) <;> first|rfl|simp)
      · rw [oz,← hl]
        funext c
        simp (maxSteps:=20000000) only [Heap.drop_at,Bh,Heap.put_at,Heap.none_at,List.mem_cons,List.not_mem_nil,or_false]
        by_cases e0:c=(0,0)::base
        · subst e0; simp []
        by_cases e1:c=(8,4)::base
        · subst e1; simp []
        by_cases e2:c=(8,9)::base
        · subst e2; simp []
        by_cases e3:c=(13,7)::base
        · subst e3; simp []
        simp [e0,e1,e2,e3]
      · omega
      · trivial
      · intro i hi _
        by_cases ci:i < r
        · have g1:(b.map iu)[i]?=some (iu (b.getD i 0)):=by rw [List.getElem?_map,getD_some hbl ci]; rfl
          have px:=on k i ck ci
          have l1:=ol k i
          have bd2:=Fb (c:=r) ci
          have f1:IntKind.i64.wrap ((i:Int) * (r:Int))=((i * r:Nat):Int):=by rw [← Int.natCast_mul]; exact Fa (by omega) (by omega)
          have f2:IntKind.i64.wrap (((i * r:Nat):Int) + (k:Int))=((i * r + k:Nat):Int):=by rw [← Int.natCast_add]; exact Fa (by omega) (by omega)
          have i1:i * r + k + 1 ≤ N:=by omega
          have i2:i * r + k < N:=by omega
          generalize O k i=X at px l1 ⊢
          generalize hY:O k (i + 1)=Y at px
          generalize i * r + k=d at px f2 i1 i2
          generalize i * r=e at f1 f2
          repeat (first|refine Bg rfl ?_|refine Bb rfl ?_|refine ⟨(dxX (by kernel_rfl)),?_⟩|exact (dxX (by kernel_rfl))|simp -dsimp (maxSteps:=20000000) (disch:=omega) only [simx,zzC,zzB,tys,ite_self,A8,A2,Ax,Aq,Ao,At,Az,Ac,A5,PV.sk,Ai,Ar,As,Ap,Ay,Ab,Aj,Am,A9,Value.oneCell',Ah,Ba,Aw,A4,A1,Al,An,Ae,Ak,isZ,A6,A3,Ad,Aa,Ag,A0,Af,↓reduceIte,reduceSub,reduceEqDiff,reduceAdd,reduceMul,reduceLT,reduceLeDiff,reduceToNat,reduceLE,Int.reduceLT,reduceNeg,reduceCtorEq,gos,Int.reduceAdd,Int.reduceSub,Int.reduceMul,reduceEq,ci,g1,f1,f2,i1,i2,l1,px,hbl,List.length_map])
          refine ⟨ci,(Bl),rfl,?_⟩
          rw [hY]
          funext c
          simp (maxSteps:=20000000) only [Heap.drop_at,Bh,Heap.put_at,Heap.none_at,List.mem_cons,List.not_mem_nil,or_false]
          by_cases e0:c=(0,0)::base
          · subst e0; simp []
          by_cases e1:c=(8,4)::base
          · subst e1; simp []
          by_cases e2:c=(8,9)::base
          · subst e2; simp []
          simp [e0,e1,e2]
        · obtain rfl:r=i:=by omega
          have q1:=dk k ck
          have q2:=mk k
          have l1:=ol k r
          have t1:=Fx k F
          have tl:=Ca k F
          generalize F k=v at q2 t1
          generalize Lp r (updc (cl r nl) k (fun i => b.getD i 0)) % (P:Int)=w at q1 q2
          generalize O k r=X at q1 l1 ⊢
          have q1':CallsP Try.prog 44 [u64 P,.agg [i64 r,i64 r,.i (.l N (X.map iu))]] (u64 w):=by rw [← l1]; exact q1
          have e2:(X.map iu).take N=X.map iu:=List.take_of_length_le (by rw [List.length_map,l1]; exact Nat.le_refl _)
          repeat (first|((first|refine Bd rfl (by simp only [tys]) ?_|refine Bc rfl (by simp only [tys]) ?_); apply Exists.intro; apply And.intro; (focus (simp -dsimp only [simx,zzC,zzB,tys,ite_self,A8,A2,Ax,Aq,Ao,At,Az,Ac,A5,PV.sk,Ai,Ar,As,Ap,Ay,Ab,Aj,Am,A9,Value.oneCell',Ah,Ba,Aw,A4,A1,Al,An,Ae,Ak,isZ,A6,A3,Ad,Aa,Ag,A0,Af,↓reduceIte,reduceSub,reduceEqDiff,reduceAdd,reduceMul,reduceLT,reduceLeDiff,reduceToNat,reduceLE,Int.reduceLT,reduceNeg,reduceCtorEq,zzL,if_true,if_false,e2,l1,List.length_map] <;> rfl)); apply Exists.intro; apply And.intro; (focus (first|exact q1'|exact q2)))|refine Bg rfl ?_|refine Bb rfl ?_|refine ⟨(dxX (by kernel_rfl)),?_⟩|exact (dxX (by kernel_rfl))|simp -dsimp (maxSteps:=20000000) (disch:=omega) only [simx,zzC,zzB,tys,ite_self,A8,A2,Ax,Aq,Ao,At,Az,Ac,A5,PV.sk,Ai,Ar,As,Ap,Ay,Ab,Aj,Am,A9,Value.oneCell',Ah,Ba,Aw,A4,A1,Al,An,Ae,Ak,isZ,A6,A3,Ad,Aa,Ag,A0,Af,↓reduceIte,reduceSub,reduceEqDiff,reduceAdd,reduceMul,reduceLT,reduceLeDiff,reduceToNat,reduceLE,Int.reduceLT,reduceNeg,reduceCtorEq,gos,Int.reduceAdd,Int.reduceSub,Int.reduceMul,reduceEq,e2,l1,List.length_map])
          refine C4 (s:=(13,8)::base) (n:=k) (z:=1) (cs:=(tbl k F).map iu) 22 [.int .u64 0] [iu v] (by simp only [tys]) (by simp only [tys]) rfl (by decide) (by rw [List.length_map,tl,Nat.mul_one]) (by simp [Heap.put_at,Heap.none_at,Bh]) (by simp [Heap.put_at]; rfl) rfl (by simp only [tys]; omega) (by rw [B3]; omega) ?_
          repeat (first|refine Bg rfl ?_|refine Bb rfl ?_|refine ⟨(dxX (by kernel_rfl)),?_⟩|exact (dxX (by kernel_rfl))|simp -dsimp (maxSteps:=20000000) (disch:=omega) only [simx,zzC,zzB,tys,ite_self,A8,A2,Ax,Aq,Ao,At,Az,Ac,A5,PV.sk,Ai,Ar,As,Ap,Ay,Ab,Aj,Am,A9,Value.oneCell',Ah,Ba,Aw,A4,A1,Al,An,Ae,Ak,isZ,A6,A3,Ad,Aa,Ag,A0,Af,↓reduceIte,reduceSub,reduceEqDiff,reduceAdd,reduceMul,reduceLT,reduceLeDiff,reduceToNat,reduceLE,Int.reduceLT,reduceNeg,reduceCtorEq,gos,Int.reduceAdd,Int.reduceSub,Int.reduceMul,reduceEq,ck])
          refine ⟨ck,M8 (h':=C9 (Heap.none.put ((0,0)::base) (.var [i64 r,i64 r,lu nl])) ((13,8)::base) (k + 1) ((tbl (k + 1) F).map iu)) ?_ ?_ ?_ ?_,?_,?_⟩
          rotate_left
          · intro b _; rfl
          · intro b hb; simp only [List.mem_cons,List.not_mem_nil,or_false] at hb; rcases hb with rfl|rfl|rfl <;> simp [Js,Bn,upd,toL,Bi]
          · intro b hb; exact Bt (Bu (Bx _) (by simp [Bs,Bn]))
          · rw [t1]; simp
          · funext c
            simp (maxSteps:=20000000) only [Heap.drop_at,Bh,Heap.put_at,Heap.none_at,List.mem_cons,List.not_mem_nil,or_false]
            by_cases e0:c=(0,0)::base
            · subst e0; simp [t1]
            by_cases e1:c=(8,4)::base
            · subst e1; simp [t1]
            by_cases e2:c=(8,9)::base
            · subst e2; simp [t1]
            by_cases e3:c=(13,7)::base
            · subst e3; simp [t1]
            by_cases e4:c=(13,8)::base
            · subst e4; simp [t1]
            simp [e0,e1,e2,e3,e4,t1]
          · funext c
            simp (maxSteps:=20000000) only [Heap.drop_at,Bh,Heap.put_at,Heap.none_at,List.mem_cons,List.not_mem_nil,or_false]
            by_cases e0:c=(0,0)::base
            · subst e0; simp [t1]
            by_cases e1:c=(8,4)::base
            · subst e1; simp [t1]
            by_cases e2:c=(8,9)::base
            · subst e2; simp [t1]
            by_cases e3:c=(13,7)::base
            · subst e3; simp [t1]
            by_cases e4:c=(13,8)::base
            · subst e4; simp [t1]
            simp [e0,e1,e2,e3,e4,t1]
    · obtain rfl:r=k:=by omega
      have l1:=Ca r F
      have rp:=fun s z cs => Hb s z cs h0
      have rh:=fun h s cs => Ge h s cs h0
      have e2:((tbl r F).map iu).take r=(tbl r F).map iu:=List.take_of_length_le (by rw [List.length_map,l1]; exact Nat.le_refl _)
      repeat (first|refine Bg rfl ?_|refine Bb rfl ?_|refine ⟨(dxX (by kernel_rfl)),?_⟩|exact (dxX (by kernel_rfl))|simp -dsimp (maxSteps:=20000000) (disch:=omega) only [simx,zzC,zzB,tys,ite_self,A8,A2,Ax,Aq,Ao,At,Az,Ac,A5,PV.sk,Ai,Ar,As,Ap,Ay,Ab,Aj,Am,A9,Value.oneCell',Ah,Ba,Aw,A4,A1,Al,An,Ae,Ak,isZ,A6,A3,Ad,Aa,Ag,A0,Af,↓reduceIte,reduceSub,reduceEqDiff,reduceAdd,reduceMul,reduceLT,reduceLeDiff,reduceToNat,reduceLE,Int.reduceLT,reduceNeg,reduceCtorEq,zzR,gos,Int.reduceAdd,Int.reduceSub,Int.reduceMul,reduceEq,rp,rh,List.length_map,l1,e2,lu])
end Go.Proofs.Ythnfphgjfpcpbaa.TM
