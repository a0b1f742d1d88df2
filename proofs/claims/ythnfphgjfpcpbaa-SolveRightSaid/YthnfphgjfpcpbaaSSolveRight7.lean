/- What is proved of functions, and plain facts, part 7. Conditions: none. -/
import Derived.Test.YthnfphgjfpcpbaaSSolveRight6
open Nat (reduceSub reduceEqDiff reduceAdd reduceMul reduceLT reduceLeDiff)
open Int (reduceToNat reduceLE reduceNeg reduceEq)
set_option linter.defProp false
set_option linter.unusedSectionVars false
set_option linter.unusedSimpArgs false
set_option linter.unusedVariables false
namespace Go.Proofs.Ythnfphgjfpcpbaa.TM
open Go Go.RowKit
attribute [local irreducible] K W Dg Effs Xg Xo Xr Xdg Xdo Xdr Xif CallsP CallR
theorem Pq {b:Name} {h:Heap} {bs:List Name} (h1:Dw b h):Dw b (h.drop bs):=fun c cs hc => h1 c cs (Sc hc)
def Vd (r:Nat) (x:List Int):List Int:=x ++ List.replicate (r - x.length) 0
abbrev llP (L:List (List Int)):PV:=.i (.l L.length (L.map fun u => .l u.length (u.map iu)))
abbrev Cy:=List Int × List Int × List (List Int) × List (List Int)
abbrev Yn (c:Cy):PV:=.agg [li c.1,li c.2.1,llP c.2.2.1,llP c.2.2.2]
def Bf (p:Int) (C R:Nat) (l:List Int):Cy:=((tkN p C l R).rows,(tkN p C l R).cols,(tkN p C l R).cs.map (Vd (tkN p C l R).us.length),(tkN p C l R).us)
def Un (p r c:Int) (l:List Int):Cy × Int:=if Ju p r c l then (Bf p c.toNat r.toNat l,0) else (([],[],[],[]),1)
def fP (T:Tk) (i d k:Nat):List Int:=if k < i then Vd T.us.length (csF T k) else if k=i then csF T k ++ List.replicate d 0 else csF T k
theorem Vm {P:Int} {r c:Int} {l:List Int} (hl:l.length ≤ maxLen) (h:Ju P r c l=false):CallsP Try.prog 46 [u64 P,C3 r c l] (.tup [Yn ([],[],[],[]),i64 1]):=by
  have q1:=Hv P r c l hl
  rw [h] at q1
  refine Bj (n:=87) (m:=2) (rs:=[.cell 4 64,.tmp 5]) Try.func46 rfl rfl rfl rfl (by decide) fun base => ?_
  repeat (first|((first|refine Bd rfl (by simp only [tys]) ?_|refine Bc rfl (by simp only [tys]) ?_); apply Exists.intro; apply And.intro; (focus (simp -dsimp only [simx,zzC,zzB,tys,ite_self,A8,A2,Ax,Aq,Ao,At,Az,Ac,A5,PV.sk,Ai,Ar,As,Ap,Ay,Ab,Aj,Am,A9,Value.oneCell',Ah,Ba,Aw,A4,A1,Al,An,Ae,Ak,isZ,A6,A3,Ad,Aa,Ag,A0,Af,↓reduceIte,reduceSub,reduceEqDiff,reduceAdd,reduceMul,reduceLT,reduceLeDiff,reduceToNat,reduceLE,Int.reduceLT,reduceNeg,reduceCtorEq,zzL,if_true,if_false] <;> rfl)); apply Exists.intro; apply And.intro; (focus (first|exact q1)))|refine Bg rfl ?_|refine Bb rfl ?_|refine ⟨(dxX (by kernel_rfl)),?_⟩|exact (dxX (by kernel_rfl))|simp -dsimp (maxSteps:=20000000) (disch:=omega) only [simx,zzC,zzB,tys,ite_self,A8,A2,Ax,Aq,Ao,At,Az,Ac,A5,PV.sk,Ai,Ar,As,Ap,Ay,Ab,Aj,Am,A9,Value.oneCell',Ah,Ba,Aw,A4,A1,Al,An,Ae,Ak,isZ,A6,A3,Ad,Aa,Ag,A0,Af,↓reduceIte,reduceSub,reduceEqDiff,reduceAdd,reduceMul,reduceLT,reduceLeDiff,reduceToNat,reduceLE,Int.reduceLT,reduceNeg,reduceCtorEq,zzR,gos,Int.reduceAdd,Int.reduceSub,Int.reduceMul,reduceEq])
  rfl
theorem O7 (b:Name) (f:Nat → List Int) (c:Name):Cq b f 0 c=none:=by
  unfold Cq
  split
  · exact if_neg (by omega)
  · rfl
theorem tkH_T (base:Name) (P R C i:Nat) (l:List Int) (T:Tk) (f:Nat → List Int):tkH base P R C i l T f ((3,2)::base)=some (.var [rowP ((16,11)::(7,14)::base) 1 T.us.length (T.rows.map ii),rowP ((16,19)::(7,14)::base) 1 T.us.length (T.cols.map ii),Hk ((10,8)::(7,14)::base) i,rowP ((16,27)::(7,14)::base) 1 T.us.length (T.us.map (lv C)),u64 P,rowP ((16,34)::(7,14)::base) 1 T.us.length (T.vs.map iu)]):=by
  have ne1:∀ x:Nat × Nat,base ≠ x::base:=Cd base
  have ne2:∀ x:Nat × Nat,x::base ≠ base:=fun x h => Cd base x h.symm
  simp [tkH,Bh,C1,Cq,ne1,ne2]
theorem tkH_0 (base:Name) (P R C i:Nat) (l:List Int) (T:Tk) (f:Nat → List Int):tkH base P R C i l T f ((0,0)::base)=some (.var [i64 R,i64 C,lu l]):=by
  have ne1:∀ x:Nat × Nat,base ≠ x::base:=Cd base
  have ne2:∀ x:Nat × Nat,x::base ≠ base:=fun x h => Cd base x h.symm
  simp [tkH,Bh,C1,Cq,ne1,ne2,mtB]
theorem tkH_1 (base:Name) (P R C i:Nat) (l:List Int) (T:Tk) (f:Nat → List Int):tkH base P R C i l T f ((0,1)::base)=some (.var [Dk,Dk,Dk,Dk]):=by
  have ne1:∀ x:Nat × Nat,base ≠ x::base:=Cd base
  have ne2:∀ x:Nat × Nat,x::base ≠ base:=fun x h => Cd base x h.symm
  simp [tkH,Bh,C1,Cq,ne1,ne2,mtB]
theorem tkH_C (base:Name) (P R C i:Nat) (l:List Int) (T:Tk) (f:Nat → List Int):tkH base P R C i l T f ((10,8)::(7,14)::base)=Jm i (Cw ((7,14)::base) f i):=by
  have ne1:∀ x:Nat × Nat,base ≠ x::base:=Cd base
  have ne2:∀ x:Nat × Nat,x::base ≠ base:=fun x h => Cd base x h.symm
  simp [tkH,Bh,C1,Cq,ne1,ne2,mtB]
theorem Ay7 {base:Name} {P R C i:Nat} {l:List Int} {T:Tk} {f g:Nat → List Int} (hi:i < R) (hg:∀ m,m ≠ i → g m=f m) (hx:(g i).length ≠ 0) :
    ((tkH base P R C R l T f).put ((900,i)::(7,14)::base) (.row false ((g i).map iu))).put ((10,8)::(7,14)::base) (.var (Cw ((7,14)::base) g R))=tkH base P R C R l T g:=by
  have ne1:∀ x:Nat × Nat,base ≠ x::base:=Cd base
  have ne2:∀ x:Nat × Nat,x::base ≠ base:=fun x h => Cd base x h.symm
  funext c
  unfold tkH
  simp only [Heap.put_at,Bh,C1]
  by_cases e1:c=(10,8)::(7,14)::base
  · subst e1
    simp [Cq,Jm,ne1,ne2]; omega
  by_cases e2:c=(900,i)::(7,14)::base
  · subst e2
    rw [Gc hi hx]
    simp
  simp only [e1,e2,if_false]
  rw [O8 (i:=i) (g:=g) (m:=R) e2 (fun k hk => (hg k hk).symm) (fun _ _ => Iff.rfl)]
theorem Tm {h:Heap} {s:Name} {n:Nat} {cs:List IV} (hn:cs.length=n) (hs:n ≠ 0 → h s=some (.row false cs)):Hw h (rowP s 1 n cs)=some (.i (.l n cs)):=by
  rw [← R5 (h:=h) (s:=s) (z:=1) (n:=n) (cs:=cs) (by omega) hs]
  unfold rowP
  split
  · rfl
  · rename_i h0
    show (match h s with|some (.var cs) => _|_ => _)=_
    rw [hs h0]
theorem R3 {α β γ:Type} {g:β → α} {f:α → Option γ} {k:β → γ}:∀ {l:List β},(∀ x ∈ l,f (g x)=some (k x)) → Cv f (l.map g)=some (l.map k)
  | [],_ => rfl
  | x::l,h => by
    rw [List.map_cons,Cv,h x (by simp),R3 (l:=l) fun y hy => h y (by simp [hy])]
    rfl
theorem Ba8 {h:Heap} {s b:Name} {n:Nat} {f:Nat → List Int} (h0:0 < n) (hs:h s=some (.var (Cw b f n))) (hr:∀ k,k < n → (f k).length ≠ 0 → h ((900,k)::b)=some (.row false ((f k).map iu))) :
    Hw h (.view s 0 1 n n)=some (.i (.l n ((List.range n).map fun k => .l (f k).length ((f k).map iu)))):=by
  have hm:Cv (Li h) (Cw b f n)=some ((List.range n).map fun k => IV.l (f k).length ((f k).map iu)):=by
    unfold Cw
    refine R3 fun k hk => ?_
    have hk:=List.mem_range.1 hk
    unfold Li Ld
    rw [R5 (by simp) (fun h1 => hr k hk h1)]
  show (match h s with|some (.var cs) => _|_ => _)=_
  rw [hs]
  simp only [C7,Nat.mul_one,Nat.zero_add,Nat.le_refl,and_self,if_true,List.drop_zero]
  rw [List.take_of_length_le (by rw [C7]; exact Nat.le_refl _),hm]
  rfl
theorem Z3 {h : Heap} {nR nQ nC nU b : Name} {n R C : Nat} {rows cols : List Int} {us : List (List Int)} {f : Nat → List Int} (hr : rows.length = n) (hq : cols.length = n) (hu : us.length = n)
    (h1:n ≠ 0 → h nR=some (.row false (rows.map ii))) (h2:n ≠ 0 → h nQ=some (.row false (cols.map ii))) (h3:n ≠ 0 → h nU=some (.row false (us.map (lv C)))) (h0:0 < R) (hs:h nC=some (.var (Cw b f R)))
    (hf:∀ k,k < R → (f k).length ≠ 0 → h ((900,k)::b)=some (.row false ((f k).map iu))) (hul:∀ u ∈ us,u.length=C) :
    L7 h (.tup [.agg [rowP nR 1 n (rows.map ii),rowP nQ 1 n (cols.map ii),.view nC 0 1 R R,rowP nU 1 n (us.map (lv C))],i64 0])=some (.tup [Yn (rows,cols,(List.range R).map f,us),i64 0]):=by
  have e1:=Tm (h:=h) (s:=nR) (n:=n) (cs:=rows.map ii) (by simp [hr]) h1
  have e2:=Tm (h:=h) (s:=nQ) (n:=n) (cs:=cols.map ii) (by simp [hq]) h2
  have e3:=Tm (h:=h) (s:=nU) (n:=n) (cs:=us.map (lv C)) (by simp [hu]) h3
  have e4:=Ba8 h0 hs hf
  have e5:us.map (lv C)=us.map fun u => IV.l u.length (u.map iu):=List.map_congr_left fun u hm => by rw [hul u hm]
  simp only [L7,I8,Cv,e1,e2,e3,e4,Option.map_some]
  simp [I8,Hw,Cl,Yn,llP,hr,hq,hu,e5,List.map_map,Function.comp_def]
theorem fP_cs {p:Int} {T:Tk} {C R:Nat} (I:TkI p C R T):(List.range R).map (fP T R 0)=T.cs.map (Vd T.us.length):=by
  apply List.ext_getElem?
  intro k
  rw [List.getElem?_map,List.getElem?_map]
  by_cases h:k < R
  · rw [List.getElem?_range h,List.getElem?_eq_getElem (by rw [I.cl]; exact h)]
    show some (fP T R 0 k)=some _
    unfold fP csF
    rw [if_pos h,List.getD_eq_getElem?_getD,List.getElem?_eq_getElem (by rw [I.cl]; exact h)]; rfl
  · rw [List.getElem?_eq_none (by simp; omega),List.getElem?_eq_none (by rw [I.cl]; omega)]; rfl
theorem Aa1 (T:Tk):fP T 0 0=csF T:=by
  funext k; unfold fP
  by_cases h:k=0
  · subst h; simp
  · rw [if_neg (by omega),if_neg h]
theorem Aa3 {T:Tk} {i:Nat}:fP T i (T.us.length - (csF T i).length)=fP T (i + 1) 0:=by
  funext k; unfold fP
  by_cases h:k < i
  · rw [if_pos h,if_pos (by omega)]
  · by_cases e:k=i
    · subst e; rw [if_neg (by omega),if_pos rfl,if_pos (by omega)]; rfl
    · by_cases d:k=i + 1
      · subst d; rw [if_neg (by omega),if_neg (by omega),if_neg (by omega),if_pos rfl]; simp
      · rw [if_neg h,if_neg e,if_neg (by omega),if_neg d]
theorem N3 {T:Tk} {i d:Nat}:fP T i d i=csF T i ++ List.replicate d 0:=by unfold fP; rw [if_neg (by omega),if_pos rfl]
theorem Aa2 {T:Tk} {i d k:Nat} (h:k ≠ i):fP T i (d + 1) k=fP T i d k:=by unfold fP; rw [if_neg h,if_neg h]
structure TkHp (h:Heap) (base:Name) (R C:Nat) (T:Tk):Prop where
  r:T.us.length ≠ 0 → h ((16,11)::(7,14)::base)=some (.row false (T.rows.map ii))
  q:T.us.length ≠ 0 → h ((16,19)::(7,14)::base)=some (.row false (T.cols.map ii))
  u:T.us.length ≠ 0 → h ((16,27)::(7,14)::base)=some (.row false (T.us.map (lv C)))
  c:h ((10,8)::(7,14)::base)=some (.var (Cw ((7,14)::base) (fP T R 0) R))
  f:∀ k,k < R → (fP T R 0 k).length ≠ 0 → h ((900,k)::(7,14)::base)=some (.row false ((fP T R 0 k).map iu))
set_option maxHeartbeats 4000000 in
theorem An0 {P R C:Nat} {l:List Int} (hP:Prm P) (M:Mt P R C l) (hin:∀ a ∈ l,In P a) (base:Name) {T:Tk} (hT:tkN P C l R=T):∃ hu,CallR Try.prog base 46 [u64 P,C3 R C l] Heap.none (.tup [.agg [rowP ((16,11)::(7,14)::base) 1 T.us.length (T.rows.map ii),rowP ((16,19)::(7,14)::base) 1 T.us.length (T.cols.map ii),Hk ((10,8)::(7,14)::base) R,rowP ((16,27)::(7,14)::base) 1 T.us.length (T.us.map (lv C))],i64 0]) hu ∧ TkHp hu base R C T:=by
  have q1:=Hv P R C l (by have:=M.len; have:=J4 M.r2 M.c2; rw [B3]; omega)
  rw [Xz M] at q1
  have I:=Nk hP M hin R (Nat.le_refl R)
  rw [hT] at I
  have r1:=M.r1
  have r2:=M.r2
  have c1:=M.c1
  have c2:=M.c2
  have ne1:∀ x:Nat × Nat,base ≠ x::base:=Cd base
  have ne2:∀ x:Nat × Nat,x::base ≠ base:=fun x h => Cd base x h.symm
  refine Iw (n:=87) (m:=2) (rs:=[.cell 4 64,.tmp 5]) Try.func46 rfl rfl rfl rfl (by decide) ?_
  repeat (first|((first|refine Bd rfl (by simp only [tys]) ?_|refine Bc rfl (by simp only [tys]) ?_); apply Exists.intro; apply And.intro; (focus (simp -dsimp only [simx,zzC,zzB,tys,ite_self,A8,A2,Ax,Aq,Ao,At,Az,Ac,A5,PV.sk,Ai,Ar,As,Ap,Ay,Ab,Aj,Am,A9,Value.oneCell',Ah,Ba,Aw,A4,A1,Al,An,Ae,Ak,isZ,A6,A3,Ad,Aa,Ag,A0,Af,↓reduceIte,reduceSub,reduceEqDiff,reduceAdd,reduceMul,reduceLT,reduceLeDiff,reduceToNat,reduceLE,Int.reduceLT,reduceNeg,reduceCtorEq,zzL,if_true,if_false] <;> rfl)); apply Exists.intro; apply And.intro; (focus (first|exact q1)))|refine Bg rfl ?_|refine Bb rfl ?_|refine ⟨(dxX (by kernel_rfl)),?_⟩|exact (dxX (by kernel_rfl))|simp -dsimp (maxSteps:=20000000) (disch:=omega) only [simx,zzC,zzB,tys,ite_self,A8,A2,Ax,Aq,Ao,At,Az,Ac,A5,PV.sk,Ai,Ar,As,Ap,Ay,Ab,Aj,Am,A9,Value.oneCell',Ah,Ba,Aw,A4,A1,Al,An,Ae,Ak,isZ,A6,A3,Ad,Aa,Ag,A0,Af,↓reduceIte,reduceSub,reduceEqDiff,reduceAdd,reduceMul,reduceLT,reduceLeDiff,reduceToNat,reduceLE,Int.reduceLT,reduceNeg,reduceCtorEq,gos,Int.reduceAdd,Int.reduceSub,Int.reduceMul,reduceEq])
  refine B5 [3,4,6,18,19] [(1,1)::(7,14)::base,(8,2)::(7,14)::base,(10,7)::(7,14)::base,(15,7)::(7,14)::base,(16,10)::(7,14)::base,(16,18)::(7,14)::base,(16,26)::(7,14)::base,(16,33)::(7,14)::base] (0) (R) (fun j => True) (fun j => [(18,i64 R),(19,i64 j)]) (fun j => tkH base P R C j l (tkN P C l j) (csF (tkN P C l j))) ?_ ?_ ?_ ?_ ?_ (by decide) ?_
  · intro b hb
    simp only [List.mem_cons,List.not_mem_nil,or_false] at hb
    rcases hb with rfl|rfl|rfl|rfl|rfl|rfl|rfl|rfl
    all_goals (refine ⟨rfl,?_,Pq (Bu (Bu (Bu (Bx _) (by simp [Bs,Bn])) (by simp [Bs,Bn])) (by simp [Bs,Bn]))⟩; show Js _ _ _; simp -dsimp only [zzB,tys,ite_self,A8,A2,Ax,Aq,Ao,At,Az,Ac,A5,PV.sk,Ai,Ar,As,Ap,Ay,Ab,Aj,Am,A9,Value.oneCell',Ah,Ba,Aw,A4,A1,Al,An,Ae,Ak,isZ,A6,A3,Ad,Aa,Ag,A0,Af,↓reduceIte,reduceSub,reduceEqDiff,reduceAdd,reduceMul,reduceLT,reduceLeDiff,reduceToNat,reduceLE,Int.reduceLT,reduceNeg,reduceCtorEq,gos,Int.reduceAdd,Int.reduceSub,Int.reduceMul,reduceEq,simx,Bm,Bo]; simp [Bn,ne1,ne2])
  · ((simp -dsimp (disch:=omega) only [simx,zzB,tys,ite_self,A8,A2,Ax,Aq,Ao,At,Az,Ac,A5,PV.sk,Ai,Ar,As,Ap,Ay,Ab,Aj,Am,A9,Value.oneCell',Ah,Ba,Aw,A4,A1,Al,An,Ae,Ak,isZ,A6,A3,Ad,Aa,Ag,A0,Af,↓reduceIte,reduceSub,reduceEqDiff,reduceAdd,reduceMul,reduceLT,reduceLeDiff,reduceToNat,reduceLE,Int.reduceLT,reduceNeg,reduceCtorEq,gos,Int.reduceAdd,Int.reduceSub,Int.reduceMul,reduceEq]) <;> first|rfl|simp)
  · funext c
    have hz:∀ c,Cq ((7,14)::base) (csF (tkN P C l 0)) 0 c=none:=O7 _ _
    have hl0:Cw ((7,14)::base) (csF (tkN P C l 0)) 0=[]:=rfl
    rw [Heap.drop_at]
    unfold tkH
    rw [hl0]
    simp only [tkN,Bh,C1,List.length_nil,if_true,List.map_nil,Bk,Sg,Jm,mtB]
    simp only [show csF ⟨[],[],[],[],[]⟩=csF (tkN P C l 0) from rfl,hz]
    simp only [Heap.put_at,Heap.none_at]
    by_cases e0:c=(3,2)::base
    · subst e0; simp [ne1,ne2]
    by_cases e1:c=(0,1)::base
    · subst e1; simp [ne1,ne2]
    by_cases e2:c=(0,0)::base
    · subst e2; simp [ne1,ne2]
    simp [e0,e1,e2]
  · omega
  · trivial
  · intro j hj _
    by_cases cj:j < R
    · have b1:=Fb (c:=C) cj
      have b2:=J4 r2 c2
      have rl:=Gd M.len cj
      have ml:=M.len
      have m1:(j + 1) * C=j * C + C:=Nat.succ_mul j C
      have f1:IntKind.i64.wrap ((j:Int) * (C:Int))=((j * C:Nat):Int):=by rw [← Int.natCast_mul]; exact Fa (by omega) (by omega)
      have f2:IntKind.i64.wrap (((j:Int) + 1) * (C:Int))=((j * C + C:Nat):Int):=by
        rw [show ((j:Int) + 1) * (C:Int)=((j * C + C:Nat):Int) by rw [← m1]; push_cast; rfl]; exact Fa (by omega) (by omega)
      have f3:j * C + C - j * C=C:=by omega
      have f4:((l.map iu).drop (j * C)).take C=(Df C l j).map iu:=by unfold Df; rw [List.map_take,List.map_drop]
      have f5:j * C ≤ j * C + C:=by omega
      have f6:j * C + C ≤ l.length:=by omega
      have t0:=tkH_T base P R C j l (tkN P C l j) (csF (tkN P C l j))
      have t1:=tkH_0 base P R C j l (tkN P C l j) (csF (tkN P C l j))
      obtain ⟨h',k1,k2,k3⟩:=Ao7 (base:=base) (R:=R) (l:=l) hP M.hp (Nk hP M hin j (by omega)) (fun a ha => hin a (Hc ha)) rl (by omega) c2 (by omega)
      have tn:Cz P (tkN P C l j) j (Df C l j)=tkN P C l (j + 1):=rfl
      rw [tn] at k2
      generalize hh0:tkH base P R C j l (tkN P C l j) (csF (tkN P C l j))=h0 at t0 t1 k1
      clear M hin I hT
      repeat (first|refine Bg rfl ?_|refine Bb rfl ?_|refine ⟨(dxX (by kernel_rfl)),?_⟩|exact (dxX (by kernel_rfl))|simp -dsimp (maxSteps:=20000000) (disch:=omega) only [simx,zzC,zzB,tys,ite_self,A8,A2,Ax,Aq,Ao,At,Az,Ac,A5,PV.sk,Ai,Ar,As,Ap,Ay,Ab,Aj,Am,A9,Value.oneCell',Ah,Ba,Aw,A4,A1,Al,An,Ae,Ak,isZ,A6,A3,Ad,Aa,Ag,A0,Af,↓reduceIte,reduceSub,reduceEqDiff,reduceAdd,reduceMul,reduceLT,reduceLeDiff,reduceToNat,reduceLE,Int.reduceLT,reduceNeg,reduceCtorEq,gos,Int.reduceAdd,Int.reduceSub,Int.reduceMul,reduceEq,cj,t0,t1,f1,f2,f3,f4,f5,f6,List.length_map])
      refine G4 rfl (by simp only [tys]) rfl k1 ?_
      repeat (first|refine Bg rfl ?_|refine Bb rfl ?_|refine ⟨(dxX (by kernel_rfl)),?_⟩|exact (dxX (by kernel_rfl))|simp -dsimp (maxSteps:=20000000) (disch:=omega) only [simx,zzC,zzB,tys,ite_self,A8,A2,Ax,Aq,Ao,At,Az,Ac,A5,PV.sk,Ai,Ar,As,Ap,Ay,Ab,Aj,Am,A9,Value.oneCell',Ah,Ba,Aw,A4,A1,Al,An,Ae,Ak,isZ,A6,A3,Ad,Aa,Ag,A0,Af,↓reduceIte,reduceSub,reduceEqDiff,reduceAdd,reduceMul,reduceLT,reduceLeDiff,reduceToNat,reduceLE,Int.reduceLT,reduceNeg,reduceCtorEq,gos,Int.reduceAdd,Int.reduceSub,Int.reduceMul,reduceEq])
      refine ⟨cj,?_,rfl,k2⟩
      intro b hb
      have nvb:=k3 b hb
      clear k1 k2 k3 hh0 t0 t1
      simp only [List.mem_cons,List.not_mem_nil,or_false] at hb
      rcases hb with rfl|rfl|rfl|rfl|rfl|rfl|rfl|rfl
      all_goals (refine ⟨rfl,?_,Pq nvb⟩; show Js _ _ _; simp -dsimp only [zzB,tys,ite_self,A8,A2,Ax,Aq,Ao,At,Az,Ac,A5,PV.sk,Ai,Ar,As,Ap,Ay,Ab,Aj,Am,A9,Value.oneCell',Ah,Ba,Aw,A4,A1,Al,An,Ae,Ak,isZ,A6,A3,Ad,Aa,Ag,A0,Af,↓reduceIte,reduceSub,reduceEqDiff,reduceAdd,reduceMul,reduceLT,reduceLeDiff,reduceToNat,reduceLE,Int.reduceLT,reduceNeg,reduceCtorEq,gos,Int.reduceAdd,Int.reduceSub,Int.reduceMul,reduceEq,simx,Bm,Bo]; simp [Bn,ne1,ne2])
    · have ej:R=j:=by omega
      subst ej
      rw [hT,← Aa1 T]
      have t0:=fun i d => tkH_T base P R C R l T (fP T i d)
      have tC:=fun i d => tkH_C base P R C R l T (fP T i d)
      have cp:Hk ((10,8)::(7,14)::base) R=.view ((10,8)::(7,14)::base) 0 1 R R:=if_neg (by omega)
      have cb:∀ L,Jm R L=some (.var L):=fun L => if_neg (by omega)
      simp only [cp] at t0
      simp only [cb] at tC
      repeat (first|refine Bg rfl ?_|refine Bb rfl ?_|refine ⟨(dxX (by kernel_rfl)),?_⟩|exact (dxX (by kernel_rfl))|simp -dsimp (maxSteps:=20000000) (disch:=omega) only [simx,zzC,zzB,tys,ite_self,A8,A2,Ax,Aq,Ao,At,Az,Ac,A5,PV.sk,Ai,Ar,As,Ap,Ay,Ab,Aj,Am,A9,Value.oneCell',Ah,Ba,Aw,A4,A1,Al,An,Ae,Ak,isZ,A6,A3,Ad,Aa,Ag,A0,Af,↓reduceIte,reduceSub,reduceEqDiff,reduceAdd,reduceMul,reduceLT,reduceLeDiff,reduceToNat,reduceLE,Int.reduceLT,reduceNeg,reduceCtorEq,gos,Int.reduceAdd,Int.reduceSub,Int.reduceMul,reduceEq,t0])
      refine B5 [4,6,45,46] [(14,14)::base] (0) (R) (fun j => True) (fun j => [(45,i64 R),(46,i64 j)]) (fun j => tkH base P R C R l T (fP T j 0)) ?_ ?_ ?_ ?_ ?_ (by decide) ?_
      · refine Bv rfl (by simp -dsimp only [zzB,tys,ite_self,A8,A2,Ax,Aq,Ao,At,Az,Ac,A5,PV.sk,Ai,Ar,As,Ap,Ay,Ab,Aj,Am,A9,Value.oneCell',Ah,Ba,Aw,A4,A1,Al,An,Ae,Ak,isZ,A6,A3,Ad,Aa,Ag,A0,Af,↓reduceIte,reduceSub,reduceEqDiff,reduceAdd,reduceMul,reduceLT,reduceLeDiff,reduceToNat,reduceLE,Int.reduceLT,reduceNeg,reduceCtorEq,gos,Int.reduceAdd,Int.reduceSub,Int.reduceMul,reduceEq,simx,Bm,Bo] <;> simp [Bn]) (Vh ?_ ?_ ?_ ?_ ?_ ?_) Bl <;> simp [ne1,ne2]
      · repeat (first|refine Bg rfl ?_|refine Bb rfl ?_|refine ⟨(dxX (by kernel_rfl)),?_⟩|exact (dxX (by kernel_rfl))|simp -dsimp (maxSteps:=20000000) (disch:=omega) only [simx,zzC,zzB,tys,ite_self,A8,A2,Ax,Aq,Ao,At,Az,Ac,A5,PV.sk,Ai,Ar,As,Ap,Ay,Ab,Aj,Am,A9,Value.oneCell',Ah,Ba,Aw,A4,A1,Al,An,Ae,Ak,isZ,A6,A3,Ad,Aa,Ag,A0,Af,↓reduceIte,reduceSub,reduceEqDiff,reduceAdd,reduceMul,reduceLT,reduceLeDiff,reduceToNat,reduceLE,Int.reduceLT,reduceNeg,reduceCtorEq,gos,Int.reduceAdd,Int.reduceSub,Int.reduceMul,reduceEq])
        exact ⟨rfl,rfl⟩
      · funext c
        rw [Heap.drop_at]
        split
        · rename_i e
          rw [List.mem_singleton.1 e]
          simp [tkH,Bh,C1,Cq,ne1,ne2]
        · rfl
      · omega
      · trivial
      · intro i hi _
        by_cases ci:i < R
        · repeat (first|refine Bg rfl ?_|refine Bb rfl ?_|refine ⟨(dxX (by kernel_rfl)),?_⟩|exact (dxX (by kernel_rfl))|simp -dsimp (maxSteps:=20000000) (disch:=omega) only [simx,zzC,zzB,tys,ite_self,A8,A2,Ax,Aq,Ao,At,Az,Ac,A5,PV.sk,Ai,Ar,As,Ap,Ay,Ab,Aj,Am,A9,Value.oneCell',Ah,Ba,Aw,A4,A1,Al,An,Ae,Ak,isZ,A6,A3,Ad,Aa,Ag,A0,Af,↓reduceIte,reduceSub,reduceEqDiff,reduceAdd,reduceMul,reduceLT,reduceLeDiff,reduceToNat,reduceLE,Int.reduceLT,reduceNeg,reduceCtorEq,gos,Int.reduceAdd,Int.reduceSub,Int.reduceMul,reduceEq,ci])
          refine B5 [4,6,8,45,46] [(14,14)::base] (0) (T.us.length - (csF T i).length) (fun j => True) (fun j => [(8,i64 i)]) (fun j => tkH base P R C R l T (fP T i j)) ?_ ?_ ?_ ?_ ?_ (by decide) ?_
          · refine Bv rfl (by simp -dsimp only [zzB,tys,ite_self,A8,A2,Ax,Aq,Ao,At,Az,Ac,A5,PV.sk,Ai,Ar,As,Ap,Ay,Ab,Aj,Am,A9,Value.oneCell',Ah,Ba,Aw,A4,A1,Al,An,Ae,Ak,isZ,A6,A3,Ad,Aa,Ag,A0,Af,↓reduceIte,reduceSub,reduceEqDiff,reduceAdd,reduceMul,reduceLT,reduceLeDiff,reduceToNat,reduceLE,Int.reduceLT,reduceNeg,reduceCtorEq,gos,Int.reduceAdd,Int.reduceSub,Int.reduceMul,reduceEq,simx,Bm,Bo] <;> simp [Bn]) (Vh ?_ ?_ ?_ ?_ ?_ ?_) Bl <;> simp [ne1,ne2]
          · ((simp -dsimp (disch:=omega) only [simx,zzB,tys,ite_self,A8,A2,Ax,Aq,Ao,At,Az,Ac,A5,PV.sk,Ai,Ar,As,Ap,Ay,Ab,Aj,Am,A9,Value.oneCell',Ah,Ba,Aw,A4,A1,Al,An,Ae,Ak,isZ,A6,A3,Ad,Aa,Ag,A0,Af,↓reduceIte,reduceSub,reduceEqDiff,reduceAdd,reduceMul,reduceLT,reduceLeDiff,reduceToNat,reduceLE,Int.reduceLT,reduceNeg,reduceCtorEq,gos,Int.reduceAdd,Int.reduceSub,Int.reduceMul,reduceEq]) <;> first|rfl|simp)
          · funext c
            rw [Heap.drop_at]
            split
            · rename_i e
              rw [List.mem_singleton.1 e]
              simp [tkH,Bh,C1,Cq,ne1,ne2]
            · rfl
          · omega
          · trivial
          · intro j hj _
            by_cases cj:j < T.us.length - (csF T i).length
            · have ru:rowP ((16,27)::(7,14)::base) 1 T.us.length (T.us.map (lv C))=.view ((16,27)::(7,14)::base) 0 1 T.us.length T.us.length:=by unfold rowP; rw [if_neg (by omega),List.length_map]
              have t1:=t0 i j
              have tc:=tC i j
              have g1:=E7 (b:=(7,14)::base) (f:=fP T i j) ci
              have rI:=I.ri
              have xl:(fP T i j i).length=(csF T i).length + j:=by rw [N3]; simp
              have xn:fP T i (j + 1) i=fP T i j i ++ [0]:=by rw [N3,N3,List.replicate_succ',List.append_assoc]
              have rp:=Rs (b:=(7,14)::base) (f:=fP T i j) (g:=fP T i (j + 1)) ci (fun m hm => Aa2 hm)
              have hu:=Ay7 (base:=base) (P:=P) (C:=C) (l:=l) (T:=T) (f:=fP T i j) (g:=fP T i (j + 1)) ci (fun m hm => Aa2 hm) (by rw [xn]; simp)
              unfold Ld at g1 rp
              rw [xn] at rp hu
              have hX:(fP T i j i).length ≠ 0 → tkH base P R C R l T (fP T i j) ((900,i)::(7,14)::base)=some (.row false ((fP T i j i).map iu)):=fun h => by
                unfold tkH
                simp only [Bh,C1,Gc ci h]
                simp
              have hX0:(fP T i j i).length=0 → tkH base P R C R l T (fP T i j) ((900,i)::(7,14)::base)=none:=fun h => by
                unfold tkH
                simp only [Bh,C1,Kt h]
                simp [ne1,ne2]
              have h14:tkH base P R C R l T (fP T i j) ((14,14)::base)=none:=by
                unfold tkH
                simp [Bh,C1,Cq,ne1,ne2]
              have cl:((fP T i j i).length:Int) < (T.us.length:Int):=by omega
              have ile:i + 1 ≤ R:=ci
              have ll:=C7 ((7,14)::base) (fP T i j) R
              have nvh:Dw ((14,14)::base) (tkH base P R C R l T (fP T i j)):=Vh (by simp [ne1,ne2]) (by simp [ne1,ne2]) (by simp [ne1,ne2]) (by simp [ne1,ne2]) (by simp [ne1,ne2]) (by simp [ne1,ne2])
              have nvl:(14,14)::base ∉ Bs (Cw ((7,14)::base) (fP T i (j + 1)) R):=fun h => by
                obtain ⟨k,hk⟩:=Kw h
                simp at hk
              generalize hh:tkH base P R C R l T (fP T i j)=h0 at t1 tc hu hX hX0 h14 nvh
              generalize fP T i j i=X at g1 rp hu hX hX0 xl cl
              generalize Cw ((7,14)::base) (fP T i j) R=RL at g1 rp tc ll
              generalize T.us.length=r at *
              rcases hn:X.length with _|m
              · rw [hn] at g1 cl
                have Xe:X=[]:=List.eq_nil_of_length_eq_zero hn
                subst Xe
                have hX0:=hX0 rfl
                rw [Bk] at g1
                simp only [List.nil_append,List.length_singleton,List.map_cons,List.map_nil] at rp hu
                rw [show rowP ((900,i)::(7,14)::base) 1 1 [iu 0]=.view ((900,i)::(7,14)::base) 0 1 1 1 from rfl] at rp
                repeat (first|refine ⟨(dxX (by kernel_rfl)),?_⟩|exact (dxX (by kernel_rfl))|simp -dsimp (maxSteps:=20000000) (disch:=omega) only [simx,zzC,zzB,tys,ite_self,A8,A2,Ax,Aq,Ao,At,Az,Ac,A5,PV.sk,Ai,Ar,As,Ap,Ay,Ab,Aj,Am,A9,Value.oneCell',Ah,Ba,Aw,A4,A1,Al,An,Ae,Ak,isZ,A6,A3,Ad,Aa,Ag,A0,Af,↓reduceIte,reduceSub,reduceEqDiff,reduceAdd,reduceMul,reduceLT,reduceLeDiff,reduceToNat,reduceLE,Int.reduceLT,reduceNeg,reduceCtorEq,gos,Int.reduceAdd,Int.reduceSub,Int.reduceMul,reduceEq,t1,tc,g1,ci,ru,cl,ll,SK.len])
                refine Bb rfl ?_
                repeat (first|refine ⟨(dxX (by kernel_rfl)),?_⟩|exact (dxX (by kernel_rfl))|simp -dsimp (maxSteps:=20000000) (disch:=omega) only [simx,zzC,zzB,tys,ite_self,A8,A2,Ax,Aq,Ao,At,Az,Ac,A5,PV.sk,Ai,Ar,As,Ap,Ay,Ab,Aj,Am,A9,Value.oneCell',Ah,Ba,Aw,A4,A1,Al,An,Ae,Ak,isZ,A6,A3,Ad,Aa,Ag,A0,Af,↓reduceIte,reduceSub,reduceEqDiff,reduceAdd,reduceMul,reduceLT,reduceLeDiff,reduceToNat,reduceLE,Int.reduceLT,reduceNeg,reduceCtorEq,gos,Int.reduceAdd,Int.reduceSub,Int.reduceMul,reduceEq,h14])
                refine Qe ((900,i)::(7,14)::base) rfl ?_
                repeat (first|refine ⟨(dxX (by kernel_rfl)),?_⟩|exact (dxX (by kernel_rfl))|simp -dsimp (maxSteps:=20000000) (disch:=omega) only [simx,zzC,zzB,tys,ite_self,A8,A2,Ax,Aq,Ao,At,Az,Ac,A5,PV.sk,Ai,Ar,As,Ap,Ay,Ab,Aj,Am,A9,Value.oneCell',Ah,Ba,Aw,A4,A1,Al,An,Ae,Ak,isZ,A6,A3,Ad,Aa,Ag,A0,Af,↓reduceIte,reduceSub,reduceEqDiff,reduceAdd,reduceMul,reduceLT,reduceLeDiff,reduceToNat,reduceLE,Int.reduceLT,reduceNeg,reduceCtorEq,gos,Int.reduceAdd,Int.reduceSub,Int.reduceMul,reduceEq])
                refine Cg (s:=(900,i)::(7,14)::base) (n:=0) (z:=1) (cs:=[]) 22 [.int .u64 0] [iu 0] (by simp only [tys]) (by simp only [tys]) rfl (by decide) rfl (by simp [Heap.put_at]; exact hX0) (by simp [Heap.put_at]; rfl) rfl (by simp only [tys]; omega) (by rw [B3]; omega) ?_
                rw [Bi]
                repeat (first|refine ⟨(dxX (by kernel_rfl)),?_⟩|exact (dxX (by kernel_rfl))|simp -dsimp (maxSteps:=20000000) (disch:=omega) only [simx,zzC,zzB,tys,ite_self,A8,A2,Ax,Aq,Ao,At,Az,Ac,A5,PV.sk,Ai,Ar,As,Ap,Ay,Ab,Aj,Am,A9,Value.oneCell',Ah,Ba,Aw,A4,A1,Al,An,Ae,Ak,isZ,A6,A3,Ad,Aa,Ag,A0,Af,↓reduceIte,reduceSub,reduceEqDiff,reduceAdd,reduceMul,reduceLT,reduceLeDiff,reduceToNat,reduceLE,Int.reduceLT,reduceNeg,reduceCtorEq,gos,Int.reduceAdd,Int.reduceSub,Int.reduceMul,reduceEq,t1,tc,ci,ile,ll,rp,List.nil_append])
                refine ⟨cj,Bv rfl (by simp -dsimp only [zzB,tys,ite_self,A8,A2,Ax,Aq,Ao,At,Az,Ac,A5,PV.sk,Ai,Ar,As,Ap,Ay,Ab,Aj,Am,A9,Value.oneCell',Ah,Ba,Aw,A4,A1,Al,An,Ae,Ak,isZ,A6,A3,Ad,Aa,Ag,A0,Af,↓reduceIte,reduceSub,reduceEqDiff,reduceAdd,reduceMul,reduceLT,reduceLeDiff,reduceToNat,reduceLE,Int.reduceLT,reduceNeg,reduceCtorEq,gos,Int.reduceAdd,Int.reduceSub,Int.reduceMul,reduceEq,simx,Bm,Bo] <;> simp [Bn]) (Bu (Bp (Bp nvh)) nvl) Bl,?_⟩
                rw [← hu]
                funext c
                simp (maxSteps:=20000000) only [Heap.drop_at,Bh,Heap.put_at,Heap.none_at,List.mem_cons,List.not_mem_nil,or_false]
                by_cases e0:c=(14,14)::base
                · subst e0; simp [h14]
                by_cases e1:c=(900,i)::(7,14)::base
                · subst e1; simp [h14]
                by_cases e2:c=(10,8)::(7,14)::base
                · subst e2; simp [h14]
                simp [e0,e1,e2,h14]
              · rw [hn] at g1 cl
                have hX:=hX (by omega)
                rw [Bi,List.length_map,hn] at g1
                rw [List.length_append,hn,List.length_singleton,Bi,List.length_map,List.length_append,hn,List.length_singleton] at rp
                repeat (first|refine ⟨(dxX (by kernel_rfl)),?_⟩|exact (dxX (by kernel_rfl))|simp -dsimp (maxSteps:=20000000) (disch:=omega) only [simx,zzC,zzB,tys,ite_self,A8,A2,Ax,Aq,Ao,At,Az,Ac,A5,PV.sk,Ai,Ar,As,Ap,Ay,Ab,Aj,Am,A9,Value.oneCell',Ah,Ba,Aw,A4,A1,Al,An,Ae,Ak,isZ,A6,A3,Ad,Aa,Ag,A0,Af,↓reduceIte,reduceSub,reduceEqDiff,reduceAdd,reduceMul,reduceLT,reduceLeDiff,reduceToNat,reduceLE,Int.reduceLT,reduceNeg,reduceCtorEq,gos,Int.reduceAdd,Int.reduceSub,Int.reduceMul,reduceEq,t1,tc,g1,ci,ru,cl,ll,SK.len])
                refine Bb rfl ?_
                repeat (first|refine ⟨(dxX (by kernel_rfl)),?_⟩|exact (dxX (by kernel_rfl))|simp -dsimp (maxSteps:=20000000) (disch:=omega) only [simx,zzC,zzB,tys,ite_self,A8,A2,Ax,Aq,Ao,At,Az,Ac,A5,PV.sk,Ai,Ar,As,Ap,Ay,Ab,Aj,Am,A9,Value.oneCell',Ah,Ba,Aw,A4,A1,Al,An,Ae,Ak,isZ,A6,A3,Ad,Aa,Ag,A0,Af,↓reduceIte,reduceSub,reduceEqDiff,reduceAdd,reduceMul,reduceLT,reduceLeDiff,reduceToNat,reduceLE,Int.reduceLT,reduceNeg,reduceCtorEq,gos,Int.reduceAdd,Int.reduceSub,Int.reduceMul,reduceEq,h14])
                refine Bb rfl ?_
                repeat (first|refine ⟨(dxX (by kernel_rfl)),?_⟩|exact (dxX (by kernel_rfl))|simp -dsimp (maxSteps:=20000000) (disch:=omega) only [simx,zzC,zzB,tys,ite_self,A8,A2,Ax,Aq,Ao,At,Az,Ac,A5,PV.sk,Ai,Ar,As,Ap,Ay,Ab,Aj,Am,A9,Value.oneCell',Ah,Ba,Aw,A4,A1,Al,An,Ae,Ak,isZ,A6,A3,Ad,Aa,Ag,A0,Af,↓reduceIte,reduceSub,reduceEqDiff,reduceAdd,reduceMul,reduceLT,reduceLeDiff,reduceToNat,reduceLE,Int.reduceLT,reduceNeg,reduceCtorEq,gos,Int.reduceAdd,Int.reduceSub,Int.reduceMul,reduceEq])
                refine D0 (z:=1) (cs:=X.map iu) 22 [.int .u64 0] [iu 0] (by simp only [tys]) (by simp only [tys]) rfl (by decide) (by simp [Heap.put_at]; exact hX) (by simp [hn]) (by simp [hn]) (by simp [Heap.put_at]; rfl) rfl (by simp only [tys]; omega) (by rw [B3]; omega) ?_
                have la:(X.map iu ++ [iu 0]).length=m + 1 + 1:=by simp [hn]
                have lm:X.map iu ++ [iu 0]=(X ++ [0]).map iu:=by simp
                rw [la,lm]
                repeat (first|refine ⟨(dxX (by kernel_rfl)),?_⟩|exact (dxX (by kernel_rfl))|simp -dsimp (maxSteps:=20000000) (disch:=omega) only [simx,zzC,zzB,tys,ite_self,A8,A2,Ax,Aq,Ao,At,Az,Ac,A5,PV.sk,Ai,Ar,As,Ap,Ay,Ab,Aj,Am,A9,Value.oneCell',Ah,Ba,Aw,A4,A1,Al,An,Ae,Ak,isZ,A6,A3,Ad,Aa,Ag,A0,Af,↓reduceIte,reduceSub,reduceEqDiff,reduceAdd,reduceMul,reduceLT,reduceLeDiff,reduceToNat,reduceLE,Int.reduceLT,reduceNeg,reduceCtorEq,gos,Int.reduceAdd,Int.reduceSub,Int.reduceMul,reduceEq,t1,tc,ci,ile,ll,rp])
                refine ⟨cj,Bv rfl (by simp -dsimp only [zzB,tys,ite_self,A8,A2,Ax,Aq,Ao,At,Az,Ac,A5,PV.sk,Ai,Ar,As,Ap,Ay,Ab,Aj,Am,A9,Value.oneCell',Ah,Ba,Aw,A4,A1,Al,An,Ae,Ak,isZ,A6,A3,Ad,Aa,Ag,A0,Af,↓reduceIte,reduceSub,reduceEqDiff,reduceAdd,reduceMul,reduceLT,reduceLeDiff,reduceToNat,reduceLE,Int.reduceLT,reduceNeg,reduceCtorEq,gos,Int.reduceAdd,Int.reduceSub,Int.reduceMul,reduceEq,simx,Bm,Bo] <;> simp [Bn]) (Bu (Bp (Bp nvh)) nvl) Bl,?_⟩
                rw [← hu]
                funext c
                simp (maxSteps:=20000000) only [Heap.drop_at,Bh,Heap.put_at,Heap.none_at,List.mem_cons,List.not_mem_nil,or_false]
                by_cases e0:c=(14,14)::base
                · subst e0; simp [h14]
                by_cases e1:c=(900,i)::(7,14)::base
                · subst e1; simp [h14]
                by_cases e2:c=(10,8)::(7,14)::base
                · subst e2; simp [h14]
                simp [e0,e1,e2,h14]
            · have ej:j=T.us.length - (csF T i).length:=by omega
              have ic:=(I.cb (csF T i) (by unfold csF; rw [List.getD_eq_getElem?_getD,List.getElem?_eq_getElem (by rw [I.cl]; exact ci)]; exact List.getElem_mem _)).1
              have xl:(fP T i j i).length=T.us.length:=by rw [N3]; simp; omega
              have t1:=t0 i j
              have tc:=tC i j
              have g1:=E7 (b:=(7,14)::base) (f:=fP T i j) ci
              unfold Ld at g1
              rw [xl] at g1
              have hend:tkH base P R C R l T (fP T i j)=tkH base P R C R l T (fP T (i + 1) 0):=by rw [ej,Aa3]
              have h14:tkH base P R C R l T (fP T i j) ((14,14)::base)=none:=by
                unfold tkH
                simp [Bh,C1,Cq,ne1,ne2]
              have nvh:Dw ((14,14)::base) (tkH base P R C R l T (fP T i j)):=Vh (by simp [ne1,ne2]) (by simp [ne1,ne2]) (by simp [ne1,ne2]) (by simp [ne1,ne2]) (by simp [ne1,ne2]) (by simp [ne1,ne2])
              have ll:=C7 ((7,14)::base) (fP T i j) R
              generalize tkH base P R C R l T (fP T i j)=h0 at t1 tc h14 nvh hend ⊢
              rcases hr:T.us.length with _|r
              · rw [hr] at t1 g1
                have nlt:¬ (((0:Nat):Int) < ((0:Nat):Int)):=by omega
                repeat (first|refine Bg rfl ?_|refine Bb rfl ?_|refine ⟨(dxX (by kernel_rfl)),?_⟩|exact (dxX (by kernel_rfl))|simp -dsimp (maxSteps:=20000000) (disch:=omega) only [simx,zzC,zzB,tys,ite_self,A8,A2,Ax,Aq,Ao,At,Az,Ac,A5,PV.sk,Ai,Ar,As,Ap,Ay,Ab,Aj,Am,A9,Value.oneCell',Ah,Ba,Aw,A4,A1,Al,An,Ae,Ak,isZ,A6,A3,Ad,Aa,Ag,A0,Af,↓reduceIte,reduceSub,reduceEqDiff,reduceAdd,reduceMul,reduceLT,reduceLeDiff,reduceToNat,reduceLE,Int.reduceLT,reduceNeg,reduceCtorEq,gos,Int.reduceAdd,Int.reduceSub,Int.reduceMul,reduceEq,t1,tc,g1,ci,ll,Bk,SK.len,nlt])
                refine ⟨ci,Bv rfl (by simp -dsimp only [zzB,tys,ite_self,A8,A2,Ax,Aq,Ao,At,Az,Ac,A5,PV.sk,Ai,Ar,As,Ap,Ay,Ab,Aj,Am,A9,Value.oneCell',Ah,Ba,Aw,A4,A1,Al,An,Ae,Ak,isZ,A6,A3,Ad,Aa,Ag,A0,Af,↓reduceIte,reduceSub,reduceEqDiff,reduceAdd,reduceMul,reduceLT,reduceLeDiff,reduceToNat,reduceLE,Int.reduceLT,reduceNeg,reduceCtorEq,gos,Int.reduceAdd,Int.reduceSub,Int.reduceMul,reduceEq,simx,Bm,Bo] <;> simp [Bn]) nvh Bl,rfl,?_⟩
                rw [← hend]
                funext c
                rw [Heap.drop_at]
                split
                · rename_i e
                  rw [List.mem_singleton.1 e,h14]
                · rfl
              · rw [hr] at t1 g1
                have nlt:¬ (((r + 1:Nat):Int) < ((r + 1:Nat):Int)):=by omega
                repeat (first|refine Bg rfl ?_|refine Bb rfl ?_|refine ⟨(dxX (by kernel_rfl)),?_⟩|exact (dxX (by kernel_rfl))|simp -dsimp (maxSteps:=20000000) (disch:=omega) only [simx,zzC,zzB,tys,ite_self,A8,A2,Ax,Aq,Ao,At,Az,Ac,A5,PV.sk,Ai,Ar,As,Ap,Ay,Ab,Aj,Am,A9,Value.oneCell',Ah,Ba,Aw,A4,A1,Al,An,Ae,Ak,isZ,A6,A3,Ad,Aa,Ag,A0,Af,↓reduceIte,reduceSub,reduceEqDiff,reduceAdd,reduceMul,reduceLT,reduceLeDiff,reduceToNat,reduceLE,Int.reduceLT,reduceNeg,reduceCtorEq,gos,Int.reduceAdd,Int.reduceSub,Int.reduceMul,reduceEq,t1,tc,g1,ci,ll,Bi,SK.len,nlt])
                refine ⟨ci,Bv rfl (by simp -dsimp only [zzB,tys,ite_self,A8,A2,Ax,Aq,Ao,At,Az,Ac,A5,PV.sk,Ai,Ar,As,Ap,Ay,Ab,Aj,Am,A9,Value.oneCell',Ah,Ba,Aw,A4,A1,Al,An,Ae,Ak,isZ,A6,A3,Ad,Aa,Ag,A0,Af,↓reduceIte,reduceSub,reduceEqDiff,reduceAdd,reduceMul,reduceLT,reduceLeDiff,reduceToNat,reduceLE,Int.reduceLT,reduceNeg,reduceCtorEq,gos,Int.reduceAdd,Int.reduceSub,Int.reduceMul,reduceEq,simx,Bm,Bo] <;> simp [Bn]) nvh Bl,rfl,?_⟩
                rw [← hend]
                funext c
                rw [Heap.drop_at]
                split
                · rename_i e
                  rw [List.mem_singleton.1 e,h14]
                · rfl
        · have ej:R=i:=by omega
          subst ej
          have t1:=t0 R 0
          have t2:=tkH_1 base P R C R l T (fP T R 0)
          have fin:∀ (x:Box),TkHp ((tkH base P R C R l T (fP T R 0)).put ((0,1)::base) x) base R C T:=by
            intro x
            refine ⟨fun h => ?_,fun h => ?_,fun h => ?_,?_,fun k hk h => ?_⟩
            · simp [tkH,Heap.put_at,Bh,C1,Cq,ne1,ne2]; intro h2; exact absurd (by rw [h2]; rfl) h
            · simp [tkH,Heap.put_at,Bh,C1,Cq,ne1,ne2]; intro h2; exact absurd (by rw [h2]; rfl) h
            · simp [tkH,Heap.put_at,Bh,C1,Cq,ne1,ne2]; intro h2; exact absurd (by rw [h2]; rfl) h
            · simp only [Heap.put_at]; rw [if_neg (by simp)]; exact tC R 0
            · simp only [Heap.put_at]; rw [if_neg (by simp)]
              unfold tkH
              simp only [Bh,C1,Gc hk h]
              simp
          rcases hr:T.us.length with _|r
          · rw [hr] at t1
            repeat (first|refine Bg rfl ?_|refine Bb rfl ?_|refine ⟨(dxX (by kernel_rfl)),?_⟩|exact (dxX (by kernel_rfl))|simp -dsimp (maxSteps:=20000000) (disch:=omega) only [simx,zzC,zzB,tys,ite_self,A8,A2,Ax,Aq,Ao,At,Az,Ac,A5,PV.sk,Ai,Ar,As,Ap,Ay,Ab,Aj,Am,A9,Value.oneCell',Ah,Ba,Aw,A4,A1,Al,An,Ae,Ak,isZ,A6,A3,Ad,Aa,Ag,A0,Af,↓reduceIte,reduceSub,reduceEqDiff,reduceAdd,reduceMul,reduceLT,reduceLeDiff,reduceToNat,reduceLE,Int.reduceLT,reduceNeg,reduceCtorEq,zzR,gos,Int.reduceAdd,Int.reduceSub,Int.reduceMul,reduceEq,t1,t2,Bk])
            rw [cp]
            exact ⟨rfl,fin _⟩
          · rw [hr] at t1
            repeat (first|refine Bg rfl ?_|refine Bb rfl ?_|refine ⟨(dxX (by kernel_rfl)),?_⟩|exact (dxX (by kernel_rfl))|simp -dsimp (maxSteps:=20000000) (disch:=omega) only [simx,zzC,zzB,tys,ite_self,A8,A2,Ax,Aq,Ao,At,Az,Ac,A5,PV.sk,Ai,Ar,As,Ap,Ay,Ab,Aj,Am,A9,Value.oneCell',Ah,Ba,Aw,A4,A1,Al,An,Ae,Ak,isZ,A6,A3,Ad,Aa,Ag,A0,Af,↓reduceIte,reduceSub,reduceEqDiff,reduceAdd,reduceMul,reduceLT,reduceLeDiff,reduceToNat,reduceLE,Int.reduceLT,reduceNeg,reduceCtorEq,zzR,gos,Int.reduceAdd,Int.reduceSub,Int.reduceMul,reduceEq,t1,t2,Bi])
            rw [cp]
            exact ⟨rfl,fin _⟩
theorem Um {P R C:Nat} {l:List Int} (hP:Prm P) (M:Mt P R C l) (hin:∀ a ∈ l,In P a):CallsP Try.prog 46 [u64 P,C3 R C l] (.tup [Yn (Bf P C R l),i64 0]):=by
  refine CallsP.of_low mixed rfl fun base => ?_
  have I:=Nk hP M hin R (Nat.le_refl R)
  have r1:=M.r1
  generalize hT:tkN P C l R=T at I
  obtain ⟨hu,h1,H⟩:=An0 hP M hin base hT
  refine ⟨_,hu,h1,?_⟩
  have e:Bf P C R l=(T.rows,T.cols,(List.range R).map (fP T R 0),T.us):=by unfold Bf; rw [hT,fP_cs I]
  have cp:Hk ((10,8)::(7,14)::base) R=.view ((10,8)::(7,14)::base) 0 1 R R:=if_neg (by omega)
  rw [e,cp]
  exact Z3 (b:=(7,14)::base) I.rl I.ql rfl H.r H.q H.u (by omega) H.c H.f (fun u hu => (I.ul u hu).1)
end Go.Proofs.Ythnfphgjfpcpbaa.TM
namespace Go.Proofs.Ythnfphgjfpcpbaa.TM
open Go Go.RowKit
def rtH (base:Name) (R C i:Nat) (l:List Int) (T:Tk) (f:Nat → List Int):Heap :=
  C9 (C9 (C9 (C1 base f i (fun c => if c=(1,0)::base then some (.var [rowP ((28,4)::base) 1 T.us.length (T.rows.map ii),rowP ((29,4)::base) 1 T.us.length (T.cols.map ii),Hk ((31,4)::base) i,rowP ((30,4)::base) 1 T.us.length (T.us.map (lv C))])
    else if c=(0,0)::base then some (mtB R C l) else if c=(0,1)::base then some (.var [Dk,Dk,Dk,Dk]) else if c=(31,4)::base then Jm i (Cw base f i) else none))
    ((28,4)::base) T.us.length (T.rows.map ii)) ((29,4)::base) T.us.length (T.cols.map ii)) ((30,4)::base) T.us.length (T.us.map (lv C))
def Nx (base:Name):List Name:=[(5,0)::base,(17,18)::base,(19,2)::base,(27,1)::base,(28,3)::base,(29,3)::base,(30,3)::base,(31,3)::base] ++ (List.range 70).map fun m => (901,m)::base
theorem Da {base c:Name}:c ∈ Nx base ↔ c ∈ [(5,0)::base,(17,18)::base,(19,2)::base,(27,1)::base,(28,3)::base,(29,3)::base,(30,3)::base,(31,3)::base] ∨ ∃ m,m < 70 ∧ c=(901,m)::base:=by
  unfold Nx
  rw [List.mem_append]
  refine or_congr Iff.rfl ?_
  rw [List.mem_map]
  constructor
  · rintro ⟨m,h1,rfl⟩; exact ⟨m,List.mem_range.1 h1,rfl⟩
  · rintro ⟨m,h1,rfl⟩; exact ⟨m,List.mem_range.2 h1,rfl⟩
section
variable {base:Name} {R C i:Nat} {l:List Int} {T:Tk} {f:Nat → List Int}
theorem Ao4:rtH base R C i l T f ((1,0)::base)=some (.var [rowP ((28,4)::base) 1 T.us.length (T.rows.map ii),rowP ((29,4)::base) 1 T.us.length (T.cols.map ii),Hk ((31,4)::base) i,rowP ((30,4)::base) 1 T.us.length (T.us.map (lv C))]):=by
  have ne1:∀ x:Nat × Nat,base ≠ x::base:=Cd base
  have ne2:∀ x:Nat × Nat,x::base ≠ base:=fun x h => Cd base x h.symm
  simp [rtH,Bh,C1,Cq,ne1,ne2]
theorem rtH_m:rtH base R C i l T f ((0,0)::base)=some (.var [i64 R,i64 C,lu l]):=by
  have ne1:∀ x:Nat × Nat,base ≠ x::base:=Cd base
  have ne2:∀ x:Nat × Nat,x::base ≠ base:=fun x h => Cd base x h.symm
  simp [rtH,Bh,C1,Cq,ne1,ne2,mtB]
theorem rtH_r:rtH base R C i l T f ((0,1)::base)=some (.var [Dk,Dk,Dk,Dk]):=by
  have ne1:∀ x:Nat × Nat,base ≠ x::base:=Cd base
  have ne2:∀ x:Nat × Nat,x::base ≠ base:=fun x h => Cd base x h.symm
  simp [rtH,Bh,C1,Cq,ne1,ne2,mtB]
theorem Uu:rtH base R C i l T f ((28,4)::base)=if T.us.length=0 then none else some (.row false (T.rows.map ii)):=by
  have ne1:∀ x:Nat × Nat,base ≠ x::base:=Cd base
  have ne2:∀ x:Nat × Nat,x::base ≠ base:=fun x h => Cd base x h.symm
  simp [rtH,Bh,C1,Cq,ne1,ne2,mtB]
theorem Uv:rtH base R C i l T f ((29,4)::base)=if T.us.length=0 then none else some (.row false (T.cols.map ii)):=by
  have ne1:∀ x:Nat × Nat,base ≠ x::base:=Cd base
  have ne2:∀ x:Nat × Nat,x::base ≠ base:=fun x h => Cd base x h.symm
  simp [rtH,Bh,C1,Cq,ne1,ne2,mtB]
theorem Ao3:rtH base R C i l T f ((30,4)::base)=if T.us.length=0 then none else some (.row false (T.us.map (lv C))):=by
  have ne1:∀ x:Nat × Nat,base ≠ x::base:=Cd base
  have ne2:∀ x:Nat × Nat,x::base ≠ base:=fun x h => Cd base x h.symm
  simp [rtH,Bh,C1,Cq,ne1,ne2,mtB]
theorem S7:rtH base R C i l T f ((31,4)::base)=Jm i (Cw base f i):=by
  have ne1:∀ x:Nat × Nat,base ≠ x::base:=Cd base
  have ne2:∀ x:Nat × Nat,x::base ≠ base:=fun x h => Cd base x h.symm
  simp [rtH,Bh,C1,Cq,ne1,ne2,mtB]
theorem L2 {a b:Nat} (h:(a=5 ∨ a=17 ∨ a=19 ∨ a=27 ∨ a=901) ∨ ((a=28 ∨ a=29 ∨ a=30 ∨ a=31) ∧ b=3)):rtH base R C i l T f ((a,b)::base)=none:=by
  have ne1:∀ x:Nat × Nat,base ≠ x::base:=Cd base
  have ne2:∀ x:Nat × Nat,x::base ≠ base:=fun x h => Cd base x h.symm
  rcases h with (rfl|rfl|rfl|rfl|rfl)|⟨rfl|rfl|rfl|rfl,rfl⟩ <;> simp [rtH,Bh,C1,Cq,ne1,ne2,mtB]
theorem Az8:rtH base R C i l T f ((900,i)::base)=none:=by
  have ne1:∀ x:Nat × Nat,base ≠ x::base:=Cd base
  have ne2:∀ x:Nat × Nat,x::base ≠ base:=fun x h => Cd base x h.symm
  have h:Cq base f i ((900,i)::base)=none:=Ks (Nat.le_refl _)
  simp [rtH,Bh,C1,h,ne1,ne2,mtB]
theorem Nn {b:Name} (hb9:∀ k,b ≠ (900,k)::base) (n1:b ≠ (28,4)::base) (n2:b ≠ (29,4)::base) (n3:b ≠ (30,4)::base) (n4:b ≠ (31,4)::base):Dw b (rtH base R C i l T f):=by
  unfold rtH
  refine Bt (Bt (Bt (No ?_)))
  intro c cs hc
  simp only [mtB] at hc
  split at hc
  · cases hc
    simp only [Bs,Bn,List.mem_append,Be,El,List.not_mem_nil,or_false,not_or]
    simp [n1,n2,n3,n4]
  · split at hc
    · cases hc; simp [Bs,Bn]
    · split at hc
      · cases hc; simp [Bs,Bn,Dk]
      · split at hc
        · unfold Jm at hc
          split at hc
          · cases hc
          · cases hc
            intro h
            obtain ⟨k,hk⟩:=Kw h
            exact hb9 k hk
        · cases hc
end
def Dt (base:Name) (H:Heap) (P:Int) (T:Tk) (row:List Int):Nat → Heap
  | 0 => H.put ((901,1)::base) (.row false (row.map iu))
  | k + 1 => (Dt base H P T row k).put ((901,k + 2)::base) (.row false ((elR P T row (k + 1)).map iu))
section
variable {base:Name} {H:Heap} {P:Int} {T:Tk} {row:List Int}
theorem Hd {c:Name} (h:∀ m,c ≠ (901,m)::base):∀ k,Dt base H P T row k c=H c
  | 0 => by rw [Dt,Heap.put_at,if_neg (h 1)]
  | k + 1 => by rw [Dt,Heap.put_at,if_neg (h _),Hd h k]
theorem U0:∀ k,Dt base H P T row k ((901,k + 1)::base)=some (.row false ((elR P T row k).map iu))
  | 0 => by rw [Dt,Heap.put_at,if_pos rfl]; rfl
  | k + 1 => by rw [Dt,Heap.put_at,if_pos rfl]
theorem Pb (h:∀ m,H ((901,m)::base)=none):∀ k m,k + 1 < m → Dt base H P T row k ((901,m)::base)=none
  | 0,m,hm => by rw [Dt,Heap.put_at,if_neg (by simp; omega)]; exact h m
  | k + 1,m,hm => by rw [Dt,Heap.put_at,if_neg (by simp; omega)]; exact Pb h k m (by omega)
theorem J5 {b:Name} (h:Dw b H):∀ k,Dw b (Dt base H P T row k)
  | 0 => Bp h
  | k + 1 => Bp (J5 h k)
end
theorem Zr {base : Name} {R C i : Nat} {l : List Int} {T T' : Tk} {f f' : Nat → List Int} {H : Heap} (hf : ∀ k, k < i → f' k = f k)
    (h1:H ((1,0)::base)=some (.var [rowP ((28,4)::base) 1 T'.us.length (T'.rows.map ii),rowP ((29,4)::base) 1 T'.us.length (T'.cols.map ii),Hk ((31,4)::base) (i + 1),rowP ((30,4)::base) 1 T'.us.length (T'.us.map (lv C))]))
    (h2:H ((28,4)::base)=if T'.us.length=0 then none else some (.row false (T'.rows.map ii))) (h3:H ((29,4)::base)=if T'.us.length=0 then none else some (.row false (T'.cols.map ii))) (h4:H ((30,4)::base)=if T'.us.length=0 then none else some (.row false (T'.us.map (lv C))))
    (h5:H ((31,4)::base)=some (.var (Cw base f' (i + 1)))) (h6:H ((900,i)::base)=if (f' i).length=0 then none else some (.row false ((f' i).map iu)))
    (h7:∀ c,c ∉ Nx base → c ≠ (1,0)::base → c ≠ (28,4)::base → c ≠ (29,4)::base → c ≠ (30,4)::base → c ≠ (31,4)::base → c ≠ (900,i)::base → H c=rtH base R C i l T f c) :
    H.drop (Nx base)=rtH base R C (i + 1) l T' f':=by
  have ne1:∀ x:Nat × Nat,base ≠ x::base:=Cd base
  have ne2:∀ x:Nat × Nat,x::base ≠ base:=fun x h => Cd base x h.symm
  funext c
  rw [Heap.drop_at]
  split
  · rename_i hc
    rcases Da.1 hc with hc|⟨m,_,rfl⟩
    · simp only [List.mem_cons,List.not_mem_nil,or_false] at hc
      rcases hc with rfl|rfl|rfl|rfl|rfl|rfl|rfl|rfl <;> exact (L2 (by simp)).symm
    · exact (L2 (by simp)).symm
  · rename_i hc
    by_cases e1:c=(1,0)::base
    · subst e1; rw [h1,Ao4]
    by_cases e2:c=(28,4)::base
    · subst e2; rw [h2,Uu]
    by_cases e3:c=(29,4)::base
    · subst e3; rw [h3,Uv]
    by_cases e4:c=(30,4)::base
    · subst e4; rw [h4,Ao3]
    by_cases e5:c=(31,4)::base
    · subst e5; rw [h5,S7]; rfl
    by_cases e6:c=(900,i)::base
    · subst e6
      rw [h6]
      by_cases hl:(f' i).length=0
      · rw [if_pos hl]
        simp [rtH,Bh,C1,Kt hl,ne1,ne2]
      · rw [if_neg hl]
        simp [rtH,Bh,C1,Gc (Nat.lt_succ_self i) hl]
    · rw [h7 c hc e1 e2 e3 e4 e5 e6]
      unfold rtH
      simp only [Bh,C1,e1,e2,e3,e4,e5,if_false,ite_self]
      rw [show Cq base f i c=Cq base f' (i + 1) c by
        unfold Cq
        split
        · rename_i k d
          by_cases hd:d=base
          · subst hd
            have hki:k ≠ i:=fun h => e6 (by rw [h])
            by_cases hk:k < i
            · rw [hf k hk]
              have:k < i + 1:=by omega
              simp only [hk,this]
            · rw [if_neg (by omega),if_neg (by omega)]
          · rw [if_neg (fun h => hd h.1),if_neg (fun h => hd h.1)]
        · rfl]
theorem Ry {base:Name} {H:Heap} {P:Int} {T:Tk} {row:List Int} {c:Name} (h:c ∉ Nx base):∀ {k:Nat},k ≤ 64 → Dt base H P T row k c=H c
  | 0,_ => by
    rw [Dt,Heap.put_at,if_neg]
    rintro rfl
    exact h (Da.2 (.inr ⟨1,by omega,rfl⟩))
  | k + 1,hk => by
    rw [Dt,Heap.put_at,if_neg,Ry h (by omega)]
    rintro rfl
    exact h (Da.2 (.inr ⟨k + 2,by omega,rfl⟩))
theorem Az7 {base:Name} {R C i:Nat} {l:List Int} {T:Tk} {f g:Nat → List Int} (hi:i < R) (hg:∀ m,m ≠ i → g m=f m) (hx:(g i).length ≠ 0) :
    ((rtH base R C R l T f).put ((900,i)::base) (.row false ((g i).map iu))).put ((31,4)::base) (.var (Cw base g R))=rtH base R C R l T g:=by
  have ne1:∀ x:Nat × Nat,base ≠ x::base:=Cd base
  have ne2:∀ x:Nat × Nat,x::base ≠ base:=fun x h => Cd base x h.symm
  funext c
  unfold rtH
  simp only [Heap.put_at,Bh,C1]
  by_cases e1:c=(31,4)::base
  · subst e1
    simp [Cq,Jm,mtB,ne1,ne2]; omega
  by_cases e2:c=(900,i)::base
  · subst e2
    rw [Gc hi hx]
    simp
  simp only [e1,e2,if_false]
  rw [O8 (i:=i) (g:=g) (m:=R) e2 (fun k hk => (hg k hk).symm) (fun _ _ => Iff.rfl)]
structure RtHp (h:Heap) (base:Name) (R C:Nat) (T:Tk):Prop where
  r:T.us.length ≠ 0 → h ((28,4)::base)=some (.row false (T.rows.map ii))
  q:T.us.length ≠ 0 → h ((29,4)::base)=some (.row false (T.cols.map ii))
  u:T.us.length ≠ 0 → h ((30,4)::base)=some (.row false (T.us.map (lv C)))
  c:h ((31,4)::base)=some (.var (Cw base (fP T R 0) R))
  f:∀ k,k < R → (fP T R 0 k).length ≠ 0 → h ((900,k)::base)=some (.row false ((fP T R 0 k).map iu))
end Go.Proofs.Ythnfphgjfpcpbaa.TM
namespace Go.Proofs.Ythnfphgjfpcpbaa.TM
open Go Go.RowKit
theorem Kb {α:Type} (l:List α) (x d:α) (k:Nat):(l ++ [x]).getD k d=if k < l.length then l.getD k d else if k=l.length then x else d:=by
  rw [List.getD_eq_getElem?_getD,List.getD_eq_getElem?_getD]
  by_cases h:k < l.length
  · rw [if_pos h,List.getElem?_append_left h]
  · rw [if_neg h,List.getElem?_append_right (by omega)]
    by_cases e:k=l.length
    · subst e; rw [if_pos rfl]; simp
    · rw [if_neg e,List.getElem?_eq_none (by simp; omega)]; rfl
def rwF (T:Tk) (k:Nat):Nat:=(T.rows.getD k 0).toNat
def cwF (T:Tk) (k:Nat):Nat:=(T.cols.getD k 0).toNat
def cF (T:Tk):Mx:=fun i k => (csF T i).getD k 0
def uF (T:Tk):Mx:=fun k j => (T.us.getD k []).getD j 0
def vF (T:Tk) (k:Nat):Int:=T.vs.getD k 0
structure TkC (P C i:Nat) (A:Mx) (T:Tk):Prop where
  I:TkI P C i T
  H:Cp P i C T.us.length A (rwF T) (cwF T) (cF T) (uF T)
  inv:∀ k,k < T.us.length → uF T k (cwF T k) * vF T k % P=1
theorem Rx {P C i:Nat} {A:Mx} {T:Tk} (K:TkC P C i A T) {row:List Int} (hl:row.length=C):∀ k,k ≤ T.us.length →
    (∀ j,j < k → (elR P T row k).getD (cwF T j) 0 % P=0) ∧ ∀ q,q < C → row.getD q 0 % P=((elR P T row k).getD q 0 + B8 k (fun m => elX P T row m * uF T m q)) % P
  | 0,_ => ⟨fun j h => by omega,fun q _ => by simp [elR,B8]⟩
  | k + 1,hk => by
    obtain ⟨h1,h2⟩:=Rx K hl k (by omega)
    have len:=Gt P T row k
    rw [hl] at len
    have get:∀ q,q < C → (elR P T row (k + 1)).getD q 0 % P=((elR P T row k).getD q 0 - elX P T row k * uF T k q) % P:=fun q hq => by
      rw [Kf,Ag5 _ _ _ _ (by omega),Int.emod_emod_of_dvd _ (Int.dvd_refl _)]
      exact Jj rfl (Int.emod_emod_of_dvd _ (Int.dvd_refl _))
    refine ⟨fun j hj => ?_,fun q hq => ?_⟩
    · rw [get _ (K.H.clt j (by omega))]
      by_cases e:j=k
      · subst e
        have hx:elX P T row j % P=((elR P T row j).getD (cwF T j) 0 * vF T j) % P:=by unfold elX vF cwF; exact Int.emod_emod_of_dvd _ (Int.dvd_refl _)
        have hi:=K.inv j (by omega)
        generalize (elR P T row j).getD (cwF T j) 0=y at hx ⊢
        rw [Jj rfl (D4 hx rfl)]
        have hm:(2:Int) ≤ P:=K.I.ri |> fun _ => by
          rcases Nat.lt_or_ge P 2 with h|h
          · have:P=0 ∨ P=1:=by omega
            rcases this with rfl|rfl
            · exact absurd (K.H.upiv j (by omega)) (by
                intro hne
                have hz:=K.I.ul (T.us.getD j []) (by rw [List.getD_eq_getElem?_getD,List.getElem?_eq_getElem (show j < T.us.length by omega)]; exact List.getElem_mem _)
                have hin:=Ce hz.2 (i:=cwF T j) (by rw [hz.1]; exact K.H.clt j (by omega))
                unfold In at hin; omega)
            · exact absurd hi (by rw [show ((1:Nat):Int)=1 from rfl,Int.emod_one]; decide)
          · omega
        have:(y - y * vF T j * uF T j (cwF T j)) % P=(y - y * 1) % P:=Jj rfl (by
          rw [Int.mul_assoc]
          exact D4 rfl (by rw [Int.mul_comm,hi]; exact (Int.emod_eq_of_lt (by decide) (by omega)).symm))
        rw [this,Int.mul_one,Int.sub_self]; rfl
      · have h3:=K.H.uz j k (by omega) (by omega)
        rw [Int.sub_emod,h1 j (by omega),N4 h3]; rfl
    · rw [h2 q hq,B8]
      have h4:=Jk (get q hq) (rfl:(B8 k (fun m => elX P T row m * uF T m q) + elX P T row k * uF T k q) % P=_)
      rw [h4]; congr 1; omega
theorem Au4 {P C i:Nat} {A:Mx} {T:Tk} (hP:Prm P) (hp:Md P) (K:TkC P C i A T) {row:List Int} (hrow:∀ a ∈ row,In P a) (hl:row.length=C) (hA:∀ j,j < C → A i j % P=row.getD j 0 % P):TkC P C (i + 1) A (Cz P T i row):=by
  have I:=K.I
  have H:=K.H
  have J:=I.next hP hp hrow hl
  obtain ⟨c1,_⟩:=Lw (P:=P) (row:=row) I
  obtain ⟨te1,te2⟩:=Oy (p:=P) I row (i:Int) rfl
  obtain ⟨s1,s2⟩:=Rx K hl T.us.length (Nat.le_refl _)
  have rl:(Eb P T row).length=C:=by unfold Eb; rw [Gt,hl]
  have rin:∀ a ∈ Eb P T row,In P a:=M9 hp T hrow _
  change ∀ j,j < T.us.length → (Eb P T row).getD (cwF T j) 0 % P=0 at s1
  change ∀ q,q < C → row.getD q 0 % P=((Eb P T row).getD q 0 + _) % P at s2
  have xg:∀ k,k < T.us.length → (xsT P T row).getD k 0=elX P T row k:=fun k hk => Ct _ hk
  have xl:(xsT P T row).length=T.us.length:=Ca ..
  have cold:∀ i',i' < i → ∀ k,cF (Cz P T i row) i' k=cF T i' k:=fun i' h k => by unfold cF; rw [c1 i' h]
  rcases Gf (Eb P T row) 0 with ⟨z1,z2⟩|⟨n,z1,z2,z3,z4⟩
  · have neg:nzA (Eb P T row) 0 < 0:=by rw [z1]; decide
    obtain ⟨t1,t2,t3,t4⟩:=Ul (p:=P) (T:=T) (row:=row) (x:=i) neg
    have te:=te1 neg
    have e1:rwF (Cz P T i row)=rwF T:=by unfold rwF; rw [t1]
    have e2:cwF (Cz P T i row)=cwF T:=by unfold cwF; rw [t2]
    have e3:uF (Cz P T i row)=uF T:=by unfold uF; rw [t3]
    have e4:vF (Cz P T i row)=vF T:=by unfold vF; rw [t4]
    refine ⟨J,?_,?_⟩
    · rw [t3,e1,e2,e3]
      refine ⟨fun k hk => by have:=H.rlt k hk; omega,H.rinc,H.clt,H.upiv,H.uz,H.uh,fun k hk => ?_,fun k hk i' hi' => ?_,fun i' hi' j hj => ?_⟩
      · rw [cold _ (H.rlt k hk)]; exact H.c1 k hk
      · rw [cold _ (Nat.lt_trans hi' (H.rlt k hk))]; exact H.cz k hk i' hi'
      · by_cases e:i'=i
        · subst e
          rw [hA j hj,s2 j hj]
          have z:(Eb P T row).getD j 0=0:=by rw [List.getD_eq_getElem?_getD,List.getElem?_eq_getElem (by omega)]; exact z2 _ (List.getElem_mem _)
          rw [z,Int.zero_add]
          refine Dn fun k hk => ?_
          unfold cF csF
          rw [te,xg k hk]
        · rw [H.made i' (by omega) j hj]
          exact Dn fun k hk => by rw [cold i' (by omega)]
    · rw [t3,e2,e3,e4]; exact K.inv
  · have neg:¬ nzA (Eb P T row) 0 < 0:=by rw [z1]; omega
    obtain ⟨t1,t2,t3,t4⟩:=Ov (p:=P) (T:=T) (row:=row) (x:=i) neg
    have te:=te2 neg
    have zn:(((0 + n:Nat):Int)).toNat=n:=by omega
    have zi:((0 + n:Nat):Int)=(n:Int):=by omega
    rw [z1] at t2 t4
    rw [zn] at t4
    rw [zi] at t2
    have r1:∀ k,rwF (Cz P T i row) k=if k < T.us.length then rwF T k else if k=T.us.length then i else 0:=fun k => by
      unfold rwF; rw [t1,Kb,I.rl]; (repeat' split) <;> simp
    have r2:∀ k,cwF (Cz P T i row) k=if k < T.us.length then cwF T k else if k=T.us.length then n else 0:=fun k => by
      unfold cwF; rw [t2,Kb,I.ql]; (repeat' split) <;> simp
    have r3:∀ k j,uF (Cz P T i row) k j=if k < T.us.length then uF T k j else if k=T.us.length then (Eb P T row).getD j 0 else 0:=fun k j => by
      unfold uF; rw [t3,Kb]; (repeat' split) <;> simp
    have r4:∀ k,vF (Cz P T i row) k=if k < T.us.length then vF T k else if k=T.us.length then D7 P ((Eb P T row).getD n 0) else 0:=fun k => by
      unfold vF; rw [t4,Kb,I.vl]
    have rn:In P ((Eb P T row).getD n 0):=Ce rin z2
    have rnz:(Eb P T row).getD n 0 % P ≠ 0:=by rw [Int.emod_eq_of_lt rn.1 rn.2]; exact z3
    have us1:(Cz P T i row).us.length=T.us.length + 1:=by rw [t3]; simp
    have cnew:∀ k,cF (Cz P T i row) i k=if k < T.us.length then elX P T row k else if k=T.us.length then 1 else 0:=fun k => by
      unfold cF csF
      rw [te,Kb,xl]
      split
      · rename_i h; rw [xg k h]
      · rfl
    have cnr:∀ i',i' < i → cF T i' T.us.length=0:=fun i' h => by
      unfold cF csF
      have:((T.cs.getD i' [])).length ≤ T.us.length:=by
        rw [List.getD_eq_getElem?_getD,List.getElem?_eq_getElem (by rw [I.cl]; exact h)]
        exact (I.cb _ (List.getElem_mem _)).1
      rw [List.getD_eq_getElem?_getD,List.getElem?_eq_none this]; rfl
    refine ⟨J,?_,?_⟩
    · rw [us1]
      refine ⟨fun k hk => ?_,fun j k hjk hk => ?_,fun k hk => ?_,fun k hk => ?_,fun j k hjk hk => ?_,fun k hk j hj => ?_,fun k hk => ?_,fun k hk i' hi' => ?_,fun i' hi' j hj => ?_⟩
      · rw [r1]
        by_cases h:k < T.us.length
        · rw [if_pos h]; have:=H.rlt k h; omega
        · rw [if_neg h,if_pos (by omega)]; omega
      · rw [r1,r1,if_pos (show j < T.us.length by omega)]
        by_cases h:k < T.us.length
        · rw [if_pos h]; exact H.rinc j k hjk h
        · rw [if_neg h,if_pos (by omega)]; exact H.rlt j (by omega)
      · rw [r2]
        by_cases h:k < T.us.length
        · rw [if_pos h]; exact H.clt k h
        · rw [if_neg h,if_pos (by omega)]; omega
      · rw [r3,r2]
        by_cases h:k < T.us.length
        · rw [if_pos h,if_pos h]; exact H.upiv k h
        · rw [if_neg h,if_pos (by omega),if_neg h,if_pos (by omega)]; exact rnz
      · rw [r3,r2,if_pos (show j < T.us.length by omega)]
        by_cases h:k < T.us.length
        · rw [if_pos h]; exact H.uz j k hjk h
        · rw [if_neg h,if_pos (by omega)]; exact s1 j (by omega)
      · rw [r2] at hj
        rw [r3]
        by_cases h:k < T.us.length
        · rw [if_pos h] at hj ⊢; exact H.uh k h j hj
        · rw [if_neg h,if_pos (by omega)] at hj ⊢; rw [z4 j hj]; rfl
      · rw [r1]
        by_cases h:k < T.us.length
        · rw [if_pos h,cold _ (H.rlt k h)]; exact H.c1 k h
        · rw [if_neg h,if_pos (by omega),cnew,if_neg h,if_pos (by omega)]
          exact Int.emod_eq_of_lt (by decide) (by have:=hp.1; omega)
      · rw [r1] at hi'
        by_cases h:k < T.us.length
        · rw [if_pos h] at hi'
          rw [cold _ (Nat.lt_trans hi' (H.rlt k h))]; exact H.cz k h i' hi'
        · rw [if_neg h,if_pos (by omega)] at hi'
          have ek:k=T.us.length:=by omega
          subst ek
          rw [cold i' hi',cnr i' hi']; rfl
      · rw [B8]
        by_cases e:i'=i
        · subst e
          rw [hA j hj,s2 j hj,r3,if_neg (by omega),if_pos rfl,cnew,if_neg (by omega),if_pos rfl,Int.one_mul,Int.add_comm]
          refine Jk (Dn fun k hk => ?_) rfl
          rw [cnew,if_pos hk,r3,if_pos hk]
        · rw [H.made i' (by omega) j hj,cold i' (by omega),cnr i' (by omega),Int.zero_mul,Int.add_zero]
          refine Dn fun k hk => ?_
          rw [cold i' (by omega),r3,if_pos hk]
    · intro k hk
      rw [us1] at hk
      rw [r3,r2,r4]
      by_cases h:k < T.us.length
      · rw [if_pos h,if_pos h,if_pos h]; exact K.inv k h
      · rw [if_neg h,if_pos (by omega),if_neg h,if_pos (by omega),if_neg h,if_pos (by omega)]
        exact (Ir hp.1 hp.2 rn (Hs hP rn z3)).2
theorem Zn {P R C:Nat} {l:List Int} (hP:Prm P) (hp:Md P) (hl:l.length=R * C) (hin:∀ a ∈ l,In P a):∀ i,i ≤ R → TkC P C i (cl C l) (tkN P C l i)
  | 0,_ => ⟨TkI.zero _ _,⟨fun k h => absurd h (Nat.not_lt_zero k),fun j k _ h => absurd h (Nat.not_lt_zero k),fun k h => absurd h (Nat.not_lt_zero k),fun k h => absurd h (Nat.not_lt_zero k),fun j k _ h => absurd h (Nat.not_lt_zero k),fun k h => absurd h (Nat.not_lt_zero k),fun k h => absurd h (Nat.not_lt_zero k),fun k h => absurd h (Nat.not_lt_zero k),fun i h => absurd h (Nat.not_lt_zero i)⟩,fun k h => absurd h (Nat.not_lt_zero k)⟩
  | i + 1,h => Au4 hP hp (Zn hP hp hl hin i (by omega)) (fun a ha => hin a (Hc ha)) (Gd hl (by omega)) fun j hj => by rw [Zu hl (by omega) hj]
end Go.Proofs.Ythnfphgjfpcpbaa.TM
namespace Go.Proofs.Ythnfphgjfpcpbaa.TM
open Go Go.RowKit
attribute [local irreducible] K W Dg Effs Xg Xo Xr Xdg Xdo Xdr Xif CallsP CallR
theorem Ac4 {P:Nat} (hP:Prm P) (r c:Int) (l:List Int) (hl:l.length ≤ maxLen) (wl:W64s l):CallsP Try.prog 46 [u64 P,C3 r c l] (.tup [Yn (Un P r c l).1,i64 (Un P r c l).2]):=by
  unfold Un
  cases h:Ju P r c l with
  | false => exact Vm hl h
  | true =>
    obtain ⟨R,C,rfl,rfl,M⟩:=Ti h
    have:=Um hP M (fun a ha => Pz M.has wl ha)
    simpa using this
end Go.Proofs.Ythnfphgjfpcpbaa.TM
namespace Go.Proofs.Ythnfphgjfpcpbaa.TM
open Go Go.RowKit
attribute [local irreducible] K W Dg Effs Xg Xo Xr Xdg Xdo Xdr Xif CallsP CallR
structure CupW (p:Int) (R C:Nat) (c:Cy):Prop where
  ql:c.2.1.length=c.1.length
  ul:c.2.2.2.length=c.1.length
  cl:c.2.2.1.length=R
  rb:∀ a ∈ c.1,0 ≤ a ∧ a < R
  qb:∀ a ∈ c.2.1,0 ≤ a ∧ a < C
  ur:∀ u ∈ c.2.2.2,u.length=C ∧ ∀ a ∈ u,In p a
  cr:∀ x ∈ c.2.2.1,x.length=c.1.length ∧ ∀ a ∈ x,In p a
  nz:∀ k,k < c.1.length → (c.2.2.2.getD k []).getD (c.2.1.getD k 0).toNat 0 ≠ 0
  rle:c.1.length ≤ R
theorem C0 {α:Type} {l:List α} {d:α} {i:Nat} (h:i < l.length):l.getD i d ∈ l:=by
  rw [List.getD_eq_getElem?_getD,List.getElem?_eq_getElem h]; exact List.getElem_mem h
theorem D3 {α:Type} {l:List α} {d:α} {i:Nat} (h:i < l.length):l[i]?=some (l.getD i d):=by
  rw [List.getD_eq_getElem?_getD,List.getElem?_eq_getElem h]; rfl
theorem W4 {α:Type} {l:List α} {d:α} {i:Nat} (h:i < l.length):l.take (i + 1)=l.take i ++ [l.getD i d]:=by
  rw [List.take_add_one,D3 h]; rfl
def C5 (p:Int) (c:Cy):List Int:=tbl c.2.2.2.length (fun k => D7 p ((c.2.2.2.getD k []).getD (c.2.1.getD k 0).toNat 0))
abbrev D1 (p r c:Int) (l:List Int) (t:Cy) (vs:List Int):PV:=.agg [li t.1,li t.2.1,llP t.2.2.1,llP t.2.2.2,u64 p,i64 r,i64 c,lu l,lu vs]
theorem Ko {p a b:Int} (r c:Int) (l:List Int) (t:Cy) (vs:List Int) (hp:Md p) (ha:In p a) (hb:In p b):CallsP Try.prog 98 [D1 p r c l t vs,u64 a,u64 b] (u64 ((a - b) % p)):=by
  have q:=Aw6 hp ha hb
  refine Bj (n:=18) (m:=3) (rs:=[.tmp 6]) Try.func98 rfl rfl rfl rfl (by decide) fun base => ?_
  repeat (first|((first|refine Bd rfl (by simp only [tys]) ?_|refine Bc rfl (by simp only [tys]) ?_); apply Exists.intro; apply And.intro; (focus (simp -dsimp only [simx,zzC,zzB,tys,ite_self,A8,A2,Ax,Aq,Ao,At,Az,Ac,A5,PV.sk,Ai,Ar,As,Ap,Ay,Ab,Aj,Am,A9,Value.oneCell',Ah,Ba,Aw,A4,A1,Al,An,Ae,Ak,isZ,A6,A3,Ad,Aa,Ag,A0,Af,↓reduceIte,reduceSub,reduceEqDiff,reduceAdd,reduceMul,reduceLT,reduceLeDiff,reduceToNat,reduceLE,Int.reduceLT,reduceNeg,reduceCtorEq,zzL,if_true,if_false] <;> rfl)); apply Exists.intro; apply And.intro; (focus (first|exact q)))|refine Bg rfl ?_|refine Bb rfl ?_|refine ⟨(dxX (by kernel_rfl)),?_⟩|exact (dxX (by kernel_rfl))|simp -dsimp (maxSteps:=20000000) (disch:=omega) only [simx,zzC,zzB,tys,ite_self,A8,A2,Ax,Aq,Ao,At,Az,Ac,A5,PV.sk,Ai,Ar,As,Ap,Ay,Ab,Aj,Am,A9,Value.oneCell',Ah,Ba,Aw,A4,A1,Al,An,Ae,Ak,isZ,A6,A3,Ad,Aa,Ag,A0,Af,↓reduceIte,reduceSub,reduceEqDiff,reduceAdd,reduceMul,reduceLT,reduceLeDiff,reduceToNat,reduceLE,Int.reduceLT,reduceNeg,reduceCtorEq,zzR,gos,Int.reduceAdd,Int.reduceSub,Int.reduceMul,reduceEq])
theorem Kq {p a b:Int} (r c:Int) (l:List Int) (t:Cy) (vs:List Int) (hp:Md p) (ha:In p a) (hb:In p b):CallsP Try.prog 99 [D1 p r c l t vs,u64 a,u64 b] (u64 (a * b % p)):=by
  have q:=Y5 hp ha hb
  refine Bj (n:=18) (m:=3) (rs:=[.tmp 6]) Try.func99 rfl rfl rfl rfl (by decide) fun base => ?_
  repeat (first|((first|refine Bd rfl (by simp only [tys]) ?_|refine Bc rfl (by simp only [tys]) ?_); apply Exists.intro; apply And.intro; (focus (simp -dsimp only [simx,zzC,zzB,tys,ite_self,A8,A2,Ax,Aq,Ao,At,Az,Ac,A5,PV.sk,Ai,Ar,As,Ap,Ay,Ab,Aj,Am,A9,Value.oneCell',Ah,Ba,Aw,A4,A1,Al,An,Ae,Ak,isZ,A6,A3,Ad,Aa,Ag,A0,Af,↓reduceIte,reduceSub,reduceEqDiff,reduceAdd,reduceMul,reduceLT,reduceLeDiff,reduceToNat,reduceLE,Int.reduceLT,reduceNeg,reduceCtorEq,zzL,if_true,if_false] <;> rfl)); apply Exists.intro; apply And.intro; (focus (first|exact q)))|refine Bg rfl ?_|refine Bb rfl ?_|refine ⟨(dxX (by kernel_rfl)),?_⟩|exact (dxX (by kernel_rfl))|simp -dsimp (maxSteps:=20000000) (disch:=omega) only [simx,zzC,zzB,tys,ite_self,A8,A2,Ax,Aq,Ao,At,Az,Ac,A5,PV.sk,Ai,Ar,As,Ap,Ay,Ab,Aj,Am,A9,Value.oneCell',Ah,Ba,Aw,A4,A1,Al,An,Ae,Ak,isZ,A6,A3,Ad,Aa,Ag,A0,Af,↓reduceIte,reduceSub,reduceEqDiff,reduceAdd,reduceMul,reduceLT,reduceLeDiff,reduceToNat,reduceLE,Int.reduceLT,reduceNeg,reduceCtorEq,zzR,gos,Int.reduceAdd,Int.reduceSub,Int.reduceMul,reduceEq])
theorem Hn (p:Int) (b:List Int) (n:Int) (hb:b.length ≤ maxLen):CallsP Try.prog 56 [u64 p,lu b,i64 n] (bl (Fe p b && decide ((b.length:Int)=n))):=by
  have q:=Gg p b hb
  cases h:Fe p b with
  | false =>
    rw [h] at q
    refine Bj (n:=16) (m:=3) (rs:=[.tmp 6]) Try.func56 rfl rfl rfl rfl (by decide) fun base => ?_
    repeat (first|((first|refine Bd rfl (by simp only [tys]) ?_|refine Bc rfl (by simp only [tys]) ?_); apply Exists.intro; apply And.intro; (focus (simp -dsimp only [simx,zzC,zzB,tys,ite_self,A8,A2,Ax,Aq,Ao,At,Az,Ac,A5,PV.sk,Ai,Ar,As,Ap,Ay,Ab,Aj,Am,A9,Value.oneCell',Ah,Ba,Aw,A4,A1,Al,An,Ae,Ak,isZ,A6,A3,Ad,Aa,Ag,A0,Af,↓reduceIte,reduceSub,reduceEqDiff,reduceAdd,reduceMul,reduceLT,reduceLeDiff,reduceToNat,reduceLE,Int.reduceLT,reduceNeg,reduceCtorEq,zzL,if_true,if_false] <;> rfl)); apply Exists.intro; apply And.intro; (focus (first|exact q)))|refine Bg rfl ?_|refine Bb rfl ?_|refine ⟨(dxX (by kernel_rfl)),?_⟩|exact (dxX (by kernel_rfl))|simp -dsimp (maxSteps:=20000000) (disch:=omega) only [simx,zzC,zzB,tys,ite_self,A8,A2,Ax,Aq,Ao,At,Az,Ac,A5,PV.sk,Ai,Ar,As,Ap,Ay,Ab,Aj,Am,A9,Value.oneCell',Ah,Ba,Aw,A4,A1,Al,An,Ae,Ak,isZ,A6,A3,Ad,Aa,Ag,A0,Af,↓reduceIte,reduceSub,reduceEqDiff,reduceAdd,reduceMul,reduceLT,reduceLeDiff,reduceToNat,reduceLE,Int.reduceLT,reduceNeg,reduceCtorEq,zzR,gos,Int.reduceAdd,Int.reduceSub,Int.reduceMul,reduceEq])
  | true =>
    rw [h] at q
    refine Bj (n:=16) (m:=3) (rs:=[.tmp 6]) Try.func56 rfl rfl rfl rfl (by decide) fun base => ?_
    repeat (first|((first|refine Bd rfl (by simp only [tys]) ?_|refine Bc rfl (by simp only [tys]) ?_); apply Exists.intro; apply And.intro; (focus (simp -dsimp only [simx,zzC,zzB,tys,ite_self,A8,A2,Ax,Aq,Ao,At,Az,Ac,A5,PV.sk,Ai,Ar,As,Ap,Ay,Ab,Aj,Am,A9,Value.oneCell',Ah,Ba,Aw,A4,A1,Al,An,Ae,Ak,isZ,A6,A3,Ad,Aa,Ag,A0,Af,↓reduceIte,reduceSub,reduceEqDiff,reduceAdd,reduceMul,reduceLT,reduceLeDiff,reduceToNat,reduceLE,Int.reduceLT,reduceNeg,reduceCtorEq,zzL,if_true,if_false] <;> rfl)); apply Exists.intro; apply And.intro; (focus (first|exact q)))|refine Bg rfl ?_|refine Bb rfl ?_|refine ⟨(dxX (by kernel_rfl)),?_⟩|exact (dxX (by kernel_rfl))|simp -dsimp (maxSteps:=20000000) (disch:=omega) only [simx,zzC,zzB,tys,ite_self,A8,A2,Ax,Aq,Ao,At,Az,Ac,A5,PV.sk,Ai,Ar,As,Ap,Ay,Ab,Aj,Am,A9,Value.oneCell',Ah,Ba,Aw,A4,A1,Al,An,Ae,Ak,isZ,A6,A3,Ad,Aa,Ag,A0,Af,↓reduceIte,reduceSub,reduceEqDiff,reduceAdd,reduceMul,reduceLT,reduceLeDiff,reduceToNat,reduceLE,Int.reduceLT,reduceNeg,reduceCtorEq,zzR,gos,Int.reduceAdd,Int.reduceSub,Int.reduceMul,reduceEq])
    by_cases e:(b.length:Int)=n <;> simp [e]
def Hj (a:Int):List Int → Nat → Int
  | [],_ => -1
  | x::l,k => if a=x then k else Hj a l (k + 1)
theorem Mc (a:Int):∀ (l:List Int) (k:Nat),0 ≤ Hj a l k ↔ a ∈ l
  | [],k => by simp [Hj]
  | x::l,k => by
    rw [Hj]
    by_cases h:a=x
    · rw [if_pos h]; simp [h]
    · rw [if_neg h,Mc a l (k + 1)]; simp [h]
theorem Aj0 (l:List Int) (a:Int) (hl:l.length ≤ maxLen):CallsP Try.prog 100 [li l,i64 a] (i64 (Hj a l 0)):=by
  rw [B3] at hl
  refine Bj (n:=19) (m:=2) (rs:=[.tmp 4]) Try.func100 rfl rfl rfl rfl (by decide) fun base => ?_
  repeat (first|refine Bg rfl ?_|refine Bb rfl ?_|refine ⟨(dxX (by kernel_rfl)),?_⟩|exact (dxX (by kernel_rfl))|simp -dsimp (maxSteps:=20000000) (disch:=omega) only [simx,zzC,zzB,tys,ite_self,A8,A2,Ax,Aq,Ao,At,Az,Ac,A5,PV.sk,Ai,Ar,As,Ap,Ay,Ab,Aj,Am,A9,Value.oneCell',Ah,Ba,Aw,A4,A1,Al,An,Ae,Ak,isZ,A6,A3,Ad,Aa,Ag,A0,Af,↓reduceIte,reduceSub,reduceEqDiff,reduceAdd,reduceMul,reduceLT,reduceLeDiff,reduceToNat,reduceLE,Int.reduceLT,reduceNeg,reduceCtorEq,gos,Int.reduceAdd,Int.reduceSub,Int.reduceMul,reduceEq])
  refine B5 [0,1,7,8] [] (0) (l.length) (fun j => Hj a (l.drop j) j=Hj a l 0) (fun j => [(8,i64 j)]) (fun j => Heap.none) ?_ ?_ ?_ ?_ ?_ (by decide) ?_
  · exact (Bl)
  · ((simp -dsimp (disch:=omega) only [simx,zzB,tys,ite_self,A8,A2,Ax,Aq,Ao,At,Az,Ac,A5,PV.sk,Ai,Ar,As,Ap,Ay,Ab,Aj,Am,A9,Value.oneCell',Ah,Ba,Aw,A4,A1,Al,An,Ae,Ak,isZ,A6,A3,Ad,Aa,Ag,A0,Af,↓reduceIte,reduceSub,reduceEqDiff,reduceAdd,reduceMul,reduceLT,reduceLeDiff,reduceToNat,reduceLE,Int.reduceLT,reduceNeg,reduceCtorEq,gos,Int.reduceAdd,Int.reduceSub,Int.reduceMul,reduceEq]) <;> first|rfl|simp)
  · exact drop_nil _
  · omega
  · rfl
  · intro j hj hf
    by_cases c:j < l.length
    · have g1:l[j]?=some l[j]:=List.getElem?_eq_getElem c
      rw [List.drop_eq_getElem_cons c,Hj] at hf
      generalize l[j]=x at g1 hf
      by_cases e:a=x
      · rw [if_pos e] at hf
        subst e
        rw [← hf]
        repeat (first|refine Bg rfl ?_|refine Bb rfl ?_|refine ⟨(dxX (by kernel_rfl)),?_⟩|exact (dxX (by kernel_rfl))|simp -dsimp (maxSteps:=20000000) (disch:=omega) only [simx,zzC,zzB,tys,ite_self,A8,A2,Ax,Aq,Ao,At,Az,Ac,A5,PV.sk,Ai,Ar,As,Ap,Ay,Ab,Aj,Am,A9,Value.oneCell',Ah,Ba,Aw,A4,A1,Al,An,Ae,Ak,isZ,A6,A3,Ad,Aa,Ag,A0,Af,↓reduceIte,reduceSub,reduceEqDiff,reduceAdd,reduceMul,reduceLT,reduceLeDiff,reduceToNat,reduceLE,Int.reduceLT,reduceNeg,reduceCtorEq,zzR,gos,Int.reduceAdd,Int.reduceSub,Int.reduceMul,reduceEq,c,g1])
      · rw [if_neg e] at hf
        repeat (first|refine Bg rfl ?_|refine Bb rfl ?_|refine ⟨(dxX (by kernel_rfl)),?_⟩|exact (dxX (by kernel_rfl))|simp -dsimp (maxSteps:=20000000) (disch:=omega) only [simx,zzC,zzB,tys,ite_self,A8,A2,Ax,Aq,Ao,At,Az,Ac,A5,PV.sk,Ai,Ar,As,Ap,Ay,Ab,Aj,Am,A9,Value.oneCell',Ah,Ba,Aw,A4,A1,Al,An,Ae,Ak,isZ,A6,A3,Ad,Aa,Ag,A0,Af,↓reduceIte,reduceSub,reduceEqDiff,reduceAdd,reduceMul,reduceLT,reduceLeDiff,reduceToNat,reduceLE,Int.reduceLT,reduceNeg,reduceCtorEq,gos,Int.reduceAdd,Int.reduceSub,Int.reduceMul,reduceEq,c,g1,e])
        exact ⟨c,(Bl),hf,rfl,drop_nil _⟩
    · have hj:j=l.length:=by omega
      subst hj
      rw [List.drop_length,Hj] at hf
      rw [← hf]
      repeat (first|refine Bg rfl ?_|refine Bb rfl ?_|refine ⟨(dxX (by kernel_rfl)),?_⟩|exact (dxX (by kernel_rfl))|simp -dsimp (maxSteps:=20000000) (disch:=omega) only [simx,zzC,zzB,tys,ite_self,A8,A2,Ax,Aq,Ao,At,Az,Ac,A5,PV.sk,Ai,Ar,As,Ap,Ay,Ab,Aj,Am,A9,Value.oneCell',Ah,Ba,Aw,A4,A1,Al,An,Ae,Ak,isZ,A6,A3,Ad,Aa,Ag,A0,Af,↓reduceIte,reduceSub,reduceEqDiff,reduceAdd,reduceMul,reduceLT,reduceLeDiff,reduceToNat,reduceLE,Int.reduceLT,reduceNeg,reduceCtorEq,zzR,gos,Int.reduceAdd,Int.reduceSub,Int.reduceMul,reduceEq])
theorem F1 (l:List Int) (a:Int) (hl:l.length ≤ maxLen):CallsP Try.prog 63 [li l,i64 a] (bl (decide (a ∈ l))):=by
  have q:=Aj0 l a hl
  have e:=Mc a l 0
  by_cases h:a ∈ l
  · have h1:=e.2 h
    rw [decide_eq_true h]
    generalize Hj a l 0=x at q h1
    refine Bj (n:=9) (m:=2) (rs:=[.tmp 4]) Try.func63 rfl rfl rfl rfl (by decide) fun base => ?_
    repeat (first|((first|refine Bd rfl (by simp only [tys]) ?_|refine Bc rfl (by simp only [tys]) ?_); apply Exists.intro; apply And.intro; (focus (simp -dsimp only [simx,zzC,zzB,tys,ite_self,A8,A2,Ax,Aq,Ao,At,Az,Ac,A5,PV.sk,Ai,Ar,As,Ap,Ay,Ab,Aj,Am,A9,Value.oneCell',Ah,Ba,Aw,A4,A1,Al,An,Ae,Ak,isZ,A6,A3,Ad,Aa,Ag,A0,Af,↓reduceIte,reduceSub,reduceEqDiff,reduceAdd,reduceMul,reduceLT,reduceLeDiff,reduceToNat,reduceLE,Int.reduceLT,reduceNeg,reduceCtorEq,zzL,if_true,if_false] <;> rfl)); apply Exists.intro; apply And.intro; (focus (first|exact q)))|refine Bg rfl ?_|refine Bb rfl ?_|refine ⟨(dxX (by kernel_rfl)),?_⟩|exact (dxX (by kernel_rfl))|simp -dsimp (maxSteps:=20000000) (disch:=omega) only [simx,zzC,zzB,tys,ite_self,A8,A2,Ax,Aq,Ao,At,Az,Ac,A5,PV.sk,Ai,Ar,As,Ap,Ay,Ab,Aj,Am,A9,Value.oneCell',Ah,Ba,Aw,A4,A1,Al,An,Ae,Ak,isZ,A6,A3,Ad,Aa,Ag,A0,Af,↓reduceIte,reduceSub,reduceEqDiff,reduceAdd,reduceMul,reduceLT,reduceLeDiff,reduceToNat,reduceLE,Int.reduceLT,reduceNeg,reduceCtorEq,zzR,gos,Int.reduceAdd,Int.reduceSub,Int.reduceMul,reduceEq,h1])
  · have h1:¬ 0 ≤ Hj a l 0:=fun h2 => h (e.1 h2)
    rw [decide_eq_false h]
    generalize Hj a l 0=x at q h1
    refine Bj (n:=9) (m:=2) (rs:=[.tmp 4]) Try.func63 rfl rfl rfl rfl (by decide) fun base => ?_
    repeat (first|((first|refine Bd rfl (by simp only [tys]) ?_|refine Bc rfl (by simp only [tys]) ?_); apply Exists.intro; apply And.intro; (focus (simp -dsimp only [simx,zzC,zzB,tys,ite_self,A8,A2,Ax,Aq,Ao,At,Az,Ac,A5,PV.sk,Ai,Ar,As,Ap,Ay,Ab,Aj,Am,A9,Value.oneCell',Ah,Ba,Aw,A4,A1,Al,An,Ae,Ak,isZ,A6,A3,Ad,Aa,Ag,A0,Af,↓reduceIte,reduceSub,reduceEqDiff,reduceAdd,reduceMul,reduceLT,reduceLeDiff,reduceToNat,reduceLE,Int.reduceLT,reduceNeg,reduceCtorEq,zzL,if_true,if_false] <;> rfl)); apply Exists.intro; apply And.intro; (focus (first|exact q)))|refine Bg rfl ?_|refine Bb rfl ?_|refine ⟨(dxX (by kernel_rfl)),?_⟩|exact (dxX (by kernel_rfl))|simp -dsimp (maxSteps:=20000000) (disch:=omega) only [simx,zzC,zzB,tys,ite_self,A8,A2,Ax,Aq,Ao,At,Az,Ac,A5,PV.sk,Ai,Ar,As,Ap,Ay,Ab,Aj,Am,A9,Value.oneCell',Ah,Ba,Aw,A4,A1,Al,An,Ae,Ak,isZ,A6,A3,Ad,Aa,Ag,A0,Af,↓reduceIte,reduceSub,reduceEqDiff,reduceAdd,reduceMul,reduceLT,reduceLeDiff,reduceToNat,reduceLE,Int.reduceLT,reduceNeg,reduceCtorEq,zzR,gos,Int.reduceAdd,Int.reduceSub,Int.reduceMul,reduceEq,h1])
theorem Dx {P R C:Nat} {l:List Int} (hP:Prm P) (M:Mt P R C l) (hin:∀ a ∈ l,In P a):CupW P R C (Bf P C R l):=by
  have I:=Nk hP M hin R (Nat.le_refl R)
  unfold Bf
  generalize hT:tkN P C l R=T at I
  have one:In (P:Int) 0:=⟨by decide,by have:=M.hp.1; omega⟩
  refine ⟨by simp only; rw [I.ql,I.rl],by simp only; rw [I.rl],by simp [I.cl],I.rb,I.qb,I.ul,fun x hx => ?_,?_,by simp only; rw [I.rl]; exact I.ri⟩
  · obtain ⟨c,hc,rfl⟩:=List.mem_map.1 hx
    obtain ⟨h1,h2⟩:=I.cb c hc
    refine ⟨by unfold Vd; simp [I.rl]; omega,fun a ha => ?_⟩
    unfold Vd at ha
    rcases List.mem_append.1 ha with ha|ha
    · exact h2 a ha
    · rw [List.eq_of_mem_replicate ha]; exact one
  · intro k hk
    have hk2:k < T.us.length:=by rw [← I.rl]; exact hk
    have:∀ i,i ≤ R → ∀ k,k < (tkN P C l i).us.length → ((tkN P C l i).us.getD k []).getD ((tkN P C l i).cols.getD k 0).toNat 0 ≠ 0:=by
      intro i
      induction i with
      | zero => intro _ k hk; exact absurd hk (Nat.not_lt_zero k)
      | succ i ih =>
        intro hi k hk
        have J:=Nk hP M hin i (by omega)
        have ih:=ih (by omega)
        have e:tkN P C l (i + 1)=Cz P (tkN P C l i) i (Df C l i):=rfl
        rw [e] at hk ⊢
        generalize tkN P C l i=T at J ih hk
        rcases Gf (Eb P T (Df C l i)) 0 with ⟨z1,_⟩|⟨n,z1,z2,z3,_⟩
        · obtain ⟨_,t2,t3,_⟩:=Ul (p:=P) (T:=T) (row:=Df C l i) (x:=i) (by rw [z1]; decide)
          rw [t3] at hk
          rw [t2,t3]; exact ih k hk
        · obtain ⟨_,t2,t3,_⟩:=Ov (p:=P) (T:=T) (row:=Df C l i) (x:=i) (by rw [z1]; omega)
          rw [t3,List.length_append,List.length_singleton] at hk
          rw [t2,t3,z1]
          have ql:=J.ql
          by_cases c:k < T.us.length
          · have e1:(T.us ++ [Eb P T (Df C l i)]).getD k []=T.us.getD k []:=by rw [List.getD_eq_getElem?_getD,List.getElem?_append_left c,List.getD_eq_getElem?_getD]
            have e2:(T.cols ++ [((0 + n:Nat):Int)]).getD k 0=T.cols.getD k 0:=by rw [List.getD_eq_getElem?_getD,List.getElem?_append_left (by omega),List.getD_eq_getElem?_getD]
            rw [e1,e2]; exact ih k c
          · have ek:k=T.us.length:=by omega
            have e1:(T.us ++ [Eb P T (Df C l i)]).getD k []=Eb P T (Df C l i):=by rw [List.getD_eq_getElem?_getD,List.getElem?_append_right (by omega),ek]; simp
            have e2:(T.cols ++ [((0 + n:Nat):Int)]).getD k 0=((0 + n:Nat):Int):=by rw [List.getD_eq_getElem?_getD,List.getElem?_append_right (by omega),ek,ql]; simp
            rw [e1,e2,show (((0 + n:Nat):Int)).toNat=n by omega]; exact z3
    have:=this R (Nat.le_refl R) k (by rw [hT]; exact hk2)
    rw [hT] at this
    exact this
set_option maxHeartbeats 2000000 in
theorem Gy {P R C:Nat} {l:List Int} (hP:Prm P) (M:Mt P R C l) (hin:∀ a ∈ l,In P a):CallsP Try.prog 57 [u64 P,C3 R C l] (.tup [D1 P R C l (Bf P C R l) (C5 P (Bf P C R l)),i64 0]):=by
  have q1:=Um hP M hin
  have hw:=Dx hP M hin
  have r2:=M.r2
  have c1:=M.c1
  have c2:=M.c2
  generalize Bf P C R l=c at q1 hw
  obtain ⟨rw0,cw,cc,uu⟩:=c
  have rle:=hw.rle
  have ul:=hw.ul
  have ql:=hw.ql
  simp only at rle ul ql
  refine Bj (n:=53) (m:=2) (rs:=[.cell 4 76,.tmp 5]) Try.func57 rfl rfl rfl rfl (by decide) fun base => ?_
  repeat (first|((first|refine Bd rfl (by simp only [tys]) ?_|refine Bc rfl (by simp only [tys]) ?_); apply Exists.intro; apply And.intro; (focus (simp -dsimp only [simx,zzC,zzB,tys,ite_self,A8,A2,Ax,Aq,Ao,At,Az,Ac,A5,PV.sk,Ai,Ar,As,Ap,Ay,Ab,Aj,Am,A9,Value.oneCell',Ah,Ba,Aw,A4,A1,Al,An,Ae,Ak,isZ,A6,A3,Ad,Aa,Ag,A0,Af,↓reduceIte,reduceSub,reduceEqDiff,reduceAdd,reduceMul,reduceLT,reduceLeDiff,reduceToNat,reduceLE,Int.reduceLT,reduceNeg,reduceCtorEq,zzL,if_true,if_false] <;> rfl)); apply Exists.intro; apply And.intro; (focus (first|exact q1)))|refine Bg rfl ?_|refine Bb rfl ?_|refine ⟨(dxX (by kernel_rfl)),?_⟩|exact (dxX (by kernel_rfl))|simp -dsimp (maxSteps:=20000000) (disch:=omega) only [simx,zzC,zzB,tys,ite_self,A8,A2,Ax,Aq,Ao,At,Az,Ac,A5,PV.sk,Ai,Ar,As,Ap,Ay,Ab,Aj,Am,A9,Value.oneCell',Ah,Ba,Aw,A4,A1,Al,An,Ae,Ak,isZ,A6,A3,Ad,Aa,Ag,A0,Af,↓reduceIte,reduceSub,reduceEqDiff,reduceAdd,reduceMul,reduceLT,reduceLeDiff,reduceToNat,reduceLE,Int.reduceLT,reduceNeg,reduceCtorEq,gos,Int.reduceAdd,Int.reduceSub,Int.reduceMul,reduceEq,SK.len])
  refine B5 [0,4,6,7,8,24,25,26] [(7,3)::base] (0) (rw0.length) (fun j => True) (fun j => [(25,i64 rw0.length),(26,i64 j)]) (fun j => C9 ((((Heap.none.put ((0,0)::base) (.var [i64 R,i64 C,lu l])).put ((0,1)::base) (.var [Dk,Dk,Dk,Dk,u64 0,i64 0,i64 0,Dk,Dk])).put ((1,6)::base) (.var [li rw0,li cw,llP cc,llP uu])).put ((2,4)::base) (.var [li rw0,li cw,llP cc,llP uu,u64 P,i64 R,i64 C,lu l,rowP ((7,4)::base) 1 j ((tbl j (fun k => D7 P ((uu.getD k []).getD (cw.getD k 0).toNat 0))).map iu)])) ((7,4)::base) j ((tbl j (fun k => D7 P ((uu.getD k []).getD (cw.getD k 0).toNat 0))).map iu)) ?_ ?_ ?_ ?_ ?_ (by decide) ?_
  · exact (Bv (by simp only [Heap.none_at]) (by (simp -dsimp only [zzB,tys,ite_self,A8,A2,Ax,Aq,Ao,At,Az,Ac,A5,PV.sk,Ai,Ar,As,Ap,Ay,Ab,Aj,Am,A9,Value.oneCell',Ah,Ba,Aw,A4,A1,Al,An,Ae,Ak,isZ,A6,A3,Ad,Aa,Ag,A0,Af,↓reduceIte,reduceSub,reduceEqDiff,reduceAdd,reduceMul,reduceLT,reduceLeDiff,reduceToNat,reduceLE,Int.reduceLT,reduceNeg,reduceCtorEq,Bm,Bo]) <;> simp [Bs,Bn,Be]) (by repeat (first|exact Bx _|refine Bp ?_|refine B4 ?_|refine Bt ?_|refine Bu ?_ (by simp [Bs,Bn,Be]))) (Bl))
  · repeat (first|refine Bg rfl ?_|refine Bb rfl ?_|refine ⟨(dxX (by kernel_rfl)),?_⟩|exact (dxX (by kernel_rfl))|simp -dsimp (maxSteps:=20000000) (disch:=omega) only [simx,zzC,zzB,tys,ite_self,A8,A2,Ax,Aq,Ao,At,Az,Ac,A5,PV.sk,Ai,Ar,As,Ap,Ay,Ab,Aj,Am,A9,Value.oneCell',Ah,Ba,Aw,A4,A1,Al,An,Ae,Ak,isZ,A6,A3,Ad,Aa,Ag,A0,Af,↓reduceIte,reduceSub,reduceEqDiff,reduceAdd,reduceMul,reduceLT,reduceLeDiff,reduceToNat,reduceLE,Int.reduceLT,reduceNeg,reduceCtorEq,gos,Int.reduceAdd,Int.reduceSub,Int.reduceMul,reduceEq,Bk,ul])
    rfl
  · funext c
    simp (maxSteps:=20000000) only [Heap.drop_at,Bh,Heap.put_at,Heap.none_at,List.mem_cons,List.not_mem_nil,or_false]
    by_cases e0:c=(0,0)::base
    · subst e0; simp [Bk,Ci]
    by_cases e1:c=(0,1)::base
    · subst e1; simp [Bk,Ci]
    by_cases e2:c=(1,6)::base
    · subst e2; simp [Bk,Ci]
    by_cases e3:c=(2,4)::base
    · subst e3; simp [Bk,Ci]
    by_cases e4:c=(7,3)::base
    · subst e4; simp [Bk,Ci]
    simp [e0,e1,e2,e3,e4,Bk,Ci]
  · omega
  · trivial
  · intro j hj _
    by_cases cj:j < rw0.length
    · have hk:=hw.nz j cj
      have hq:=hw.qb (cw.getD j 0) (C0 (by simp only; omega))
      simp only at hk hq
      obtain ⟨q,hqe⟩:∃ q:Nat,cw.getD j 0=q:=⟨(cw.getD j 0).toNat,by omega⟩
      obtain ⟨u1,u2⟩:=hw.ur (uu.getD j []) (C0 (by simp only; omega))
      have tn:=Fx j (fun k => D7 P ((uu.getD k []).getD (cw.getD k 0).toNat 0))
      have tl:=Ca j (fun k => D7 P ((uu.getD k []).getD (cw.getD k 0).toNat 0))
      simp only [hqe,Int.toNat_natCast] at hk tn
      have qC:q < C:=by omega
      have g1:(uu.map fun u => IV.l u.length (u.map iu))[j]?=some (.l C ((uu.getD j []).map iu)):=by rw [List.getElem?_map,D3 (d:=[]) (by omega),Option.map_some,u1]
      have g2:(cw.map ii)[j]?=some (ii (q:Int)):=by rw [List.getElem?_map,D3 (d:=0) (by omega),Option.map_some,hqe]
      have g3:((uu.getD j []).map iu)[q]?=some (iu ((uu.getD j []).getD q 0)):=by rw [List.getElem?_map,getD_some u1 qC]; rfl
      have m1:=Zg hP M.hp (Ce u2 (i:=q) (by omega)) hk
      generalize tbl j (fun k => D7 P ((uu.getD k []).getD (cw.getD k 0).toNat 0))=TJ at tn tl ⊢
      obtain ⟨U,hU⟩:∃ U,uu.getD j []=U:=⟨_,rfl⟩
      rw [hU] at g1 g3 m1 tn
      generalize U.getD q 0=x at g3 m1 tn
      repeat (first|((first|refine Bd rfl (by simp only [tys]) ?_|refine Bc rfl (by simp only [tys]) ?_); apply Exists.intro; apply And.intro; (focus (simp -dsimp only [simx,zzC,zzB,tys,ite_self,A8,A2,Ax,Aq,Ao,At,Az,Ac,A5,PV.sk,Ai,Ar,As,Ap,Ay,Ab,Aj,Am,A9,Value.oneCell',Ah,Ba,Aw,A4,A1,Al,An,Ae,Ak,isZ,A6,A3,Ad,Aa,Ag,A0,Af,↓reduceIte,reduceSub,reduceEqDiff,reduceAdd,reduceMul,reduceLT,reduceLeDiff,reduceToNat,reduceLE,Int.reduceLT,reduceNeg,reduceCtorEq,zzL,if_true,if_false] <;> rfl)); apply Exists.intro; apply And.intro; (focus (first|exact m1)))|refine Bg rfl ?_|refine Bb rfl ?_|refine ⟨(dxX (by kernel_rfl)),?_⟩|exact (dxX (by kernel_rfl))|simp -dsimp (maxSteps:=20000000) (disch:=omega) only [simx,zzC,zzB,tys,ite_self,A8,A2,Ax,Aq,Ao,At,Az,Ac,A5,PV.sk,Ai,Ar,As,Ap,Ay,Ab,Aj,Am,A9,Value.oneCell',Ah,Ba,Aw,A4,A1,Al,An,Ae,Ak,isZ,A6,A3,Ad,Aa,Ag,A0,Af,↓reduceIte,reduceSub,reduceEqDiff,reduceAdd,reduceMul,reduceLT,reduceLeDiff,reduceToNat,reduceLE,Int.reduceLT,reduceNeg,reduceCtorEq,gos,Int.reduceAdd,Int.reduceSub,Int.reduceMul,reduceEq,cj,ul,ql,List.length_map,g1,g2,g3,qC])
      refine C4 (s:=(7,4)::base) (n:=j) (z:=1) (cs:=TJ.map iu) 22 [.int .u64 0] [iu (D7 P x)] (by simp only [tys]) (by simp only [tys]) rfl (by decide) (by simp [tl]) (by simp [Bh,Heap.put_at,Heap.none_at]) (by simp [Heap.put_at]; rfl) rfl (by simp only [tys]; omega) (by rw [B3]; omega) ?_
      rw [Bi]
      repeat (first|refine Bg rfl ?_|refine Bb rfl ?_|refine ⟨(dxX (by kernel_rfl)),?_⟩|exact (dxX (by kernel_rfl))|simp -dsimp (maxSteps:=20000000) (disch:=omega) only [simx,zzC,zzB,tys,ite_self,A8,A2,Ax,Aq,Ao,At,Az,Ac,A5,PV.sk,Ai,Ar,As,Ap,Ay,Ab,Aj,Am,A9,Value.oneCell',Ah,Ba,Aw,A4,A1,Al,An,Ae,Ak,isZ,A6,A3,Ad,Aa,Ag,A0,Af,↓reduceIte,reduceSub,reduceEqDiff,reduceAdd,reduceMul,reduceLT,reduceLeDiff,reduceToNat,reduceLE,Int.reduceLT,reduceNeg,reduceCtorEq,gos,Int.reduceAdd,Int.reduceSub,Int.reduceMul,reduceEq])
      refine ⟨cj,(Bv (by simp only [Heap.none_at]) (by (simp -dsimp only [zzB,tys,ite_self,A8,A2,Ax,Aq,Ao,At,Az,Ac,A5,PV.sk,Ai,Ar,As,Ap,Ay,Ab,Aj,Am,A9,Value.oneCell',Ah,Ba,Aw,A4,A1,Al,An,Ae,Ak,isZ,A6,A3,Ad,Aa,Ag,A0,Af,↓reduceIte,reduceSub,reduceEqDiff,reduceAdd,reduceMul,reduceLT,reduceLeDiff,reduceToNat,reduceLE,Int.reduceLT,reduceNeg,reduceCtorEq,Bm,Bo]) <;> simp [Bs,Bn,Be]) (by repeat (first|exact Bx _|refine Bp ?_|refine B4 ?_|refine Bt ?_|refine Bu ?_ (by simp [Bs,Bn,Be]))) (Bl)),rfl,?_⟩
      rw [tn,List.map_append]
      funext c
      simp (maxSteps:=20000000) only [Heap.drop_at,Bh,Heap.put_at,Heap.none_at,List.mem_cons,List.not_mem_nil,or_false]
      by_cases e0:c=(0,0)::base
      · subst e0; simp [Bi,De]
      by_cases e1:c=(0,1)::base
      · subst e1; simp [Bi,De]
      by_cases e2:c=(1,6)::base
      · subst e2; simp [Bi,De]
      by_cases e3:c=(2,4)::base
      · subst e3; simp [Bi,De]
      by_cases e4:c=(7,3)::base
      · subst e4; simp [Bi,De]
      by_cases e5:c=(7,4)::base
      · subst e5; simp [Bi,De]
      simp [e0,e1,e2,e3,e4,e5,Bi,De]
    · have ej:rw0.length=j:=by omega
      have tl:=Ca rw0.length (fun k => D7 P ((uu.getD k []).getD (cw.getD k 0).toNat 0))
      have iv:C5 P (rw0,cw,cc,uu)=tbl rw0.length (fun k => D7 P ((uu.getD k []).getD (cw.getD k 0).toNat 0)):=by unfold C5; simp only; rw [ul]
      rw [iv]
      subst ej
      generalize tbl rw0.length (fun k => D7 P ((uu.getD k []).getD (cw.getD k 0).toNat 0))=TJ at tl ⊢
      rcases hr:rw0.length with _|r
      · rw [hr] at tl
        have e0:TJ=[]:=List.eq_nil_of_length_eq_zero tl
        subst e0
        repeat (first|refine Bg rfl ?_|refine Bb rfl ?_|refine ⟨(dxX (by kernel_rfl)),?_⟩|exact (dxX (by kernel_rfl))|simp -dsimp (maxSteps:=20000000) (disch:=omega) only [simx,zzC,zzB,tys,ite_self,A8,A2,Ax,Aq,Ao,At,Az,Ac,A5,PV.sk,Ai,Ar,As,Ap,Ay,Ab,Aj,Am,A9,Value.oneCell',Ah,Ba,Aw,A4,A1,Al,An,Ae,Ak,isZ,A6,A3,Ad,Aa,Ag,A0,Af,↓reduceIte,reduceSub,reduceEqDiff,reduceAdd,reduceMul,reduceLT,reduceLeDiff,reduceToNat,reduceLE,Int.reduceLT,reduceNeg,reduceCtorEq,zzR,gos,Int.reduceAdd,Int.reduceSub,Int.reduceMul,reduceEq,hr,Bk,Ci])
        simp [hr]
      · rw [hr] at tl
        have nt:(TJ.map iu).take (r + 1)=TJ.map iu:=List.take_of_length_le (by simp [tl])
        repeat (first|refine Bg rfl ?_|refine Bb rfl ?_|refine ⟨(dxX (by kernel_rfl)),?_⟩|exact (dxX (by kernel_rfl))|simp -dsimp (maxSteps:=20000000) (disch:=omega) only [simx,zzC,zzB,tys,ite_self,A8,A2,Ax,Aq,Ao,At,Az,Ac,A5,PV.sk,Ai,Ar,As,Ap,Ay,Ab,Aj,Am,A9,Value.oneCell',Ah,Ba,Aw,A4,A1,Al,An,Ae,Ak,isZ,A6,A3,Ad,Aa,Ag,A0,Af,↓reduceIte,reduceSub,reduceEqDiff,reduceAdd,reduceMul,reduceLT,reduceLeDiff,reduceToNat,reduceLE,Int.reduceLT,reduceNeg,reduceCtorEq,zzR,gos,Int.reduceAdd,Int.reduceSub,Int.reduceMul,reduceEq,hr,Bi,De,List.length_map,tl,nt])
        simp [hr,tl]
theorem An1 {P:Nat} (hP:Prm P) {r c:Int} {l:List Int} (hl:l.length ≤ maxLen) (wl:W64s l) (h:Ju P r c l=false):CallsP Try.prog 57 [u64 P,C3 r c l] (.tup [D1 P r c l ([],[],[],[]) [],i64 1]):=by
  have q1:=Ac4 hP r c l hl wl
  rw [show Un P r c l=(([],[],[],[]),1) by unfold Un; rw [h]; rfl] at q1
  refine Bj (n:=53) (m:=2) (rs:=[.cell 4 76,.tmp 5]) Try.func57 rfl rfl rfl rfl (by decide) fun base => ?_
  repeat (first|((first|refine Bd rfl (by simp only [tys]) ?_|refine Bc rfl (by simp only [tys]) ?_); apply Exists.intro; apply And.intro; (focus (simp -dsimp only [simx,zzC,zzB,tys,ite_self,A8,A2,Ax,Aq,Ao,At,Az,Ac,A5,PV.sk,Ai,Ar,As,Ap,Ay,Ab,Aj,Am,A9,Value.oneCell',Ah,Ba,Aw,A4,A1,Al,An,Ae,Ak,isZ,A6,A3,Ad,Aa,Ag,A0,Af,↓reduceIte,reduceSub,reduceEqDiff,reduceAdd,reduceMul,reduceLT,reduceLeDiff,reduceToNat,reduceLE,Int.reduceLT,reduceNeg,reduceCtorEq,zzL,if_true,if_false] <;> rfl)); apply Exists.intro; apply And.intro; (focus (first|exact q1)))|refine Bg rfl ?_|refine Bb rfl ?_|refine ⟨(dxX (by kernel_rfl)),?_⟩|exact (dxX (by kernel_rfl))|simp -dsimp (maxSteps:=20000000) (disch:=omega) only [simx,zzC,zzB,tys,ite_self,A8,A2,Ax,Aq,Ao,At,Az,Ac,A5,PV.sk,Ai,Ar,As,Ap,Ay,Ab,Aj,Am,A9,Value.oneCell',Ah,Ba,Aw,A4,A1,Al,An,Ae,Ak,isZ,A6,A3,Ad,Aa,Ag,A0,Af,↓reduceIte,reduceSub,reduceEqDiff,reduceAdd,reduceMul,reduceLT,reduceLeDiff,reduceToNat,reduceLE,Int.reduceLT,reduceNeg,reduceCtorEq,gos,Int.reduceAdd,Int.reduceSub,Int.reduceMul,reduceEq,SK.len])
  refine B5 [0,4,6,7,8,24,25,26] [] (0) (0) (fun j => True) (fun j => [(26,i64 j)]) (fun j => ((((Heap.none.put ((0,0)::base) (.var [i64 r,i64 c,lu l])).put ((0,1)::base) (.var [Dk,Dk,Dk,Dk,u64 0,i64 0,i64 0,Dk,Dk])).put ((1,6)::base) (.var [li [],li [],llP [],llP []])).put ((2,4)::base) (.var [li [],li [],llP [],llP [],u64 P,i64 r,i64 c,lu l,Dk]))) ?_ ?_ ?_ ?_ ?_ (by decide) ?_
  · exact (Bl)
  · ((simp -dsimp (disch:=omega) only [simx,zzB,tys,ite_self,A8,A2,Ax,Aq,Ao,At,Az,Ac,A5,PV.sk,Ai,Ar,As,Ap,Ay,Ab,Aj,Am,A9,Value.oneCell',Ah,Ba,Aw,A4,A1,Al,An,Ae,Ak,isZ,A6,A3,Ad,Aa,Ag,A0,Af,↓reduceIte,reduceSub,reduceEqDiff,reduceAdd,reduceMul,reduceLT,reduceLeDiff,reduceToNat,reduceLE,Int.reduceLT,reduceNeg,reduceCtorEq,gos,Int.reduceAdd,Int.reduceSub,Int.reduceMul,reduceEq]) <;> first|rfl|simp)
  · funext c
    simp (maxSteps:=20000000) only [Heap.drop_at,Bh,Heap.put_at,Heap.none_at,List.mem_cons,List.not_mem_nil,or_false]
    by_cases e0:c=(0,0)::base
    · subst e0; simp []
    by_cases e1:c=(0,1)::base
    · subst e1; simp []
    by_cases e2:c=(1,6)::base
    · subst e2; simp []
    by_cases e3:c=(2,4)::base
    · subst e3; simp []
    simp [e0,e1,e2,e3]
  · omega
  · trivial
  · intro j hj _
    have:j=0:=by omega
    subst this
    repeat (first|refine Bg rfl ?_|refine Bb rfl ?_|refine ⟨(dxX (by kernel_rfl)),?_⟩|exact (dxX (by kernel_rfl))|simp -dsimp (maxSteps:=20000000) (disch:=omega) only [simx,zzC,zzB,tys,ite_self,A8,A2,Ax,Aq,Ao,At,Az,Ac,A5,PV.sk,Ai,Ar,As,Ap,Ay,Ab,Aj,Am,A9,Value.oneCell',Ah,Ba,Aw,A4,A1,Al,An,Ae,Ak,isZ,A6,A3,Ad,Aa,Ag,A0,Af,↓reduceIte,reduceSub,reduceEqDiff,reduceAdd,reduceMul,reduceLT,reduceLeDiff,reduceToNat,reduceLE,Int.reduceLT,reduceNeg,reduceCtorEq,zzR,gos,Int.reduceAdd,Int.reduceSub,Int.reduceMul,reduceEq])
    rfl
end Go.Proofs.Ythnfphgjfpcpbaa.TM
