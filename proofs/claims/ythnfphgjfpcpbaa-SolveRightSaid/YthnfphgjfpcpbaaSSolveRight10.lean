/- What is proved of functions, and plain facts, part 10. Conditions: none. -/
import Derived.Test.YthnfphgjfpcpbaaSSolveRight9
open Nat (reduceSub reduceEqDiff reduceAdd reduceMul reduceLT reduceLeDiff)
open Int (reduceToNat reduceLE reduceNeg reduceEq)
set_option linter.defProp false
set_option linter.unusedSectionVars false
set_option linter.unusedSimpArgs false
set_option linter.unusedVariables false
namespace Go.Proofs.Ythnfphgjfpcpbaa.TM
open Go
def Tl (h:Heap) (b:Name) (p:PV):Option IV:=if (An p).contains b then none else Li h p
def L8 (h:Heap) (b:Name):PV → Option PV
  | .view c off z n top => if c=b then some (.view c off z n top) else match h c with
    | some (.var cs) => if cs.length=top ∧ off + n * z ≤ cs.length then (Cv (Tl h b) ((cs.drop off).take (n * z))).map fun xs => .i (.l n xs) else none
    | _ => Cl h (.view c off z n top)
  | p => if (An p).contains b then none else Cl h p
def L9 (h:Heap) (b:Name):PV → Option PV
  | .agg cs => (Cv (L8 h b) cs).map .agg
  | p => L8 h b p
def Tj (h:Heap) (b:Name):PV → Option PV
  | .tup cs => (Cv (L9 h b) cs).map .tup
  | p => L9 h b p
section
variable {P:Program} {β:Pl} {h1:Heap} {w:World} {b:Name} {cs0:List IV}
theorem Z0 {p:PV} (h:¬ (An p).contains b=true):∀ c ∈ An p,c ≠ b:=fun c hc e => h (by subst e; simpa using hc)
theorem Nr (H1 : HInv β h1 w) {h' : Heap} (hb : h1 b = some (.row false cs0)) (hb' : h' b = some (.row false cs0)) {p q : PV} {v : Value} (hp : Rep β h1 w p v) (hl : L8 h1 b p = some q)
    (hR1:∀ a v,Rd β h1 w a v → Rd β h' w a v) (hR2:∀ c,c ≠ b → ∀ x,h1 c=some x → ∀ j v,w.cell? ⟨β c,j,none⟩=some v → Rd β h' w ⟨β c,j,none⟩ v):Rep β h' w q v:=by
  have low:∀ p q v,(∀ c ∈ An p,c ≠ b) → Rep β h1 w p v → Cl h1 p=some q → Rep β h' w q v:=fun p q v hne hp hq =>
    Hi H1 hp hq (fun c _ fz cs hb => ⟨fz,hb⟩) hR1 fun c hc x hx j v hcell => hR2 c (hne c hc) x hx j v hcell
  unfold L8 at hl
  split at hl
  · rename_i c off z n top
    split at hl
    · rename_i hcb
      subst hcb
      cases hl
      cases hp with
      | view b' off z n top x a cap hbx hrow ht hn ha hv =>
        rw [hb] at hbx; cases hbx
        exact .view c off z n top _ a cap hb' rfl ht hn ha hv
    · rename_i hcb
      split at hl
      · rename_i cs hbv
        split at hl
        case isFalse => cases hl
        rename_i hc
        cases hm:Cv (Tl h1 b) ((cs.drop off).take (n * z)) with
        | none => simp [hm] at hl
        | some xs =>
          simp [hm] at hl
          subst hl
          obtain ⟨hlen,hg⟩:=Dq hm
          cases hp with
          | view _ _ _ _ _ x a cap hbx hrow ht hn ha hva =>
            rw [hbv] at hbx; cases hbx
            rcases hva hc.1 with ⟨h0,hc0,_⟩|⟨h0,hs0,_⟩
            · subst h0
              have:xs=[]:=List.eq_nil_of_length_eq_zero (by rw [hlen]; simp)
              subst this
              cases a with
              | none => rw [hc0]; exact .i _ _ .nil
              | some a => exact .i _ _ (.l _ _ a cap (fun _ => undef) hn (fun j hj => by simp at hj) (fun j hj => by simp at hj) (fun j y hj => by simp at hj))
            · subst h0
              obtain ⟨c',e,hcc,hr,hcell⟩:=Ek H1 hbv
              have hlen2:((cs.drop off).take (n * z)).length=n * z:=by simp; omega
              refine .i _ _ (.l _ _ _ cap (fun j => c'.getD (off + j) undef) hn (fun j hj => ?_) (fun j hj => ?_) (fun j y hj => ?_))
              · rw [add_lit]
                exact hR2 c hcb _ hbv _ _ (hcell _ (by have:=hr.1; omega))
              · have hlt:off + j < cs.length:=by omega
                exact (hr.2 (off + j) cs[off + j] (List.getElem?_eq_getElem hlt)).1
              · have hjl:j < xs.length:=(List.getElem?_eq_some_iff.1 hj).1
                have hj2:j < ((cs.drop off).take (n * z)).length:=by omega
                obtain ⟨x,hx,hxy⟩:=hg j _ (List.getElem?_eq_getElem hj2)
                rw [hxy] at hj; cases hj
                unfold Tl at hx
                split at hx
                case isTrue => cases hx
                rename_i hnb
                unfold Li at hx
                split at hx
                · rename_i x' hlc
                  cases hx
                  have h7:=(hr.2 _ _ (Dd (List.getElem?_eq_getElem hj2)).2).2
                  have h8:Rep β h' w (.i _) (c'.getD (off + j) undef):=low _ _ _ (Z0 hnb) h7 hlc
                  generalize c'.getD (off + j) undef=u at h8
                  cases h8 with|i _ _ h9 => exact h9
                · cases hx
      · exact low _ _ _ (fun d hd => by simp [An] at hd; subst hd; exact hcb) hp hl
  · split at hl
    case isTrue => cases hl
    rename_i hnb
    exact low _ _ _ (Z0 hnb) hp hl
theorem Nt (H1 : HInv β h1 w) {h' : Heap} (hb : h1 b = some (.row false cs0)) (hb' : h' b = some (.row false cs0)) {p q : PV} {v : Value} (hp : Rep β h1 w p v) (hl : L9 h1 b p = some q)
    (hR1:∀ a v,Rd β h1 w a v → Rd β h' w a v) (hR2:∀ c,c ≠ b → ∀ x,h1 c=some x → ∀ j v,w.cell? ⟨β c,j,none⟩=some v → Rd β h' w ⟨β c,j,none⟩ v):Rep β h' w q v:=by
  unfold L9 at hl
  split at hl
  · rename_i cs
    cases hm:Cv (L8 h1 b) cs with
    | none => simp [hm] at hl
    | some qs =>
      simp [hm] at hl
      subst hl
      obtain ⟨hlen,hg⟩:=Dq hm
      cases hp with
      | agg cs arr hla hs =>
        refine .agg _ _ (by omega) fun j x hj => ?_
        have hlt:j < cs.length:=by rw [← hlen]; exact (List.getElem?_eq_some_iff.1 hj).1
        obtain ⟨y,hy,hqy⟩:=hg j _ (List.getElem?_eq_getElem hlt)
        rw [hqy] at hj; cases hj
        exact Nr H1 hb hb' (hs j _ (List.getElem?_eq_getElem hlt)) hy hR1 hR2
  · exact Nr H1 hb hb' hp hl hR1 hR2
theorem Vq (H1 : HInv β h1 w) {h' : Heap} (hb : h1 b = some (.row false cs0)) (hb' : h' b = some (.row false cs0)) {p q : PV} {v : Value} (hp : Rep β h1 w p v) (hl : Tj h1 b p = some q)
    (hR1:∀ a v,Rd β h1 w a v → Rd β h' w a v) (hR2:∀ c,c ≠ b → ∀ x,h1 c=some x → ∀ j v,w.cell? ⟨β c,j,none⟩=some v → Rd β h' w ⟨β c,j,none⟩ v):Rep β h' w q v:=by
  unfold Tj at hl
  split at hl
  · rename_i cs
    cases hm:Cv (L9 h1 b) cs with
    | none => simp [hm] at hl
    | some qs =>
      simp [hm] at hl
      subst hl
      obtain ⟨hlen,hg⟩:=Dq hm
      cases hp with
      | tup cs arr hla hs =>
        refine .tup _ _ (by omega) fun j x hj => ?_
        have hlt:j < cs.length:=by rw [← hlen]; exact (List.getElem?_eq_some_iff.1 hj).1
        obtain ⟨y,hy,hqy⟩:=hg j _ (List.getElem?_eq_getElem hlt)
        rw [hqy] at hj; cases hj
        exact Nt H1 hb hb' (hs j _ (List.getElem?_eq_getElem hlt)) hy hR1 hR2
  · exact Nt H1 hb hb' hp hl hR1 hR2
end
theorem CallsA.of_low {P : Program} (hm : P.follows .mixedOrders = true) {g : FuncId} {args : List PV} {vf : Name → PV} {cs : List IV}
    (h:∀ base,∃ b u hu u',CallR P base g args Heap.none u hu ∧ hu b=some (.row false cs) ∧ Tj hu b u=some u' ∧ ∀ s,Qd (Heap.none.put b (.row false cs)) b s u'=some (vf s)):CallsA P g args vf cs:=by
  intro base
  obtain ⟨b,u,hu,u',h1,hb,h2,h3⟩:=h base
  have hb':(Heap.none.put b (.row false cs)) b=some (.row false cs):=by simp [Heap.put_at]
  have only:∀ c x,(Heap.none.put b (.row false cs)) c=some x → c=b ∧ x=.row false cs:=fun c x hx => by
    by_cases e:c=b
    · subst e; rw [hb'] at hx; cases hx; exact ⟨rfl,rfl⟩
    · rw [Heap.put_at,if_neg e] at hx; cases hx
  refine ⟨b,u',_,CallR.of_sound ?_,hb',h3⟩
  intro β w rargs H Hr
  refine (Km hm _ _ _ _ _ _ h1 β w rargs H Hr).mono ?_
  rintro e w' ⟨rv,β1,rfl,H1,hrep,E1⟩
  have hRd:∀ a v,Rd β1 hu w' a v → Rd β1 (Heap.none.put b (.row false cs)) w' a v:=fun a v hrd => ⟨⟨hrd.1.1,fun c x hc ho => by
    obtain ⟨rfl,rfl⟩:=only c x hc
    exact hrd.1.2 c _ hb rfl⟩,hrd.2⟩
  refine ⟨rv,β1,rfl,⟨fun c c' x x' hc hc' _ => by rw [(only c x hc).1,(only c' x' hc').1],fun c x hc => by
    obtain ⟨rfl,rfl⟩:=only c x hc
    exact H1.nf c _ hb,H1.flt,fun c x hc => ?_⟩,?_,⟨E1.os,E1.tape,E1.output,E1.size,E1.F,fun blk hl hs => ⟨fun c x hc ho => ?_,(E1.stab blk hl hs).2⟩,fun c x hc => (by cases hc),E1.sz⟩⟩
  · obtain ⟨rfl,rfl⟩:=only c x hc
    obtain ⟨c2,e2,ho,hc1,hc2⟩:=H1.cells hb rfl
    exact ⟨_,ho,c2,e2,rfl,hc1,fun j y hj => ⟨(hc2 j y hj).1,(hc2 j y hj).2.mono hRd⟩⟩
  · refine Vq H1 hb hb' hrep h2 hRd fun c hcb x hx j v hcell => ⟨⟨H1.nf c x hx,fun d y hd ho => ?_⟩,hcell⟩
    obtain ⟨rfl,rfl⟩:=only d y hd
    exact fun he => hcb (H1.inj _ c _ x hb hx he).symm
  · obtain ⟨rfl,rfl⟩:=only c x hc
    exact (E1.stab blk hl hs).1 c _ hb rfl
end Go.Proofs.Ythnfphgjfpcpbaa.TM
namespace Go.Proofs.Ythnfphgjfpcpbaa.TM
open Go Go.RowKit
theorem Av0 {P:Int} {R C:Nat} {a:List Int} (ha:a.length=R * C) (h:∀ x ∈ a,In P x) {i j:Nat} (hi:i < R) (hj:j < C):In P (cl C a i j):=by
  unfold cl
  have:=Fb (c:=C) hi
  exact Ce h (by omega)
theorem Av5 {p:Int} {C:Nat} {A B:Mx} {x:Nat → Int} {i:Nat} (h:∀ j,j < C → A i j % p=B i j % p):apX C A x i % p=apX C B x i % p:=Dn fun j hj => D4 (h j hj) rfl
theorem Av4 {C:Nat} {x:Nat → Int} {i:Nat} (hi:i < C):apX C idX x i=x i:=by
  unfold apX
  rw [← Dm x hi]
  refine By fun j _ => ?_
  unfold idX
  by_cases e:j=i
  · rw [if_pos e,if_pos e,Int.one_mul]
  · rw [if_neg e,if_neg e,Int.zero_mul]
def InvX (P R:Nat) (A U:Mx):Prop:=∀ i j,i < R → j < R → Im R A U i j % P=idX i j % P
def InjX (P R:Nat) (A:Mx):Prop:=∀ x:Nat → Int,(∀ i,i < R → apX R A x i % P=0) → ∀ j,j < R → x j % P=0
section
variable {P R:Nat} {A B U V:Mx}
theorem InvX.ap (h:InvX P R A U) (x:Nat → Int) {i:Nat} (hi:i < R):apX R A (apX R U x) i % P=x i % P:=by
  rw [← T5,Av5 (B:=idX) (fun j hj => h i j hi hj),Av4 hi]
theorem InvX.left (h:InvX P R A U) (hI:InjX P R A):InvX P R U A:=fun k j hk hj => by
  refine Kx.2 (hI (fun k => Im R U A k j - idX k j) (fun i hi => ?_) k hk)
  rw [Aa9]
  refine Kx.1 ?_
  have h1:apX R A (fun j_1 => Im R U A j_1 j) i % P=A i j % P:=h.ap (fun m => A m j) hi
  rw [h1]
  have h2:apX R A (fun m => idX m j) i=A i j:=by
    unfold apX
    rw [← Dm (fun m => A i m) hj]
    refine By fun m _ => ?_
    show A i m * (if j=m then 1 else 0)=if m=j then A i m else 0
    by_cases e:m=j
    · rw [if_pos e.symm,if_pos e,Int.mul_one]
    · rw [if_neg (fun h => e h.symm),if_neg e,Int.mul_zero]
  rw [h2]
theorem InvX.mul (h:InvX P R A U) (k:InvX P R B V):InvX P R (Im R A B) (Im R V U):=fun i j hi hj => by
  have e:Im R (Im R A B) (Im R V U) i j=apX R A (apX R B (apX R V (fun k => U k j))) i:=by
    show apX R (Im R A B) (apX R V (fun k => U k j)) i=_
    rw [T5]
  rw [e]
  exact (T6 (fun m hm => k.ap (fun k => U k j) hm) i).trans (h i j hi hj)
theorem InvX.cong {A' U':Mx} (h:InvX P R A U) (ha:∀ i j,i < R → j < R → A' i j % P=A i j % P) (hu:∀ i j,i < R → j < R → U' i j % P=U i j % P):InvX P R A' U':=fun i j hi hj => by
  rw [← h i j hi hj]
  exact Dn fun k hk => D4 (ha i k hi hk) (hu k j hk hj)
theorem InvX.lp (hP:Prm P) (hp:Md P) (h:InvX P R A U):Lp R A * Lp R U % P=1:=by
  rw [← Bd3 hP hp,Qj R h,Ab3]
  exact Int.emod_eq_of_lt (by decide) (by have:=hp.1; omega)
end
section
variable {P R:Nat} {l:List Int}
end
end Go.Proofs.Ythnfphgjfpcpbaa.TM
namespace Go.Proofs.Ythnfphgjfpcpbaa.TM
open Go Go.RowKit
theorem Zo {n k:Nat} {f:Nat → Int} (hk:k < n) (h:∀ m,m < n → m ≠ k → f m=0):B8 n f=f k:=by
  rw [← Dm f hk]
  exact By fun m hm => by
    by_cases e:m=k
    · rw [if_pos e]
    · rw [if_neg e,h m hm e]
def Qr (K:Nat) (S:Nat → Nat) (x:Nat → Int):Nat → Int:=fun j => B8 K (fun k => if S k=j then x k else 0)
theorem Zw {K:Nat} {S:Nat → Nat} {x:Nat → Int} (h:∀ i j,i < K → j < K → S i=S j → i=j) {k:Nat} (hk:k < K):Qr K S x (S k)=x k:=by
  unfold Qr
  rw [Zo hk (fun m hm hne => if_neg fun e => hne (h m k hm hk e))]
  exact if_pos rfl
theorem Zv {K:Nat} {S:Nat → Nat} {x:Nat → Int} {j:Nat} (h:∀ k,k < K → S k ≠ j):Qr K S x j=0:=by
  unfold Qr
  rw [By (g:=fun _ => 0) fun k hk => if_neg (h k hk),Ie]
theorem Zx {K C:Nat} {S:Nat → Nat} {x:Nat → Int} {A:Mx} {i:Nat} (hS:∀ k,k < K → S k < C):apX C A (Qr K S x) i=B8 K (fun k => A i (S k) * x k):=by
  unfold apX Qr
  rw [By fun j _ => (G8 K (A i j) (fun k => if S k=j then x k else 0)).symm,If]
  refine By fun k hk => ?_
  rw [Zo (hS k hk) (fun j hj hne => by rw [if_neg (Ne.symm hne),Int.mul_zero]),if_pos rfl]
theorem Cp.minor {P R C r:Nat} {A:Mx} {rw cw:Nat → Nat} {c u:Mx} (hP:Prm P) (H:Cp P R C r A rw cw c u) {S:Nat → Nat} (h1:∀ k,k < r → ∃ m,m < r ∧ S k=cw m) (h2:∀ i j,i < r → j < r → S i=S j → i=j) {x:Nat → Int} (hx:∀ i,i < r → B8 r (fun k => A (rw i) (S k) * x k) % P=0):∀ k,k < r → x k % P=0:=fun k hk => by
  have hS:∀ k,k < r → S k < C:=fun k hk => by obtain ⟨m,hm,e⟩:=h1 k hk; rw [e]; exact H.clt m hm
  have e1:∀ i,i < r → B8 r (fun k => c (rw i) k * apX C u (Qr r S x) k) % P=0:=fun i hi => by
    rw [← H.ap (H.rlt i hi),Zx hS]; exact hx i hi
  have e2:=H.cinj e1
  have e3:=H.uinj hP (x:=Qr r S x) (fun j _ hj => by
    rw [Zv fun k hk e => by obtain ⟨m,hm,e2⟩:=h1 k hk; exact hj m hm (by omega)]; rfl) e2
  have e4:=e3 (S k) (hS k hk)
  rwa [Zw h2 hk] at e4
theorem Az9 {P n r:Nat} {A:Mx} (hP:Prm P) (hp:Md P) (H:Rk P n n r A) (h:∀ x:Nat → Int,(∀ i,i < n → apX n A x i % P=0) → ∀ i,i < n → x i % P=0):r=n:=by
  obtain ⟨s,K⟩:=Ao9 hP hp n n idX
  have hs:s=n:=by
    refine (K.lp_nz hP).1 ?_
    rw [Ab3,Int.emod_eq_of_lt (by decide) (by have:=hp.1; omega)]; decide
  have:=H.ker_le hP K fun x hx i hi => by rw [Av4 hi]; exact h x hx i hi
  have:=H.le_rows
  omega
end Go.Proofs.Ythnfphgjfpcpbaa.TM
namespace Go.Proofs.Ythnfphgjfpcpbaa.TM
open Go Go.RowKit
theorem cr_col {p:Int} {r:Nat} (A:Mx) {k:Nat} (hk:k < r) (z:Nat → Int):Lp r (updc A k (fun i => B8 r (fun j => A i j * z j)))=z k * Lp r A:=by
  have H:=Ud p r
  have e:Lp r (updc A k (fun i => B8 r (fun j => A i j * z j)))=Lp r (updr (tr A) k (fun i => B8 r (fun j => A i j * z j))):=(Iy r (updr (tr A) k (fun i => B8 r (fun j => A i j * z j)))).symm
  have e2:(fun i => B8 r (fun j => A i j * z j))=fun i => z k * tr A k i + B8 r (fun t => (if t=k then 0 else z t) * tr A t i):=by
    funext i
    have s:B8 r (fun j => A i j * z j)=B8 r (fun t => (if t=k then z t * tr A t i else 0) + (if t=k then 0 else z t) * tr A t i):=By fun t _ => by
      show A i t * z t=_
      by_cases h:t=k
      · rw [if_pos h,if_pos h,Int.zero_mul,Int.add_zero,Int.mul_comm]; rfl
      · rw [if_neg h,if_neg h,Int.zero_add,Int.mul_comm]; rfl
    rw [s,Fg,Dm (fun t => z t * tr A t i) hk]
  rw [e,e2,H.comb (tr A) hk (fun t => t) (fun t => if t=k then 0 else z t) (fun i => z k * tr A k i) r fun t ht => by
    by_cases h:t=k
    · exact .inl (if_pos h)
    · exact .inr ⟨ht,h⟩]
  rw [H.scale (tr A) (tr A k) (z k) hk,Od,← Iy]
theorem Yo {P r:Nat} {nl b z:List Int} (hP:Prm P) (hp:Md P) (hz:z.length=r) (hzin:∀ a ∈ z,In P a) (hd:r ≠ 0 → Lp r (cl r nl) % P ≠ 0) (h:∀ i,i < r → B8 r (fun j => cl r nl i j * z.getD j 0) % P=b.getD i 0 % P):Yp P r nl b=z:=by
  refine Io (Ca ..) hz fun k hk => ?_
  unfold Yp
  rw [Ct _ hk]
  have e1:Lp r (updc (cl r nl) k (fun i => b.getD i 0)) % P=z.getD k 0 * Lp r (cl r nl) % P:=by
    rw [← cr_col (p:=P) (cl r nl) hk (fun j => z.getD j 0)]
    refine Qj r fun i j hi hj => ?_
    unfold updc
    by_cases e:j=k
    · rw [if_pos e,if_pos e,h i hi]
    · rw [if_neg e,if_neg e]
  have e2:=(Ir hp.1 hp.2 (Dl hp (Lp r (cl r nl))) (Hs hP (Dl hp _) (hd (by omega)))).2
  have zin:=Ce hzin (i:=k) (by omega)
  rw [e1,D4 (c:=D7 P (Lp r (cl r nl) % P)) (show z.getD k 0 * Lp r (cl r nl) % P % P=z.getD k 0 * (Lp r (cl r nl) % P) % P by rw [Ej]; exact D4 rfl Ej.symm) rfl,Int.mul_assoc,D4 (rfl:z.getD k 0 % P=_) (show _ % (P:Int)=1 % P by rw [e2]; exact (Int.emod_eq_of_lt (by decide) (by have:=hp.1; omega)).symm),Int.mul_one]
  exact in_mod zin
section
variable {P R C:Nat} {l:List Int}
theorem On {c:Cy} (M:Mt P R C l) (hin:∀ a ∈ l,In P a) (hw:CupW P R C c):∀ a ∈ Ev C l c,In P a:=fun a ha => by
  obtain ⟨q,hq,rfl⟩:=Dh ha
  have r0:0 < c.1.length:=by
    rcases Nat.eq_zero_or_pos c.1.length with h|h
    · rw [h] at hq; omega
    · exact h
  exact Av0 M.len hin (Rr hw (Nat.div_lt_of_lt_mul hq)).2 (We hw (Nat.mod_lt _ r0)).2
theorem Kh (hP:Prm P) (M:Mt P R C l) (hin:∀ a ∈ l,In P a):Lp (Bf P C R l).1.length (cl (Bf P C R l).1.length (Ev C l (Bf P C R l))) % P ≠ 0:=by
  have H:=Ff hP M hin
  generalize Bf P C R l=c at H ⊢
  obtain ⟨q,K⟩:=Ao9 hP M.hp c.1.length c.1.length (cl c.1.length (Ev C l c))
  refine (K.lp_nz hP).2 (Az9 hP M.hp K fun x hx => ?_)
  refine Cp.minor hP H (S:=cwC c) (fun k hk => ⟨k,hk,rfl⟩) (fun i j hi hj e => H.cdis hi hj e) (x:=x) fun i hi => ?_
  refine Eq.trans ?_ (hx i hi)
  unfold apX
  congr 1
  exact By fun k hk => by rw [Ki hi hk]
theorem Se (hP:Prm P) (M:Mt P R C l) (hin:∀ a ∈ l,In P a):Lp (Bf P C R l).1.length (cl (Bf P C R l).1.length (Ee (Bf P C R l).1.length (Bf P C R l).1.length (Ev C l (Bf P C R l)))) % P ≠ 0:=by
  have h:=Kh hP M hin
  rw [Iy] at h
  rwa [Iz _ fun i j hi hj => Of (Ev C l (Bf P C R l)) hj hi]
theorem Xx {r:Nat} {S:Nat → Nat} {x e:Nat → Int} {A:Mx} {i:Nat} (hS:∀ k,k < r → S k < C) (hd:∀ i j,i < r → j < r → S i=S j → i=j) (h0:∀ j,j < C → (∀ k,k < r → j ≠ S k) → x j=e j) (h1:∀ k,k < r → e (S k)=0) :
    apX C A x i=B8 r (fun k => A i (S k) * x (S k)) + apX C A e i:=by
  rw [← Zx (x:=fun k => x (S k)) hS,← T7]
  unfold apX
  refine By fun j hj => ?_
  congr 1
  by_cases h:∃ k,k < r ∧ S k=j
  · obtain ⟨k,hk,rfl⟩:=h
    show x (S k)=Qr r S (fun k => x (S k)) (S k) + e (S k)
    rw [Zw hd hk,h1 k hk,Int.add_zero]
  · show x j=Qr r S (fun k => x (S k)) j + e j
    rw [Zv fun k hk e => h ⟨k,hk,e⟩,h0 j hj fun k hk e => h ⟨k,hk,e.symm⟩,Int.zero_add]
def plJ (X:List Int) (e:Nat → Int) (cols:List Int) (C j:Nat):List Int:=tbl C (fun m => if (m:Int) ∈ cols.take j then X.getD m 0 else e m)
theorem Oi (X:List Int) (e:Nat → Int) (cols:List Int) (C j:Nat):(plJ X e cols C j).length=C:=Ca ..
theorem Pe (X:List Int) (e:Nat → Int) (cols:List Int) (C:Nat):plJ X e cols C 0=tbl C e:=F2 fun m _ => by rw [List.take_zero,if_neg (by simp)]
theorem Pf {X:List Int} {e:Nat → Int} {cols:List Int} {j q:Nat} (hj:j < cols.length) (hq:cols.getD j 0=(q:Int)) (hC:q < C):((plJ X e cols C j).map iu).take q ++ [iu (X.getD q 0)] ++ ((plJ X e cols C j).map iu).drop (q + 1)=(plJ X e cols C (j + 1)).map iu:=by
  unfold plJ
  rw [Du _ _ hC]
  congr 1
  refine F2 fun m hm => ?_
  rw [W4 (d:=0) hj,hq]
  by_cases h:m=q
  · subst h
    rw [if_pos rfl,if_pos (by simp)]
  · rw [if_neg h]
    have:((m:Int) ∈ cols.take j ++ [(q:Int)]) ↔ (m:Int) ∈ cols.take j:=by
      rw [List.mem_append,List.mem_singleton]
      exact ⟨fun h2 => h2.elim id fun h3 => absurd (by omega) h,.inl⟩
    simp only [this]
theorem Pg {X:List Int} {e:Nat → Int} {cols:List Int} (hX:X.length=C) (h:∀ m,m < C → (m:Int) ∉ cols → X.getD m 0=e m):plJ X e cols C cols.length=X:=by
  refine Io (Oi ..) hX fun m hm => ?_
  unfold plJ
  rw [Ct _ hm,List.take_length]
  by_cases h1:(m:Int) ∈ cols
  · rw [if_pos h1]
  · rw [if_neg h1,h m hm h1]
def atC (c:Cy) (X:List Int):List Int:=tbl c.1.length (fun k => X.getD (cwC c k) 0)
def atR (c:Cy) (X:List Int):List Int:=tbl c.1.length (fun k => X.getD (rwC c k) 0)
theorem Ac7 (hP:Prm P) (M:Mt P R C l) (hin:∀ a ∈ l,In P a) (b:List Int):Yp P (Bf P C R l).1.length (Ev C l (Bf P C R l)) (atR (Bf P C R l) b)=atC (Bf P C R l) (En P C (Bf P C R l) b):=by
  have H:=Ff hP M hin
  have hw:=Dx hP M hin
  have s1:=Ac8 hP M hin b
  have s2:=Up hP M hin b
  have hd:=Kh hP M hin
  have xl:=Ig P C (Bf P C R l) b
  have xi:=Og (C:=C) M.hp (Bf P C R l) b
  generalize En P C (Bf P C R l) b=X at *
  generalize Bf P C R l=c at *
  refine Yo hP M.hp (Ca ..) (fun a ha => by
    obtain ⟨k,hk,rfl⟩:=Dh ha
    exact Ce xi (by have:=H.clt k hk; omega)) (fun _ => hd) fun i hi => ?_
  unfold atR
  rw [Ct _ hi,← s1 i hi]
  rw [Xx (e:=fun _ => 0) (S:=cwC c) (r:=c.1.length) H.clt (fun i j hi hj e => H.cdis hi hj e) (fun j hj h => s2 j hj h) fun _ _ => rfl]
  rw [show apX C (cl C l) (fun _ => 0) (rwC c i)=0 by
    unfold apX
    rw [By (g:=fun _ => 0) fun j _ => Int.mul_zero _,Ie],Int.add_zero]
  congr 1
  exact By fun k hk => by
    unfold atC
    rw [Ct _ hk,Ki hi hk]
theorem Vw (hP:Prm P) (M:Mt P R C l) (hin:∀ a ∈ l,In P a) {f:Nat} (hf:f < C) (hn:(f:Int) ∉ (Bf P C R l).2.1):Yp P (Bf P C R l).1.length (Ev C l (Bf P C R l)) (tbl (Bf P C R l).1.length (fun k => (0 - l.getD (rwC (Bf P C R l) k * C + f) 0) % P))=atC (Bf P C R l) (Gl P C (Bf P C R l) f) ∧
    ∀ m,m < C → (m:Int) ∉ (Bf P C R l).2.1 → (Gl P C (Bf P C R l) f).getD m 0=if m=f then 1 else 0:=by
  have H:=Ff hP M hin
  have hw:=Dx hP M hin
  have hd:=Kh hP M hin
  have xl:(Gl P C (Bf P C R l) f).length=C:=Ma _ f
  have xi:=Z7 (C:=C) M.hp (Bf P C R l) f
  have x0:=R7 hP M hin f
  have off:∀ m,m < C → (m:Int) ∉ (Bf P C R l).2.1 → (Gl P C (Bf P C R l) f).getD m 0=if m=f then 1 else 0:=fun m hm h => by
    have:=(Gz hP M.hp hw H (Er (Bf P C R l).1.length) (Fw C f) _ (Nat.le_refl _)).1 m hm fun k hk e => h ((Hg hw).2 ⟨k,hk,e.symm⟩)
    rw [show (Gl P C (Bf P C R l) f).getD m 0=_ from this]
    exact Ct _ hm
  refine ⟨?_,off⟩
  generalize Gl P C (Bf P C R l) f=X at *
  generalize Bf P C R l=c at *
  refine Yo hP M.hp (Ca ..) (fun a ha => by
    obtain ⟨k,hk,rfl⟩:=Dh ha
    exact Ce xi (by have:=H.clt k hk; omega)) (fun _ => hd) fun i hi => ?_
  rw [Ct _ hi]
  have h1:=Rg (p:=P) M.len xl (H.rlt i hi)
  rw [x0,Kn (H.rlt i hi)] at h1
  rw [Xx (e:=fun m => if m=f then 1 else 0) (S:=cwC c) (r:=c.1.length) H.clt (fun i j hi hj e => H.cdis hi hj e) (fun j hj h => off j hj fun hm => by obtain ⟨k,hk,e⟩:=(Hg hw).1 hm; exact h k hk e.symm) (fun k hk => if_neg fun e => hn ((Hg hw).2 ⟨k,hk,e⟩))] at h1
  rw [show apX C (cl C l) (fun m => if m=f then 1 else 0) (rwC c i)=l.getD (rwC c i * C + f) 0 by
    unfold apX
    rw [By (g:=fun m => if m=f then cl C l (rwC c i) m else 0) fun m _ => by
      dsimp only
      by_cases e:m=f
      · rw [if_pos e,if_pos e,Int.mul_one]
      · rw [if_neg e,if_neg e,Int.mul_zero],Dm _ hf]; rfl] at h1
  rw [show B8 c.1.length (fun j => cl c.1.length (Ev C l c) i j * (atC c X).getD j 0)=B8 c.1.length (fun k => cl C l (rwC c i) (cwC c k) * X.getD (cwC c k) 0) from By fun k hk => by
    unfold atC
    rw [Ct _ hk,Ki hi hk]]
  rw [Ej]
  refine Kx.2 ?_
  rw [show ∀ a b:Int,a - (0 - b)=a + b from fun a b => by omega]
  exact h1.symm
theorem Ao5 (hP:Prm P) (M:Mt P R C l) (hin:∀ a ∈ l,In P a) {i:Nat} (hi:i < R) (hn:(i:Int) ∉ (Bf P C R l).1):Yp P (Bf P C R l).1.length (Ee (Bf P C R l).1.length (Bf P C R l).1.length (Ev C l (Bf P C R l))) (tbl (Bf P C R l).1.length (fun k => (0 - l.getD (i * C + cwC (Bf P C R l) k) 0) % P))=atR (Bf P C R l) (Dc P R (Bf P C R l) i) ∧
    ∀ m,m < R → (m:Int) ∉ (Bf P C R l).1 → (Dc P R (Bf P C R l) i).getD m 0=if m=i then 1 else 0:=by
  have H:=Ff hP M hin
  have hw:=Dx hP M hin
  have hd:=Se hP M hin
  have V:=Ha hP M hin hi hn
  have off:∀ m,m < R → (m:Int) ∉ (Bf P C R l).1 → (Dc P R (Bf P C R l) i).getD m 0=if m=i then 1 else 0:=fun m hm h => by
    by_cases e:m=i
    · rw [if_pos e,e,V.one]
    · rw [if_neg e]; exact V.sup m hm e fun k hk e2 => h ((Ol hw).2 ⟨k,hk,e2.symm⟩)
  refine ⟨?_,off⟩
  generalize Dc P R (Bf P C R l) i=X at *
  generalize Bf P C R l=c at *
  refine Yo hP M.hp (Ca ..) (fun a ha => by
    obtain ⟨k,hk,rfl⟩:=Dh ha
    exact Ce V.inn (by have:=H.rlt k hk; have:=V.len; omega)) (fun _ => hd) fun k hk => ?_
  rw [Ct _ hk]
  have h1:=V.zero (cwC c k) (H.clt k hk)
  rw [show B8 R (fun m => X.getD m 0 * cl C l m (cwC c k))=apX R (tr (cl C l)) (fun m => X.getD m 0) (cwC c k) from By fun m _ => Int.mul_comm _ _] at h1
  rw [Xx (e:=fun m => if m=i then 1 else 0) (S:=rwC c) (r:=c.1.length) H.rlt (fun a b ha hb e => by
      rcases Nat.lt_trichotomy a b with h|h|h
      · have:=H.rinc a b h hb; omega
      · exact h
      · have:=H.rinc b a h ha; omega) (fun j hj h => off j hj fun hm => by obtain ⟨k,hk,e⟩:=(Ol hw).1 hm; exact h k hk e.symm) (fun k hk => if_neg fun e => hn ((Ol hw).2 ⟨k,hk,e⟩))] at h1
  rw [show apX R (tr (cl C l)) (fun m => if m=i then 1 else 0) (cwC c k)=l.getD (i * C + cwC c k) 0 by
    unfold apX
    rw [By (g:=fun m => if m=i then tr (cl C l) (cwC c k) m else 0) fun m _ => by
      dsimp only
      by_cases e:m=i
      · rw [if_pos e,if_pos e,Int.mul_one]
      · rw [if_neg e,if_neg e,Int.mul_zero],Dm _ hi]; rfl] at h1
  rw [show B8 c.1.length (fun j => cl c.1.length (Ee c.1.length c.1.length (Ev C l c)) k j * (atR c X).getD j 0)=B8 c.1.length (fun m => tr (cl C l) (cwC c k) (rwC c m) * X.getD (rwC c m) 0) from By fun m hm => by
    unfold atR
    rw [Ct _ hm,Of _ hm hk,Ki hm hk]; rfl]
  rw [Ej]
  refine Kx.2 ?_
  rw [show ∀ a b:Int,a - (0 - b)=a + b from fun a b => by omega]
  exact h1
end
end Go.Proofs.Ythnfphgjfpcpbaa.TM
namespace Go.Proofs.Ythnfphgjfpcpbaa.TM
open Go Go.RowKit
attribute [local irreducible] K W Dg Effs Xg Xo Xr Xdg Xdo Xdr Xif CallsP CallR
theorem Av2 {c:Cy} {X:List Int} {k:Nat} (hk:k < c.1.length):((atC c X).map iu)[k]?=some (iu (X.getD (cwC c k) 0)):=by
  unfold atC
  rw [List.getElem?_map,getD_some (Ca ..) hk,Ct _ hk]; rfl
theorem atR_at {c:Cy} {X:List Int} {k:Nat} (hk:k < c.1.length):((atR c X).map iu)[k]?=some (iu (X.getD (rwC c k) 0)):=by
  unfold atR
  rw [List.getElem?_map,getD_some (Ca ..) hk,Ct _ hk]; rfl
set_option maxHeartbeats 16000000 in
set_option maxRecDepth 100000 in
theorem Uw {P R C:Nat} {l b:List Int} (hP:Prm P) (M:Mt P R C l) (hin:∀ a ∈ l,In P a) (hb:∀ a ∈ b,In P a) (hbl:b.length=R) :
    CallsP Try.prog 22 [u64 P,C3 R C l,lu b] (if Ea P R C l (En P C (Bf P C R l) b)=b then .tup [lu (En P C (Bf P C R l) b),i64 0] else .tup [lu [],i64 6]):=by
  have hp:=M.hp
  have r2:=M.r2
  have c2:=M.c2
  have q1:=La hP M hin
  have hw:=Dx hP M hin
  have rle:=hw.rle
  have ql:=hw.ql
  have q2:=Nd M hw
  have xl:=Ig P C (Bf P C R l) b
  have xi:=Og (C:=C) hp (Bf P C R l) b
  have q3:=Qa (b:=atR (Bf P C R l) b) hP hp (by omega) (Iv C l _) (On M hin hw) (fun a ha => by
    obtain ⟨k,hk,rfl⟩:=Dh ha
    exact Ce hb (by have:=(Rr hw hk).2; omega)) (Ca ..) (fun _ => Kh hP M hin)
  rw [Ac7 hP M hin b] at q3
  have off:=Up hP M hin b
  have full:=Pg (X:=En P C (Bf P C R l) b) (e:=fun _ => 0) (cols:=(Bf P C R l).2.1) xl fun m hm h => off m hm fun k hk e => h ((Hg hw).2 ⟨k,hk,e.symm⟩)
  clear off
  have k3:=Us (x:=En P C (Bf P C R l) b) M (Rb hp hin) (fun a ha => (xi a ha).2) (Rb hp xi) xl
  have k4:=Ih (Ea P R C l (En P C (Bf P C R l) b)) b (by rw [G6,B3]; omega)
  have zg:=fun k hk => Av2 (c:=Bf P C R l) (X:=En P C (Bf P C R l) b) (k:=k) hk
  have zl:(atC (Bf P C R l) (En P C (Bf P C R l) b)).length=(Bf P C R l).1.length:=Ca ..
  have ra:=fun k hk => Rr hw (k:=k) hk
  have qa:=fun k hk => We hw (k:=k) hk
  obtain ⟨F,hF⟩:∃ F:Nat → Int,F=fun k => b.getD (rwC (Bf P C R l) k) 0:=⟨_,rfl⟩
  have ha:atR (Bf P C R l) b=tbl (Bf P C R l).1.length F:=by rw [hF]; rfl
  have gb:∀ k,k < (Bf P C R l).1.length → (b.map iu)[rwC (Bf P C R l) k]?=some (iu (F k)):=fun k hk => by
    rw [hF,List.getElem?_map,getD_some hbl (ra k hk).2]; rfl
  rw [ha] at q3
  have pn:=fun j q hj hq hC => Pf (X:=En P C (Bf P C R l) b) (e:=fun _ => 0) (cols:=(Bf P C R l).2.1) (C:=C) (j:=j) (q:=q) hj hq hC
  have cq:∀ j,j < (Bf P C R l).1.length → (Bf P C R l).2.1.getD j 0=(cwC (Bf P C R l) j:Int):=fun j hj => by
    have:=hw.qb _ (C0 (l:=(Bf P C R l).2.1) (d:=0) (i:=j) (by omega))
    unfold cwC; omega
  have pn':∀ j,j < (Bf P C R l).1.length → _:=fun j hj => pn j _ (by omega) (cq j hj) (qa j hj).2
  have p0:=Pe (En P C (Bf P C R l) b) (fun _ => 0) (Bf P C R l).2.1 C
  have pl:=fun j => Oi (En P C (Bf P C R l) b) (fun _ => 0) (Bf P C R l).2.1 C j
  clear pn ha hF cq hw hin hP
  generalize Ea P R C l (En P C (Bf P C R l) b)=TX at *
  generalize plJ (En P C (Bf P C R l) b) (fun _ => 0) (Bf P C R l).2.1 C=PJ at *
  generalize atC (Bf P C R l) (En P C (Bf P C R l) b)=Z at *
  generalize En P C (Bf P C R l) b=X at *
  generalize Ev C l (Bf P C R l)=core at *
  generalize rwC (Bf P C R l)=S at *
  generalize cwC (Bf P C R l)=Q at *
  generalize Bf P C R l=c at *
  obtain ⟨rws,cls,cc,uu⟩:=c
  simp only at q1 q2 q3 rle ql full zg zl ra qa gb pn'
  obtain ⟨r,hr⟩:∃ r,r=rws.length:=⟨_,rfl⟩
  rw [ql,← hr] at full
  rw [← hr] at q2 q3 rle ql zg zl ra qa gb pn'
  have hr':=hr.symm
  have q3':CallsP Try.prog 68 [u64 P,C3 (r:Int) (r:Int) core,.i (.l r ((tbl r F).map iu))] (.i (.l r (Z.map iu))):=by
    have l1:=Ca r F
    rw [lu,lu,l1,zl] at q3; exact q3
  clear q3
  have b1:C * 8 ≤ 140737488355328:=by omega
  have b2:C ≤ 140737488355328:=by omega
  have rl:((Cc [Value.int .u64 0] C).map IV.v).length=C:=by rw [List.length_map,C8]; simp
  have zt:(Cc [Value.int .u64 0] C).map IV.v=(PJ 0).map iu:=by rw [p0]; exact Ey C
  refine Bj (n:=74) (m:=3) (rs:=[.tmp 6,.tmp 7]) Try.func22 rfl rfl rfl rfl (by decide) fun base => ?_
  repeat (first|((first|refine Bd rfl (by simp only [tys]) ?_|refine Bc rfl (by simp only [tys]) ?_); apply Exists.intro; apply And.intro; (focus (simp -dsimp only [simx,zzC,zzB,tys,ite_self,A8,A2,Ax,Aq,Ao,At,Az,Ac,A5,PV.sk,Ai,Ar,As,Ap,Ay,Ab,Aj,Am,A9,Value.oneCell',Ah,Ba,Aw,A4,A1,Al,An,Ae,Ak,isZ,A6,A3,Ad,Aa,Ag,A0,Af,↓reduceIte,reduceSub,reduceEqDiff,reduceAdd,reduceMul,reduceLT,reduceLeDiff,reduceToNat,reduceLE,Int.reduceLT,reduceNeg,reduceCtorEq,zzL,if_true,if_false] <;> rfl)); apply Exists.intro; apply And.intro; (focus (first|exact q1)))|refine Bg rfl ?_|refine Bb rfl ?_|refine ⟨(dxX (by kernel_rfl)),?_⟩|exact (dxX (by kernel_rfl))|simp -dsimp (maxSteps:=20000000) (disch:=omega) only [simx,zzC,zzB,tys,ite_self,A8,A2,Ax,Aq,Ao,At,Az,Ac,A5,PV.sk,Ai,Ar,As,Ap,Ay,Ab,Aj,Am,A9,Value.oneCell',Ah,Ba,Aw,A4,A1,Al,An,Ae,Ak,isZ,A6,A3,Ad,Aa,Ag,A0,Af,↓reduceIte,reduceSub,reduceEqDiff,reduceAdd,reduceMul,reduceLT,reduceLeDiff,reduceToNat,reduceLE,Int.reduceLT,reduceNeg,reduceCtorEq,gos,Int.reduceAdd,Int.reduceSub,Int.reduceMul,reduceEq])
  refine B5 [0,2,4,8,10,11] [(6,9)::base] (0) (r) (fun j => True) (fun j => [(10,rowP ((6,10)::base) 1 j ((tbl j F).map iu)),(11,i64 j)]) (fun j => C9 ((Heap.none.put ((0,0)::base) (.var [i64 R,i64 C,lu l])).put ((1,6)::base) (.var [li rws,li cls,llP cc,llP uu])) ((6,10)::base) j ((tbl j F).map iu)) ?_ ?_ ?_ ?_ ?_ (by decide) ?_
  · exact (Bv (by simp only [Heap.none_at]) (by (simp -dsimp only [zzB,tys,ite_self,A8,A2,Ax,Aq,Ao,At,Az,Ac,A5,PV.sk,Ai,Ar,As,Ap,Ay,Ab,Aj,Am,A9,Value.oneCell',Ah,Ba,Aw,A4,A1,Al,An,Ae,Ak,isZ,A6,A3,Ad,Aa,Ag,A0,Af,↓reduceIte,reduceSub,reduceEqDiff,reduceAdd,reduceMul,reduceLT,reduceLeDiff,reduceToNat,reduceLE,Int.reduceLT,reduceNeg,reduceCtorEq,Bm,Bo]) <;> simp [Bs,Bn,Be]) (by repeat (first|exact Bx _|refine Bp ?_|refine B4 ?_|refine Bt ?_|refine Bu ?_ (by simp [Bs,Bn,Be]))) (Bl))
  · ((simp -dsimp (disch:=omega) only [simx,zzB,tys,ite_self,A8,A2,Ax,Aq,Ao,At,Az,Ac,A5,PV.sk,Ai,Ar,As,Ap,Ay,Ab,Aj,Am,A9,Value.oneCell',Ah,Ba,Aw,A4,A1,Al,An,Ae,Ak,isZ,A6,A3,Ad,Aa,Ag,A0,Af,↓reduceIte,reduceSub,reduceEqDiff,reduceAdd,reduceMul,reduceLT,reduceLeDiff,reduceToNat,reduceLE,Int.reduceLT,reduceNeg,reduceCtorEq,gos,Int.reduceAdd,Int.reduceSub,Int.reduceMul,reduceEq]) <;> first|rfl|simp [Bk])
  · rw [Ci]
    funext c
    simp (maxSteps:=20000000) only [Heap.drop_at,Bh,Heap.put_at,Heap.none_at,List.mem_cons,List.not_mem_nil,or_false]
    by_cases e0:c=(0,0)::base
    · subst e0; simp []
    by_cases e1:c=(1,6)::base
    · subst e1; simp []
    by_cases e2:c=(6,9)::base
    · subst e2; simp []
    simp [e0,e1,e2]
  · omega
  · trivial
  · intro j hj _
    by_cases cj:j < r
    · have g1:=(ra j cj).1
      have g2:=gb j cj
      have i1:=(ra j cj).2
      have t1:=Fx j F
      have tl:=Ca j F
      clear pn' zg qa full ra gb
      generalize F j=v at g2 t1
      repeat (first|refine Bg rfl ?_|refine Bb rfl ?_|refine ⟨(dxX (by kernel_rfl)),?_⟩|exact (dxX (by kernel_rfl))|simp -dsimp (maxSteps:=20000000) (disch:=omega) only [simx,zzC,zzB,tys,ite_self,A8,A2,Ax,Aq,Ao,At,Az,Ac,A5,PV.sk,Ai,Ar,As,Ap,Ay,Ab,Aj,Am,A9,Value.oneCell',Ah,Ba,Aw,A4,A1,Al,An,Ae,Ak,isZ,A6,A3,Ad,Aa,Ag,A0,Af,↓reduceIte,reduceSub,reduceEqDiff,reduceAdd,reduceMul,reduceLT,reduceLeDiff,reduceToNat,reduceLE,Int.reduceLT,reduceNeg,reduceCtorEq,gos,Int.reduceAdd,Int.reduceSub,Int.reduceMul,reduceEq,cj,g1,g2,i1,hbl,SK.len,hr',List.length_map])
      refine C4 (s:=(6,10)::base) (n:=j) (z:=1) (cs:=(tbl j F).map iu) 22 [.int .u64 0] [iu v] (by simp only [tys]) (by simp only [tys]) rfl (by decide) (by rw [List.length_map,tl,Nat.mul_one]) (by simp [Heap.put_at,Heap.none_at,Bh]) (by simp [Heap.put_at]; rfl) rfl (by simp only [tys]; omega) (by rw [B3]; omega) ?_
      repeat (first|refine Bg rfl ?_|refine Bb rfl ?_|refine ⟨(dxX (by kernel_rfl)),?_⟩|exact (dxX (by kernel_rfl))|simp -dsimp (maxSteps:=20000000) (disch:=omega) only [simx,zzC,zzB,tys,ite_self,A8,A2,Ax,Aq,Ao,At,Az,Ac,A5,PV.sk,Ai,Ar,As,Ap,Ay,Ab,Aj,Am,A9,Value.oneCell',Ah,Ba,Aw,A4,A1,Al,An,Ae,Ak,isZ,A6,A3,Ad,Aa,Ag,A0,Af,↓reduceIte,reduceSub,reduceEqDiff,reduceAdd,reduceMul,reduceLT,reduceLeDiff,reduceToNat,reduceLE,Int.reduceLT,reduceNeg,reduceCtorEq,gos,Int.reduceAdd,Int.reduceSub,Int.reduceMul,reduceEq,cj])
      refine ⟨cj,(Bv (by simp only [Heap.none_at]) (by (simp -dsimp only [zzB,tys,ite_self,A8,A2,Ax,Aq,Ao,At,Az,Ac,A5,PV.sk,Ai,Ar,As,Ap,Ay,Ab,Aj,Am,A9,Value.oneCell',Ah,Ba,Aw,A4,A1,Al,An,Ae,Ak,isZ,A6,A3,Ad,Aa,Ag,A0,Af,↓reduceIte,reduceSub,reduceEqDiff,reduceAdd,reduceMul,reduceLT,reduceLeDiff,reduceToNat,reduceLE,Int.reduceLT,reduceNeg,reduceCtorEq,Bm,Bo]) <;> simp [Bs,Bn,Be]) (by repeat (first|exact Bx _|refine Bp ?_|refine B4 ?_|refine Bt ?_|refine Bu ?_ (by simp [Bs,Bn,Be]))) (Bl)),?_,?_⟩
      · rw [t1]; simp
      · funext c
        simp (maxSteps:=20000000) only [Heap.drop_at,Bh,Heap.put_at,Heap.none_at,List.mem_cons,List.not_mem_nil,or_false]
        by_cases e0:c=(0,0)::base
        · subst e0; simp [t1]
        by_cases e1:c=(1,6)::base
        · subst e1; simp [t1]
        by_cases e2:c=(6,9)::base
        · subst e2; simp [t1]
        by_cases e3:c=(6,10)::base
        · subst e3; simp [t1]
        simp [e0,e1,e2,e3,t1]
    · obtain rfl:r=j:=by omega
      rcases Nat.eq_zero_or_pos r with h0|h0
      · subst h0
        have q3':CallsP Try.prog 68 [u64 P,C3 ((0:Nat):Int) ((0:Nat):Int) core,.i (.l 0 [])] (.i (.l 0 (Z.map iu))):=q3'
        repeat (first|((first|refine Bd rfl (by simp only [tys]) ?_|refine Bc rfl (by simp only [tys]) ?_); apply Exists.intro; apply And.intro; (focus (simp -dsimp only [simx,zzC,zzB,tys,ite_self,A8,A2,Ax,Aq,Ao,At,Az,Ac,A5,PV.sk,Ai,Ar,As,Ap,Ay,Ab,Aj,Am,A9,Value.oneCell',Ah,Ba,Aw,A4,A1,Al,An,Ae,Ak,isZ,A6,A3,Ad,Aa,Ag,A0,Af,↓reduceIte,reduceSub,reduceEqDiff,reduceAdd,reduceMul,reduceLT,reduceLeDiff,reduceToNat,reduceLE,Int.reduceLT,reduceNeg,reduceCtorEq,zzL,if_true,if_false,SK.len] <;> rfl)); apply Exists.intro; apply And.intro; (focus (first|exact q2|exact q3')))|refine Bg rfl ?_|refine Bb rfl ?_|refine ⟨(dxX (by kernel_rfl)),?_⟩|exact (dxX (by kernel_rfl))|simp -dsimp (maxSteps:=20000000) (disch:=omega) only [simx,zzC,zzB,tys,ite_self,A8,A2,Ax,Aq,Ao,At,Az,Ac,A5,PV.sk,Ai,Ar,As,Ap,Ay,Ab,Aj,Am,A9,Value.oneCell',Ah,Ba,Aw,A4,A1,Al,An,Ae,Ak,isZ,A6,A3,Ad,Aa,Ag,A0,Af,↓reduceIte,reduceSub,reduceEqDiff,reduceAdd,reduceMul,reduceLT,reduceLeDiff,reduceToNat,reduceLE,Int.reduceLT,reduceNeg,reduceCtorEq,gos,Int.reduceAdd,Int.reduceSub,Int.reduceMul,reduceEq,Bk,Ci,b1,b2,SK.len,hr',ql,List.length_map])
        refine B5 [0,2,4,8,12,13,14] [(6,10)::base] (0) (0) (fun j_ => True) (fun j_ => [(14,i64 j_)]) (fun j_ => ((Heap.none.put ((0,0)::base) (.var [i64 R,i64 C,lu l])).put ((1,6)::base) (.var [li rws,li cls,llP cc,llP uu])).put ((8,2)::base) (.row false ((PJ j_).map iu))) ?_ ?_ ?_ ?_ ?_ (by decide) ?_
        · exact (Bv (by simp only [Heap.none_at]) (by (simp -dsimp only [zzB,tys,ite_self,A8,A2,Ax,Aq,Ao,At,Az,Ac,A5,PV.sk,Ai,Ar,As,Ap,Ay,Ab,Aj,Am,A9,Value.oneCell',Ah,Ba,Aw,A4,A1,Al,An,Ae,Ak,isZ,A6,A3,Ad,Aa,Ag,A0,Af,↓reduceIte,reduceSub,reduceEqDiff,reduceAdd,reduceMul,reduceLT,reduceLeDiff,reduceToNat,reduceLE,Int.reduceLT,reduceNeg,reduceCtorEq,Bm,Bo]) <;> simp [Bs,Bn,Be]) (by repeat (first|exact Bx _|refine Bp ?_|refine B4 ?_|refine Bt ?_|refine Bu ?_ (by simp [Bs,Bn,Be]))) (Bl))
        · ((simp -dsimp (disch:=omega) only [simx,zzB,tys,ite_self,A8,A2,Ax,Aq,Ao,At,Az,Ac,A5,PV.sk,Ai,Ar,As,Ap,Ay,Ab,Aj,Am,A9,Value.oneCell',Ah,Ba,Aw,A4,A1,Al,An,Ae,Ak,isZ,A6,A3,Ad,Aa,Ag,A0,Af,↓reduceIte,reduceSub,reduceEqDiff,reduceAdd,reduceMul,reduceLT,reduceLeDiff,reduceToNat,reduceLE,Int.reduceLT,reduceNeg,reduceCtorEq,gos,Int.reduceAdd,Int.reduceSub,Int.reduceMul,reduceEq]) <;> first|rfl|simp)
        · rw [← zt]
          funext c
          simp (maxSteps:=20000000) only [Heap.drop_at,Bh,Heap.put_at,Heap.none_at,List.mem_cons,List.not_mem_nil,or_false]
          by_cases e0:c=(0,0)::base
          · subst e0; simp []
          by_cases e1:c=(1,6)::base
          · subst e1; simp []
          by_cases e2:c=(6,10)::base
          · subst e2; simp []
          by_cases e3:c=(8,2)::base
          · subst e3; simp []
          simp [e0,e1,e2,e3]
        · omega
        · trivial
        · intro k hk _
          by_cases ck:k < 0
          · omega
          · obtain rfl:0=k:=by omega
            rw [full]
            have nt:(X.map iu).take C=X.map iu:=List.take_of_length_le (by rw [List.length_map,xl]; exact Nat.le_refl _)
            have k3':CallsP Try.prog 70 [u64 P,C3 R C l,.i (.l C (X.map iu))] (lu TX):=by rw [lu,xl] at k3; exact k3
            by_cases hx:TX=b
            · rw [decide_eq_true hx] at k4
              rw [if_pos hx]
              repeat (first|((first|refine Bd rfl (by simp only [tys]) ?_|refine Bc rfl (by simp only [tys]) ?_); apply Exists.intro; apply And.intro; (focus (simp -dsimp only [simx,zzC,zzB,tys,ite_self,A8,A2,Ax,Aq,Ao,At,Az,Ac,A5,PV.sk,Ai,Ar,As,Ap,Ay,Ab,Aj,Am,A9,Value.oneCell',Ah,Ba,Aw,A4,A1,Al,An,Ae,Ak,isZ,A6,A3,Ad,Aa,Ag,A0,Af,↓reduceIte,reduceSub,reduceEqDiff,reduceAdd,reduceMul,reduceLT,reduceLeDiff,reduceToNat,reduceLE,Int.reduceLT,reduceNeg,reduceCtorEq,zzL,if_true,if_false,List.length_map,xl,nt] <;> rfl)); apply Exists.intro; apply And.intro; (focus (first|exact k3'|exact k4)))|refine Bg rfl ?_|refine Bb rfl ?_|refine ⟨(dxX (by kernel_rfl)),?_⟩|exact (dxX (by kernel_rfl))|simp -dsimp (maxSteps:=20000000) (disch:=omega) only [simx,zzC,zzB,tys,ite_self,A8,A2,Ax,Aq,Ao,At,Az,Ac,A5,PV.sk,Ai,Ar,As,Ap,Ay,Ab,Aj,Am,A9,Value.oneCell',Ah,Ba,Aw,A4,A1,Al,An,Ae,Ak,isZ,A6,A3,Ad,Aa,Ag,A0,Af,↓reduceIte,reduceSub,reduceEqDiff,reduceAdd,reduceMul,reduceLT,reduceLeDiff,reduceToNat,reduceLE,Int.reduceLT,reduceNeg,reduceCtorEq,zzR,gos,Int.reduceAdd,Int.reduceSub,Int.reduceMul,reduceEq,ql,hr',SK.len,List.length_map,xl,nt])
              rw [lu,xl]
            · rw [decide_eq_false hx] at k4
              rw [if_neg hx]
              repeat (first|((first|refine Bd rfl (by simp only [tys]) ?_|refine Bc rfl (by simp only [tys]) ?_); apply Exists.intro; apply And.intro; (focus (simp -dsimp only [simx,zzC,zzB,tys,ite_self,A8,A2,Ax,Aq,Ao,At,Az,Ac,A5,PV.sk,Ai,Ar,As,Ap,Ay,Ab,Aj,Am,A9,Value.oneCell',Ah,Ba,Aw,A4,A1,Al,An,Ae,Ak,isZ,A6,A3,Ad,Aa,Ag,A0,Af,↓reduceIte,reduceSub,reduceEqDiff,reduceAdd,reduceMul,reduceLT,reduceLeDiff,reduceToNat,reduceLE,Int.reduceLT,reduceNeg,reduceCtorEq,zzL,if_true,if_false,List.length_map,xl,nt] <;> rfl)); apply Exists.intro; apply And.intro; (focus (first|exact k3'|exact k4)))|refine Bg rfl ?_|refine Bb rfl ?_|refine ⟨(dxX (by kernel_rfl)),?_⟩|exact (dxX (by kernel_rfl))|simp -dsimp (maxSteps:=20000000) (disch:=omega) only [simx,zzC,zzB,tys,ite_self,A8,A2,Ax,Aq,Ao,At,Az,Ac,A5,PV.sk,Ai,Ar,As,Ap,Ay,Ab,Aj,Am,A9,Value.oneCell',Ah,Ba,Aw,A4,A1,Al,An,Ae,Ak,isZ,A6,A3,Ad,Aa,Ag,A0,Af,↓reduceIte,reduceSub,reduceEqDiff,reduceAdd,reduceMul,reduceLT,reduceLeDiff,reduceToNat,reduceLE,Int.reduceLT,reduceNeg,reduceCtorEq,zzR,gos,Int.reduceAdd,Int.reduceSub,Int.reduceMul,reduceEq,ql,hr',SK.len,List.length_map,xl,nt])
              rfl
      · have rp:=fun s z cs => Hb s z cs h0
        have rh:=fun h s cs => Ge h s cs h0
        have tl:=Ca r F
        have e2:((tbl r F).map iu).take r=(tbl r F).map iu:=List.take_of_length_le (by rw [List.length_map,tl]; exact Nat.le_refl _)
        repeat (first|((first|refine Bd rfl (by simp only [tys]) ?_|refine Bc rfl (by simp only [tys]) ?_); apply Exists.intro; apply And.intro; (focus (simp -dsimp only [simx,zzC,zzB,tys,ite_self,A8,A2,Ax,Aq,Ao,At,Az,Ac,A5,PV.sk,Ai,Ar,As,Ap,Ay,Ab,Aj,Am,A9,Value.oneCell',Ah,Ba,Aw,A4,A1,Al,An,Ae,Ak,isZ,A6,A3,Ad,Aa,Ag,A0,Af,↓reduceIte,reduceSub,reduceEqDiff,reduceAdd,reduceMul,reduceLT,reduceLeDiff,reduceToNat,reduceLE,Int.reduceLT,reduceNeg,reduceCtorEq,zzL,if_true,if_false,tl,e2,List.length_map,SK.len] <;> rfl)); apply Exists.intro; apply And.intro; (focus (first|exact q2|exact q3')))|refine Bg rfl ?_|refine Bb rfl ?_|refine ⟨(dxX (by kernel_rfl)),?_⟩|exact (dxX (by kernel_rfl))|simp -dsimp (maxSteps:=20000000) (disch:=omega) only [simx,zzC,zzB,tys,ite_self,A8,A2,Ax,Aq,Ao,At,Az,Ac,A5,PV.sk,Ai,Ar,As,Ap,Ay,Ab,Aj,Am,A9,Value.oneCell',Ah,Ba,Aw,A4,A1,Al,An,Ae,Ak,isZ,A6,A3,Ad,Aa,Ag,A0,Af,↓reduceIte,reduceSub,reduceEqDiff,reduceAdd,reduceMul,reduceLT,reduceLeDiff,reduceToNat,reduceLE,Int.reduceLT,reduceNeg,reduceCtorEq,gos,Int.reduceAdd,Int.reduceSub,Int.reduceMul,reduceEq,rp,rh,tl,e2,b1,b2,SK.len,hr',ql,List.length_map])
        refine B5 [0,2,4,8,12,13,14] [(6,10)::base] (0) (r) (fun j_ => True) (fun j_ => [(14,i64 j_)]) (fun j_ => ((Heap.none.put ((0,0)::base) (.var [i64 R,i64 C,lu l])).put ((1,6)::base) (.var [li rws,li cls,llP cc,llP uu])).put ((8,2)::base) (.row false ((PJ j_).map iu))) ?_ ?_ ?_ ?_ ?_ (by decide) ?_
        · exact (Bv (by simp only [Heap.none_at]) (by (simp -dsimp only [zzB,tys,ite_self,A8,A2,Ax,Aq,Ao,At,Az,Ac,A5,PV.sk,Ai,Ar,As,Ap,Ay,Ab,Aj,Am,A9,Value.oneCell',Ah,Ba,Aw,A4,A1,Al,An,Ae,Ak,isZ,A6,A3,Ad,Aa,Ag,A0,Af,↓reduceIte,reduceSub,reduceEqDiff,reduceAdd,reduceMul,reduceLT,reduceLeDiff,reduceToNat,reduceLE,Int.reduceLT,reduceNeg,reduceCtorEq,Bm,Bo]) <;> simp [Bs,Bn,Be]) (by repeat (first|exact Bx _|refine Bp ?_|refine B4 ?_|refine Bt ?_|refine Bu ?_ (by simp [Bs,Bn,Be]))) (Bl))
        · ((simp -dsimp (disch:=omega) only [simx,zzB,tys,ite_self,A8,A2,Ax,Aq,Ao,At,Az,Ac,A5,PV.sk,Ai,Ar,As,Ap,Ay,Ab,Aj,Am,A9,Value.oneCell',Ah,Ba,Aw,A4,A1,Al,An,Ae,Ak,isZ,A6,A3,Ad,Aa,Ag,A0,Af,↓reduceIte,reduceSub,reduceEqDiff,reduceAdd,reduceMul,reduceLT,reduceLeDiff,reduceToNat,reduceLE,Int.reduceLT,reduceNeg,reduceCtorEq,gos,Int.reduceAdd,Int.reduceSub,Int.reduceMul,reduceEq]) <;> first|rfl|simp)
        · rw [← zt]
          funext c
          simp (maxSteps:=20000000) only [Heap.drop_at,Bh,Heap.put_at,Heap.none_at,List.mem_cons,List.not_mem_nil,or_false]
          by_cases e0:c=(0,0)::base
          · subst e0; simp []
          by_cases e1:c=(1,6)::base
          · subst e1; simp []
          by_cases e2:c=(6,10)::base
          · subst e2; simp []
          by_cases e3:c=(8,2)::base
          · subst e3; simp []
          simp [e0,e1,e2,e3]
        · omega
        · trivial
        · intro k hk _
          by_cases ck:k < r
          · have g1:=(qa k ck).1
            have g2:=zg k ck
            have i1:=(qa k ck).2
            have px:=pn' k ck
            have l1:=pl k
            have i2:Q k + 1 ≤ C:=i1
            clear pn' zg qa full ra gb
            generalize X.getD (Q k) 0=v at g2 px
            generalize hY:PJ (k + 1)=Y at px
            generalize PJ k=W at px l1 ⊢
            generalize Q k=q at g1 i1 i2 px
            repeat (first|refine Bg rfl ?_|refine Bb rfl ?_|refine ⟨(dxX (by kernel_rfl)),?_⟩|exact (dxX (by kernel_rfl))|simp -dsimp (maxSteps:=20000000) (disch:=omega) only [simx,zzC,zzB,tys,ite_self,A8,A2,Ax,Aq,Ao,At,Az,Ac,A5,PV.sk,Ai,Ar,As,Ap,Ay,Ab,Aj,Am,A9,Value.oneCell',Ah,Ba,Aw,A4,A1,Al,An,Ae,Ak,isZ,A6,A3,Ad,Aa,Ag,A0,Af,↓reduceIte,reduceSub,reduceEqDiff,reduceAdd,reduceMul,reduceLT,reduceLeDiff,reduceToNat,reduceLE,Int.reduceLT,reduceNeg,reduceCtorEq,gos,Int.reduceAdd,Int.reduceSub,Int.reduceMul,reduceEq,ck,g1,g2,i1,i2,px,l1,zl,ql,hr',SK.len,List.length_map])
            refine ⟨ck,(Bv (by simp only [Heap.none_at]) (by (simp -dsimp only [zzB,tys,ite_self,A8,A2,Ax,Aq,Ao,At,Az,Ac,A5,PV.sk,Ai,Ar,As,Ap,Ay,Ab,Aj,Am,A9,Value.oneCell',Ah,Ba,Aw,A4,A1,Al,An,Ae,Ak,isZ,A6,A3,Ad,Aa,Ag,A0,Af,↓reduceIte,reduceSub,reduceEqDiff,reduceAdd,reduceMul,reduceLT,reduceLeDiff,reduceToNat,reduceLE,Int.reduceLT,reduceNeg,reduceCtorEq,Bm,Bo]) <;> simp [Bs,Bn,Be]) (by repeat (first|exact Bx _|refine Bp ?_|refine B4 ?_|refine Bt ?_|refine Bu ?_ (by simp [Bs,Bn,Be]))) (Bl)),rfl,?_⟩
            rw [hY]
            funext c
            simp (maxSteps:=20000000) only [Heap.drop_at,Bh,Heap.put_at,Heap.none_at,List.mem_cons,List.not_mem_nil,or_false]
            by_cases e0:c=(0,0)::base
            · subst e0; simp []
            by_cases e1:c=(1,6)::base
            · subst e1; simp []
            by_cases e2:c=(6,10)::base
            · subst e2; simp []
            by_cases e3:c=(8,2)::base
            · subst e3; simp []
            simp [e0,e1,e2,e3]
          · obtain rfl:r=k:=by omega
            rw [full]
            have nt:(X.map iu).take C=X.map iu:=List.take_of_length_le (by rw [List.length_map,xl]; exact Nat.le_refl _)
            have k3':CallsP Try.prog 70 [u64 P,C3 R C l,.i (.l C (X.map iu))] (lu TX):=by rw [lu,xl] at k3; exact k3
            by_cases hx:TX=b
            · rw [decide_eq_true hx] at k4
              rw [if_pos hx]
              repeat (first|((first|refine Bd rfl (by simp only [tys]) ?_|refine Bc rfl (by simp only [tys]) ?_); apply Exists.intro; apply And.intro; (focus (simp -dsimp only [simx,zzC,zzB,tys,ite_self,A8,A2,Ax,Aq,Ao,At,Az,Ac,A5,PV.sk,Ai,Ar,As,Ap,Ay,Ab,Aj,Am,A9,Value.oneCell',Ah,Ba,Aw,A4,A1,Al,An,Ae,Ak,isZ,A6,A3,Ad,Aa,Ag,A0,Af,↓reduceIte,reduceSub,reduceEqDiff,reduceAdd,reduceMul,reduceLT,reduceLeDiff,reduceToNat,reduceLE,Int.reduceLT,reduceNeg,reduceCtorEq,zzL,if_true,if_false,List.length_map,xl,nt] <;> rfl)); apply Exists.intro; apply And.intro; (focus (first|exact k3'|exact k4)))|refine Bg rfl ?_|refine Bb rfl ?_|refine ⟨(dxX (by kernel_rfl)),?_⟩|exact (dxX (by kernel_rfl))|simp -dsimp (maxSteps:=20000000) (disch:=omega) only [simx,zzC,zzB,tys,ite_self,A8,A2,Ax,Aq,Ao,At,Az,Ac,A5,PV.sk,Ai,Ar,As,Ap,Ay,Ab,Aj,Am,A9,Value.oneCell',Ah,Ba,Aw,A4,A1,Al,An,Ae,Ak,isZ,A6,A3,Ad,Aa,Ag,A0,Af,↓reduceIte,reduceSub,reduceEqDiff,reduceAdd,reduceMul,reduceLT,reduceLeDiff,reduceToNat,reduceLE,Int.reduceLT,reduceNeg,reduceCtorEq,zzR,gos,Int.reduceAdd,Int.reduceSub,Int.reduceMul,reduceEq,ql,hr',SK.len,List.length_map,xl,nt])
              rw [lu,xl]
            · rw [decide_eq_false hx] at k4
              rw [if_neg hx]
              repeat (first|((first|refine Bd rfl (by simp only [tys]) ?_|refine Bc rfl (by simp only [tys]) ?_); apply Exists.intro; apply And.intro; (focus (simp -dsimp only [simx,zzC,zzB,tys,ite_self,A8,A2,Ax,Aq,Ao,At,Az,Ac,A5,PV.sk,Ai,Ar,As,Ap,Ay,Ab,Aj,Am,A9,Value.oneCell',Ah,Ba,Aw,A4,A1,Al,An,Ae,Ak,isZ,A6,A3,Ad,Aa,Ag,A0,Af,↓reduceIte,reduceSub,reduceEqDiff,reduceAdd,reduceMul,reduceLT,reduceLeDiff,reduceToNat,reduceLE,Int.reduceLT,reduceNeg,reduceCtorEq,zzL,if_true,if_false,List.length_map,xl,nt] <;> rfl)); apply Exists.intro; apply And.intro; (focus (first|exact k3'|exact k4)))|refine Bg rfl ?_|refine Bb rfl ?_|refine ⟨(dxX (by kernel_rfl)),?_⟩|exact (dxX (by kernel_rfl))|simp -dsimp (maxSteps:=20000000) (disch:=omega) only [simx,zzC,zzB,tys,ite_self,A8,A2,Ax,Aq,Ao,At,Az,Ac,A5,PV.sk,Ai,Ar,As,Ap,Ay,Ab,Aj,Am,A9,Value.oneCell',Ah,Ba,Aw,A4,A1,Al,An,Ae,Ak,isZ,A6,A3,Ad,Aa,Ag,A0,Af,↓reduceIte,reduceSub,reduceEqDiff,reduceAdd,reduceMul,reduceLT,reduceLeDiff,reduceToNat,reduceLE,Int.reduceLT,reduceNeg,reduceCtorEq,zzR,gos,Int.reduceAdd,Int.reduceSub,Int.reduceMul,reduceEq,ql,hr',SK.len,List.length_map,xl,nt])
              rfl
end Go.Proofs.Ythnfphgjfpcpbaa.TM
namespace Go.Proofs.Ythnfphgjfpcpbaa.TM
open Go Go.RowKit
attribute [local irreducible] K W Dg Effs Xg Xo Xr Xdg Xdo Xdr Xif CallsP CallR
set_option maxHeartbeats 16000000 in
set_option maxRecDepth 100000 in
theorem S9 {P R C:Nat} {l:List Int} (hP:Prm P) (M:Mt P R C l) (hin:∀ a ∈ l,In P a) :
    CallsP Try.prog 25 [u64 P,C3 R C l] (.tup [lu (Ip P C (Bf P C R l)).1,i64 (Ip P C (Bf P C R l)).2]):=by
  have hp:=M.hp
  have r2:=M.r2
  have c2:=M.c2
  have q1:=La hP M hin
  have hw:=Dx hP M hin
  have rle:=hw.rle
  have ql:=hw.ql
  have q2:=Nd M hw
  have xl:=fun f => Ma (P:=P) (C:=C) (Bf P C R l) f
  have q3a:=fun (f:Nat) (hf:f < C) (hn:(f:Int) ∉ (Bf P C R l).2.1) => Qa (b:=tbl (Bf P C R l).1.length (fun k => (0 - l.getD (rwC (Bf P C R l) k * C + f) 0) % P)) hP hp (by omega) (Iv C l _) (On M hin hw) (fun a ha => by
    obtain ⟨k,hk,rfl⟩:=Dh ha
    exact Dl hp _) (Ca ..) (fun _ => Kh hP M hin)
  have q3b:=fun (f:Nat) (hf:f < C) (hn:(f:Int) ∉ (Bf P C R l).2.1) => by
    have h:=q3a f hf hn
    rw [(Vw hP M hin hf hn).1] at h
    exact h
  clear q3a
  have full0:=fun (f:Nat) (hf:f < C) (hn:(f:Int) ∉ (Bf P C R l).2.1) => Pg (X:=Gl P C (Bf P C R l) f) (e:=fun m => if m=f then 1 else 0) (cols:=(Bf P C R l).2.1) (xl f) fun m hm h => (Vw hP M hin hf hn).2 m hm h
  have zg0:=fun f k hk => Av2 (c:=Bf P C R l) (X:=Gl P C (Bf P C R l) f) (k:=k) hk
  have zl0:∀ f,(atC (Bf P C R l) (Gl P C (Bf P C R l) f)).length=(Bf P C R l).1.length:=fun f => Ca ..
  have ra:=fun k hk => Rr hw (k:=k) hk
  have qa:=fun k hk => We hw (k:=k) hk
  have cq:∀ j,j < (Bf P C R l).1.length → (Bf P C R l).2.1.getD j 0=(cwC (Bf P C R l) j:Int):=fun j hj => by
    have:=hw.qb _ (C0 (l:=(Bf P C R l).2.1) (d:=0) (i:=j) (by omega))
    unfold cwC; omega
  have pn0:∀ f j,j < (Bf P C R l).1.length → _:=fun f j hj => Pf (X:=Gl P C (Bf P C R l) f) (e:=fun m => if m=f then 1 else 0) (cols:=(Bf P C R l).2.1) (C:=C) (j:=j) (by omega) (cq j hj) (qa j hj).2
  have p00:=fun f => Pe (Gl P C (Bf P C R l) f) (fun m => if m=f then 1 else 0) (Bf P C R l).2.1 C
  have pl0:=fun f j => Oi (Gl P C (Bf P C R l) f) (fun m => if m=f then 1 else 0) (Bf P C R l).2.1 C j
  have cb:∀ j:Nat,(j:Int) ∈ (Bf P C R l).2.1 → j < C:=fun j h => by have:=(hw.qb _ h).2; omega
  have fd:=fun j:Nat => P5 (Bf P C R l).2.1 (j:Int) (by rw [B3]; omega)
  have fi:=fun j:Nat => Mc (j:Int) (Bf P C R l).2.1 0
  have sub:=fun k (hk:k < R) f (hf:f < C) => Ii P 0 (l.getD (k * C + f) 0) hp ⟨by decide,by have:=hp.1; omega⟩ (Av0 M.len hin hk hf)
  unfold Ip V9
  clear cq hw hin hP
  generalize Ev C l (Bf P C R l)=core at *
  generalize hX:Gl P C (Bf P C R l)=KX at *
  have zz:∃ Z:Nat → List Int,Z=fun f => atC (Bf P C R l) (KX f):=⟨_,rfl⟩
  obtain ⟨Z,hZ⟩:=zz
  have zg:∀ f k,k < (Bf P C R l).1.length → ((Z f).map iu)[k]?=some (iu ((KX f).getD (cwC (Bf P C R l) k) 0)):=by rw [hZ]; exact zg0
  have zl:∀ f,(Z f).length=(Bf P C R l).1.length:=by rw [hZ]; exact zl0
  have q3:∀ f:Nat,f < C → (f:Int) ∉ (Bf P C R l).2.1 → CallsP Try.prog 68 [u64 P,C3 ((Bf P C R l).1.length:Int) ((Bf P C R l).1.length:Int) core,lu (tbl (Bf P C R l).1.length (fun k => (0 - l.getD (rwC (Bf P C R l) k * C + f) 0) % P))] (lu (Z f)):=by rw [hZ]; exact q3b
  clear hZ zg0 zl0 q3b
  obtain ⟨PJ,hPJ⟩:∃ PJ:Nat → Nat → List Int,PJ=fun f j => plJ (KX f) (fun m => if m=f then 1 else 0) (Bf P C R l).2.1 C j:=⟨_,rfl⟩
  have full:∀ f:Nat,f < C → (f:Int) ∉ (Bf P C R l).2.1 → PJ f (Bf P C R l).2.1.length=KX f:=by rw [hPJ]; exact full0
  have pn:∀ f j,j < (Bf P C R l).1.length → ((PJ f j).map iu).take (cwC (Bf P C R l) j) ++ [iu ((KX f).getD (cwC (Bf P C R l) j) 0)] ++ ((PJ f j).map iu).drop (cwC (Bf P C R l) j + 1)=(PJ f (j + 1)).map iu:=by rw [hPJ]; exact pn0
  have p0:∀ f,PJ f 0=tbl C (fun m => if m=f then 1 else 0):=by rw [hPJ]; exact p00
  have pl:∀ f j,(PJ f j).length=C:=by rw [hPJ]; exact pl0
  clear hPJ full0 pn0 p00 pl0
  generalize rwC (Bf P C R l)=S at *
  generalize cwC (Bf P C R l)=Q at *
  clear hX
  generalize Bf P C R l=c at *
  obtain ⟨rws,cls,cc,uu⟩:=c
  simp only at q1 q2 q3 rle ql full zg zl ra qa pn cb fd fi ⊢
  obtain ⟨r,hr⟩:∃ r,r=rws.length:=⟨_,rfl⟩
  rw [ql,← hr] at full
  rw [← hr] at q2 q3 rle ql zg zl ra qa pn
  have hr':=hr.symm
  have b1:C * 8 ≤ 140737488355328:=by omega
  have b2:C ≤ 140737488355328:=by omega
  have rl:((Cc [Value.int .u64 0] C).map IV.v).length=C:=by rw [List.length_map,C8]; simp
  have zt:(Cc [Value.int .u64 0] C).map IV.v=(tbl C (fun _ => 0)).map iu:=Ey C
  refine Bj (n:=82) (m:=2) (rs:=[.tmp 4,.tmp 5]) Try.func25 rfl rfl rfl rfl (by decide) fun base => ?_
  repeat (first|((first|refine Bd rfl (by simp only [tys]) ?_|refine Bc rfl (by simp only [tys]) ?_); apply Exists.intro; apply And.intro; (focus (simp -dsimp only [simx,zzC,zzB,tys,ite_self,A8,A2,Ax,Aq,Ao,At,Az,Ac,A5,PV.sk,Ai,Ar,As,Ap,Ay,Ab,Aj,Am,A9,Value.oneCell',Ah,Ba,Aw,A4,A1,Al,An,Ae,Ak,isZ,A6,A3,Ad,Aa,Ag,A0,Af,↓reduceIte,reduceSub,reduceEqDiff,reduceAdd,reduceMul,reduceLT,reduceLeDiff,reduceToNat,reduceLE,Int.reduceLT,reduceNeg,reduceCtorEq,zzL,if_true,if_false] <;> rfl)); apply Exists.intro; apply And.intro; (focus (first|exact q1)))|refine Bg rfl ?_|refine Bb rfl ?_|refine ⟨(dxX (by kernel_rfl)),?_⟩|exact (dxX (by kernel_rfl))|simp -dsimp (maxSteps:=20000000) (disch:=omega) only [simx,zzC,zzB,tys,ite_self,A8,A2,Ax,Aq,Ao,At,Az,Ac,A5,PV.sk,Ai,Ar,As,Ap,Ay,Ab,Aj,Am,A9,Value.oneCell',Ah,Ba,Aw,A4,A1,Al,An,Ae,Ak,isZ,A6,A3,Ad,Aa,Ag,A0,Af,↓reduceIte,reduceSub,reduceEqDiff,reduceAdd,reduceMul,reduceLT,reduceLeDiff,reduceToNat,reduceLE,Int.reduceLT,reduceNeg,reduceCtorEq,gos,Int.reduceAdd,Int.reduceSub,Int.reduceMul,reduceEq])
  refine B5 [0,3,6,8] [] (0) (C) (fun j => ∀ i:Nat,i < j → (i:Int) ∈ cls) (fun j => [(8,i64 j)]) (fun j => (Heap.none.put ((0,0)::base) (.var [i64 R,i64 C,lu l])).put ((1,6)::base) (.var [li rws,li cls,llP cc,llP uu])) ?_ ?_ ?_ ?_ ?_ (by decide) ?_
  · exact (Bl)
  · ((simp -dsimp (disch:=omega) only [simx,zzB,tys,ite_self,A8,A2,Ax,Aq,Ao,At,Az,Ac,A5,PV.sk,Ai,Ar,As,Ap,Ay,Ab,Aj,Am,A9,Value.oneCell',Ah,Ba,Aw,A4,A1,Al,An,Ae,Ak,isZ,A6,A3,Ad,Aa,Ag,A0,Af,↓reduceIte,reduceSub,reduceEqDiff,reduceAdd,reduceMul,reduceLT,reduceLeDiff,reduceToNat,reduceLE,Int.reduceLT,reduceNeg,reduceCtorEq,gos,Int.reduceAdd,Int.reduceSub,Int.reduceMul,reduceEq]) <;> first|rfl|simp)
  · funext c
    simp (maxSteps:=20000000) only [Heap.drop_at,Bh,Heap.put_at,Heap.none_at,List.mem_cons,List.not_mem_nil,or_false]
    by_cases e0:c=(0,0)::base
    · subst e0; simp []
    by_cases e1:c=(1,6)::base
    · subst e1; simp []
    simp [e0,e1]
  · omega
  · intro i hi; omega
  · intro f hf all
    by_cases cf:(f:Int) ∈ cls
    · have fC:=cb f cf
      have f0:=(fi f).2 cf
      have d0:=fd f
      generalize Hj (f:Int) cls 0=x at f0 d0
      repeat (first|((first|refine Bd rfl (by simp only [tys]) ?_|refine Bc rfl (by simp only [tys]) ?_); apply Exists.intro; apply And.intro; (focus (simp -dsimp only [simx,zzC,zzB,tys,ite_self,A8,A2,Ax,Aq,Ao,At,Az,Ac,A5,PV.sk,Ai,Ar,As,Ap,Ay,Ab,Aj,Am,A9,Value.oneCell',Ah,Ba,Aw,A4,A1,Al,An,Ae,Ak,isZ,A6,A3,Ad,Aa,Ag,A0,Af,↓reduceIte,reduceSub,reduceEqDiff,reduceAdd,reduceMul,reduceLT,reduceLeDiff,reduceToNat,reduceLE,Int.reduceLT,reduceNeg,reduceCtorEq,zzL,if_true,if_false] <;> rfl)); apply Exists.intro; apply And.intro; (focus (first|exact d0)))|refine Bg rfl ?_|refine Bb rfl ?_|refine ⟨(dxX (by kernel_rfl)),?_⟩|exact (dxX (by kernel_rfl))|simp -dsimp (maxSteps:=20000000) (disch:=omega) only [simx,zzC,zzB,tys,ite_self,A8,A2,Ax,Aq,Ao,At,Az,Ac,A5,PV.sk,Ai,Ar,As,Ap,Ay,Ab,Aj,Am,A9,Value.oneCell',Ah,Ba,Aw,A4,A1,Al,An,Ae,Ak,isZ,A6,A3,Ad,Aa,Ag,A0,Af,↓reduceIte,reduceSub,reduceEqDiff,reduceAdd,reduceMul,reduceLT,reduceLeDiff,reduceToNat,reduceLE,Int.reduceLT,reduceNeg,reduceCtorEq,gos,Int.reduceAdd,Int.reduceSub,Int.reduceMul,reduceEq,f0])
      refine ⟨fC,(Bl),?_,rfl,drop_nil _⟩
      intro i hi
      by_cases e:i=f
      · rw [e]; exact cf
      · exact all i (by omega)
    · have f0:¬ 0 ≤ Hj (f:Int) cls 0:=fun h => cf ((fi f).1 h)
      have d0:=fd f
      generalize Hj (f:Int) cls 0=x at f0 d0
      by_cases fC:f < C
      case neg =>
        obtain rfl:C=f:=by omega
        rw [G1 fun i hi => by rw [decide_eq_true (all i hi)]; rfl]
        have nlt:(C:Int) ≤ (C:Int):=Int.le_refl _
        repeat (first|((first|refine Bd rfl (by simp only [tys]) ?_|refine Bc rfl (by simp only [tys]) ?_); apply Exists.intro; apply And.intro; (focus (simp -dsimp only [simx,zzC,zzB,tys,ite_self,A8,A2,Ax,Aq,Ao,At,Az,Ac,A5,PV.sk,Ai,Ar,As,Ap,Ay,Ab,Aj,Am,A9,Value.oneCell',Ah,Ba,Aw,A4,A1,Al,An,Ae,Ak,isZ,A6,A3,Ad,Aa,Ag,A0,Af,↓reduceIte,reduceSub,reduceEqDiff,reduceAdd,reduceMul,reduceLT,reduceLeDiff,reduceToNat,reduceLE,Int.reduceLT,reduceNeg,reduceCtorEq,zzL,if_true,if_false] <;> rfl)); apply Exists.intro; apply And.intro; (focus (first|exact d0)))|refine Bg rfl ?_|refine Bb rfl ?_|refine ⟨(dxX (by kernel_rfl)),?_⟩|exact (dxX (by kernel_rfl))|simp -dsimp (maxSteps:=20000000) (disch:=omega) only [simx,zzC,zzB,tys,ite_self,A8,A2,Ax,Aq,Ao,At,Az,Ac,A5,PV.sk,Ai,Ar,As,Ap,Ay,Ab,Aj,Am,A9,Value.oneCell',Ah,Ba,Aw,A4,A1,Al,An,Ae,Ak,isZ,A6,A3,Ad,Aa,Ag,A0,Af,↓reduceIte,reduceSub,reduceEqDiff,reduceAdd,reduceMul,reduceLT,reduceLeDiff,reduceToNat,reduceLE,Int.reduceLT,reduceNeg,reduceCtorEq,zzR,gos,Int.reduceAdd,Int.reduceSub,Int.reduceMul,reduceEq,f0,nlt,SK.len])
        try rfl
      rw [G0 fC (fun i hi => by rw [decide_eq_true (all i hi)]; rfl) (by rw [decide_eq_false cf]; rfl)]
      replace q3:=q3 f fC cf
      replace full:=full f fC cf
      replace zg:=zg f
      replace zl:=zl f
      replace pn:=pn f
      replace p0:=p0 f
      replace pl:=pl f
      replace xl:=xl f
      replace sub:=fun k hk => sub k hk f fC
      have px:=Du (fun _ => 0) 1 fC
      rw [← zt,← p0] at px
      generalize Z f=Z at *
      generalize PJ f=PJ at *
      simp only
      generalize KX f=X at *
      obtain ⟨F,hF⟩:∃ F:Nat → Int,F=fun k => (0 - l.getD (S k * C + f) 0) % P:=⟨_,rfl⟩
      rw [← hF] at q3
      have Fk:∀ k,(0 - l.getD (S k * C + f) 0) % (P:Int)=F k:=fun k => by rw [hF]
      clear hF
      have q3':CallsP Try.prog 68 [u64 P,C3 (r:Int) (r:Int) core,.i (.l r ((tbl r F).map iu))] (.i (.l r (Z.map iu))):=by
        have l1:=Ca r F
        rw [lu,lu,l1,zl] at q3; exact q3
      have f1:f + 1 ≤ C:=fC
      have fge:¬ (C:Int) ≤ (f:Int):=by omega
      clear q3 all fi fd cb zt p0
      repeat (first|((first|refine Bd rfl (by simp only [tys]) ?_|refine Bc rfl (by simp only [tys]) ?_); apply Exists.intro; apply And.intro; (focus (simp -dsimp only [simx,zzC,zzB,tys,ite_self,A8,A2,Ax,Aq,Ao,At,Az,Ac,A5,PV.sk,Ai,Ar,As,Ap,Ay,Ab,Aj,Am,A9,Value.oneCell',Ah,Ba,Aw,A4,A1,Al,An,Ae,Ak,isZ,A6,A3,Ad,Aa,Ag,A0,Af,↓reduceIte,reduceSub,reduceEqDiff,reduceAdd,reduceMul,reduceLT,reduceLeDiff,reduceToNat,reduceLE,Int.reduceLT,reduceNeg,reduceCtorEq,zzL,if_true,if_false] <;> rfl)); apply Exists.intro; apply And.intro; (focus (first|exact d0)))|refine Bg rfl ?_|refine Bb rfl ?_|refine ⟨(dxX (by kernel_rfl)),?_⟩|exact (dxX (by kernel_rfl))|simp -dsimp (maxSteps:=20000000) (disch:=omega) only [simx,zzC,zzB,tys,ite_self,A8,A2,Ax,Aq,Ao,At,Az,Ac,A5,PV.sk,Ai,Ar,As,Ap,Ay,Ab,Aj,Am,A9,Value.oneCell',Ah,Ba,Aw,A4,A1,Al,An,Ae,Ak,isZ,A6,A3,Ad,Aa,Ag,A0,Af,↓reduceIte,reduceSub,reduceEqDiff,reduceAdd,reduceMul,reduceLT,reduceLeDiff,reduceToNat,reduceLE,Int.reduceLT,reduceNeg,reduceCtorEq,gos,Int.reduceAdd,Int.reduceSub,Int.reduceMul,reduceEq,f0,fge])
      refine B5 [0,3,6,8,9,10] [(11,11)::base] (0) (r) (fun j => True) (fun j => [(9,rowP ((11,12)::base) 1 j ((tbl j F).map iu)),(10,i64 j)]) (fun j => C9 ((Heap.none.put ((0,0)::base) (.var [i64 R,i64 C,lu l])).put ((1,6)::base) (.var [li rws,li cls,llP cc,llP uu])) ((11,12)::base) j ((tbl j F).map iu)) ?_ ?_ ?_ ?_ ?_ (by decide) ?_
      · exact (Bv (by simp only [Heap.none_at]) (by (simp -dsimp only [zzB,tys,ite_self,A8,A2,Ax,Aq,Ao,At,Az,Ac,A5,PV.sk,Ai,Ar,As,Ap,Ay,Ab,Aj,Am,A9,Value.oneCell',Ah,Ba,Aw,A4,A1,Al,An,Ae,Ak,isZ,A6,A3,Ad,Aa,Ag,A0,Af,↓reduceIte,reduceSub,reduceEqDiff,reduceAdd,reduceMul,reduceLT,reduceLeDiff,reduceToNat,reduceLE,Int.reduceLT,reduceNeg,reduceCtorEq,Bm,Bo]) <;> simp [Bs,Bn,Be]) (by repeat (first|exact Bx _|refine Bp ?_|refine B4 ?_|refine Bt ?_|refine Bu ?_ (by simp [Bs,Bn,Be]))) (Bl))
      · ((simp -dsimp (disch:=omega) only [simx,zzB,tys,ite_self,A8,A2,Ax,Aq,Ao,At,Az,Ac,A5,PV.sk,Ai,Ar,As,Ap,Ay,Ab,Aj,Am,A9,Value.oneCell',Ah,Ba,Aw,A4,A1,Al,An,Ae,Ak,isZ,A6,A3,Ad,Aa,Ag,A0,Af,↓reduceIte,reduceSub,reduceEqDiff,reduceAdd,reduceMul,reduceLT,reduceLeDiff,reduceToNat,reduceLE,Int.reduceLT,reduceNeg,reduceCtorEq,gos,Int.reduceAdd,Int.reduceSub,Int.reduceMul,reduceEq]) <;> first|rfl|simp [Bk])
      · rw [Ci]
        funext c
        simp (maxSteps:=20000000) only [Heap.drop_at,Bh,Heap.put_at,Heap.none_at,List.mem_cons,List.not_mem_nil,or_false]
        by_cases e0:c=(0,0)::base
        · subst e0; simp []
        by_cases e1:c=(1,6)::base
        · subst e1; simp []
        by_cases e2:c=(11,11)::base
        · subst e2; simp []
        simp [e0,e1,e2]
      · omega
      · trivial
      · intro j hj _
        by_cases cj:j < r
        · have g1:=(ra j cj).1
          have i1:=(ra j cj).2
          have a1:=Kz M.len M.r2 M.c2 i1 fC
          have a2:=sub (S j) i1
          rw [Fk j] at a2
          have t1:=Fx j F
          have tl:=Ca j F
          clear pn zg qa full ra sub Fk px q3' q1 q2
          generalize F j=v at a2 t1
          generalize l.getD (S j * C + f) 0=w at a1 a2
          cases j with
          | zero =>
            repeat (first|((first|refine Bd rfl (by simp only [tys]) ?_|refine Bc rfl (by simp only [tys]) ?_); apply Exists.intro; apply And.intro; (focus (simp -dsimp only [simx,zzC,zzB,tys,ite_self,A8,A2,Ax,Aq,Ao,At,Az,Ac,A5,PV.sk,Ai,Ar,As,Ap,Ay,Ab,Aj,Am,A9,Value.oneCell',Ah,Ba,Aw,A4,A1,Al,An,Ae,Ak,isZ,A6,A3,Ad,Aa,Ag,A0,Af,↓reduceIte,reduceSub,reduceEqDiff,reduceAdd,reduceMul,reduceLT,reduceLeDiff,reduceToNat,reduceLE,Int.reduceLT,reduceNeg,reduceCtorEq,zzL,if_true,if_false] <;> rfl)); apply Exists.intro; apply And.intro; (focus (first|exact a1|exact a2)))|refine Bg rfl ?_|refine Bb rfl ?_|refine ⟨(dxX (by kernel_rfl)),?_⟩|exact (dxX (by kernel_rfl))|simp -dsimp (maxSteps:=20000000) (disch:=omega) only [simx,zzC,zzB,tys,ite_self,A8,A2,Ax,Aq,Ao,At,Az,Ac,A5,PV.sk,Ai,Ar,As,Ap,Ay,Ab,Aj,Am,A9,Value.oneCell',Ah,Ba,Aw,A4,A1,Al,An,Ae,Ak,isZ,A6,A3,Ad,Aa,Ag,A0,Af,↓reduceIte,reduceSub,reduceEqDiff,reduceAdd,reduceMul,reduceLT,reduceLeDiff,reduceToNat,reduceLE,Int.reduceLT,reduceNeg,reduceCtorEq,gos,Int.reduceAdd,Int.reduceSub,Int.reduceMul,reduceEq,cj,g1,SK.len,hr',List.length_map,Co,Cn])
            refine Cg (s:=(11,12)::base) (n:=0) (z:=1) (cs:=(tbl 0 F).map iu) 22 [.int .u64 0] [iu v] (by simp only [tys]) (by simp only [tys]) rfl (by decide) (by rw [List.length_map,tl,Nat.zero_mul]) (by simp [Heap.put_at,Heap.none_at,Bh]) (by simp [Heap.put_at]; rfl) rfl (by simp only [tys]; omega) (by rw [B3]; omega) ?_
            repeat (first|refine Bg rfl ?_|refine Bb rfl ?_|refine ⟨(dxX (by kernel_rfl)),?_⟩|exact (dxX (by kernel_rfl))|simp -dsimp (maxSteps:=20000000) (disch:=omega) only [simx,zzC,zzB,tys,ite_self,A8,A2,Ax,Aq,Ao,At,Az,Ac,A5,PV.sk,Ai,Ar,As,Ap,Ay,Ab,Aj,Am,A9,Value.oneCell',Ah,Ba,Aw,A4,A1,Al,An,Ae,Ak,isZ,A6,A3,Ad,Aa,Ag,A0,Af,↓reduceIte,reduceSub,reduceEqDiff,reduceAdd,reduceMul,reduceLT,reduceLeDiff,reduceToNat,reduceLE,Int.reduceLT,reduceNeg,reduceCtorEq,gos,Int.reduceAdd,Int.reduceSub,Int.reduceMul,reduceEq,cj,Co,Cn,Bi])
            refine ⟨cj,(Bv (by simp only [Heap.none_at]) (by (simp -dsimp only [zzB,tys,ite_self,A8,A2,Ax,Aq,Ao,At,Az,Ac,A5,PV.sk,Ai,Ar,As,Ap,Ay,Ab,Aj,Am,A9,Value.oneCell',Ah,Ba,Aw,A4,A1,Al,An,Ae,Ak,isZ,A6,A3,Ad,Aa,Ag,A0,Af,↓reduceIte,reduceSub,reduceEqDiff,reduceAdd,reduceMul,reduceLT,reduceLeDiff,reduceToNat,reduceLE,Int.reduceLT,reduceNeg,reduceCtorEq,Bm,Bo]) <;> simp [Bs,Bn,Be]) (by repeat (first|exact Bx _|refine Bp ?_|refine B4 ?_|refine Bt ?_|refine Bu ?_ (by simp [Bs,Bn,Be]))) (Bl)),?_,?_⟩
            · rw [t1]; simp [Bi]
            · funext c
              simp (maxSteps:=20000000) only [Heap.drop_at,Bh,Heap.put_at,Heap.none_at,List.mem_cons,List.not_mem_nil,or_false]
              by_cases e0:c=(0,0)::base
              · subst e0; simp [t1]
              by_cases e1:c=(1,6)::base
              · subst e1; simp [t1]
              by_cases e2:c=(11,11)::base
              · subst e2; simp [t1]
              by_cases e3:c=(11,12)::base
              · subst e3; simp [t1]
              simp [e0,e1,e2,e3,t1]
          | succ j =>
            repeat (first|((first|refine Bd rfl (by simp only [tys]) ?_|refine Bc rfl (by simp only [tys]) ?_); apply Exists.intro; apply And.intro; (focus (simp -dsimp only [simx,zzC,zzB,tys,ite_self,A8,A2,Ax,Aq,Ao,At,Az,Ac,A5,PV.sk,Ai,Ar,As,Ap,Ay,Ab,Aj,Am,A9,Value.oneCell',Ah,Ba,Aw,A4,A1,Al,An,Ae,Ak,isZ,A6,A3,Ad,Aa,Ag,A0,Af,↓reduceIte,reduceSub,reduceEqDiff,reduceAdd,reduceMul,reduceLT,reduceLeDiff,reduceToNat,reduceLE,Int.reduceLT,reduceNeg,reduceCtorEq,zzL,if_true,if_false] <;> rfl)); apply Exists.intro; apply And.intro; (focus (first|exact a1|exact a2)))|refine Bg rfl ?_|refine Bb rfl ?_|refine ⟨(dxX (by kernel_rfl)),?_⟩|exact (dxX (by kernel_rfl))|simp -dsimp (maxSteps:=20000000) (disch:=omega) only [simx,zzC,zzB,tys,ite_self,A8,A2,Ax,Aq,Ao,At,Az,Ac,A5,PV.sk,Ai,Ar,As,Ap,Ay,Ab,Aj,Am,A9,Value.oneCell',Ah,Ba,Aw,A4,A1,Al,An,Ae,Ak,isZ,A6,A3,Ad,Aa,Ag,A0,Af,↓reduceIte,reduceSub,reduceEqDiff,reduceAdd,reduceMul,reduceLT,reduceLeDiff,reduceToNat,reduceLE,Int.reduceLT,reduceNeg,reduceCtorEq,gos,Int.reduceAdd,Int.reduceSub,Int.reduceMul,reduceEq,cj,g1,SK.len,hr',List.length_map,Co,Cn])
            refine Cg (s:=(11,12)::base) (n:=j + 1) (z:=1) (cs:=(tbl (j + 1) F).map iu) 22 [.int .u64 0] [iu v] (by simp only [tys]) (by simp only [tys]) rfl (by decide) (by rw [List.length_map,tl,Nat.mul_one]) (by simp [Heap.put_at,Heap.none_at,Bh]) (by simp [Heap.put_at]; rfl) rfl (by simp only [tys]; omega) (by rw [B3]; omega) ?_
            repeat (first|refine Bg rfl ?_|refine Bb rfl ?_|refine ⟨(dxX (by kernel_rfl)),?_⟩|exact (dxX (by kernel_rfl))|simp -dsimp (maxSteps:=20000000) (disch:=omega) only [simx,zzC,zzB,tys,ite_self,A8,A2,Ax,Aq,Ao,At,Az,Ac,A5,PV.sk,Ai,Ar,As,Ap,Ay,Ab,Aj,Am,A9,Value.oneCell',Ah,Ba,Aw,A4,A1,Al,An,Ae,Ak,isZ,A6,A3,Ad,Aa,Ag,A0,Af,↓reduceIte,reduceSub,reduceEqDiff,reduceAdd,reduceMul,reduceLT,reduceLeDiff,reduceToNat,reduceLE,Int.reduceLT,reduceNeg,reduceCtorEq,gos,Int.reduceAdd,Int.reduceSub,Int.reduceMul,reduceEq,cj,Co,Cn,Bi])
            refine ⟨cj,(Bv (by simp only [Heap.none_at]) (by (simp -dsimp only [zzB,tys,ite_self,A8,A2,Ax,Aq,Ao,At,Az,Ac,A5,PV.sk,Ai,Ar,As,Ap,Ay,Ab,Aj,Am,A9,Value.oneCell',Ah,Ba,Aw,A4,A1,Al,An,Ae,Ak,isZ,A6,A3,Ad,Aa,Ag,A0,Af,↓reduceIte,reduceSub,reduceEqDiff,reduceAdd,reduceMul,reduceLT,reduceLeDiff,reduceToNat,reduceLE,Int.reduceLT,reduceNeg,reduceCtorEq,Bm,Bo]) <;> simp [Bs,Bn,Be]) (by repeat (first|exact Bx _|refine Bp ?_|refine B4 ?_|refine Bt ?_|refine Bu ?_ (by simp [Bs,Bn,Be]))) (Bl)),?_,?_⟩
            · rw [t1]; simp [Bi]
            · funext c
              simp (maxSteps:=20000000) only [Heap.drop_at,Bh,Heap.put_at,Heap.none_at,List.mem_cons,List.not_mem_nil,or_false]
              by_cases e0:c=(0,0)::base
              · subst e0; simp [t1]
              by_cases e1:c=(1,6)::base
              · subst e1; simp [t1]
              by_cases e2:c=(11,11)::base
              · subst e2; simp [t1]
              by_cases e3:c=(11,12)::base
              · subst e3; simp [t1]
              simp [e0,e1,e2,e3,t1]
        · obtain rfl:r=j:=by omega
          clear sub Fk ra
          rcases Nat.eq_zero_or_pos r with h0|h0
          · subst h0
            have q3':CallsP Try.prog 68 [u64 P,C3 ((0:Nat):Int) ((0:Nat):Int) core,.i (.l 0 [])] (.i (.l 0 (Z.map iu))):=q3'
            repeat (first|((first|refine Bd rfl (by simp only [tys]) ?_|refine Bc rfl (by simp only [tys]) ?_); apply Exists.intro; apply And.intro; (focus (simp -dsimp only [simx,zzC,zzB,tys,ite_self,A8,A2,Ax,Aq,Ao,At,Az,Ac,A5,PV.sk,Ai,Ar,As,Ap,Ay,Ab,Aj,Am,A9,Value.oneCell',Ah,Ba,Aw,A4,A1,Al,An,Ae,Ak,isZ,A6,A3,Ad,Aa,Ag,A0,Af,↓reduceIte,reduceSub,reduceEqDiff,reduceAdd,reduceMul,reduceLT,reduceLeDiff,reduceToNat,reduceLE,Int.reduceLT,reduceNeg,reduceCtorEq,zzL,if_true,if_false,SK.len] <;> rfl)); apply Exists.intro; apply And.intro; (focus (first|exact q2|exact q3')))|refine Bg rfl ?_|refine Bb rfl ?_|refine ⟨(dxX (by kernel_rfl)),?_⟩|exact (dxX (by kernel_rfl))|simp -dsimp (maxSteps:=20000000) (disch:=omega) only [simx,zzC,zzB,tys,ite_self,A8,A2,Ax,Aq,Ao,At,Az,Ac,A5,PV.sk,Ai,Ar,As,Ap,Ay,Ab,Aj,Am,A9,Value.oneCell',Ah,Ba,Aw,A4,A1,Al,An,Ae,Ak,isZ,A6,A3,Ad,Aa,Ag,A0,Af,↓reduceIte,reduceSub,reduceEqDiff,reduceAdd,reduceMul,reduceLT,reduceLeDiff,reduceToNat,reduceLE,Int.reduceLT,reduceNeg,reduceCtorEq,gos,Int.reduceAdd,Int.reduceSub,Int.reduceMul,reduceEq,Bk,Ci,b1,b2,rl,px,fC,f1,SK.len,hr',ql,List.length_map])
            refine B5 [6,11,12,13] [(11,12)::base] (0) (0) (fun j_ => True) (fun j_ => [(13,i64 j_)]) (fun j_ => ((Heap.none.put ((0,0)::base) (.var [i64 R,i64 C,lu l])).put ((1,6)::base) (.var [li rws,li cls,llP cc,llP uu])).put ((13,2)::base) (.row false ((PJ j_).map iu))) ?_ ?_ ?_ ?_ ?_ (by decide) ?_
            · exact (Bv (by simp only [Heap.none_at]) (by (simp -dsimp only [zzB,tys,ite_self,A8,A2,Ax,Aq,Ao,At,Az,Ac,A5,PV.sk,Ai,Ar,As,Ap,Ay,Ab,Aj,Am,A9,Value.oneCell',Ah,Ba,Aw,A4,A1,Al,An,Ae,Ak,isZ,A6,A3,Ad,Aa,Ag,A0,Af,↓reduceIte,reduceSub,reduceEqDiff,reduceAdd,reduceMul,reduceLT,reduceLeDiff,reduceToNat,reduceLE,Int.reduceLT,reduceNeg,reduceCtorEq,Bm,Bo]) <;> simp [Bs,Bn,Be]) (by repeat (first|exact Bx _|refine Bp ?_|refine B4 ?_|refine Bt ?_|refine Bu ?_ (by simp [Bs,Bn,Be]))) (Bl))
            · ((simp -dsimp (disch:=omega) only [simx,zzB,tys,ite_self,A8,A2,Ax,Aq,Ao,At,Az,Ac,A5,PV.sk,Ai,Ar,As,Ap,Ay,Ab,Aj,Am,A9,Value.oneCell',Ah,Ba,Aw,A4,A1,Al,An,Ae,Ak,isZ,A6,A3,Ad,Aa,Ag,A0,Af,↓reduceIte,reduceSub,reduceEqDiff,reduceAdd,reduceMul,reduceLT,reduceLeDiff,reduceToNat,reduceLE,Int.reduceLT,reduceNeg,reduceCtorEq,gos,Int.reduceAdd,Int.reduceSub,Int.reduceMul,reduceEq]) <;> first|rfl|simp)
            · funext c
              simp (maxSteps:=20000000) only [Heap.drop_at,Bh,Heap.put_at,Heap.none_at,List.mem_cons,List.not_mem_nil,or_false]
              by_cases e0:c=(0,0)::base
              · subst e0; simp []
              by_cases e1:c=(1,6)::base
              · subst e1; simp []
              by_cases e2:c=(11,12)::base
              · subst e2; simp []
              by_cases e3:c=(13,2)::base
              · subst e3; simp []
              simp [e0,e1,e2,e3]
            · omega
            · trivial
            · intro k hk _
              by_cases ck:k < 0
              · omega
              · obtain rfl:0=k:=by omega
                rw [full]
                have nt:(X.map iu).take C=X.map iu:=List.take_of_length_le (by rw [List.length_map,xl]; exact Nat.le_refl _)
                repeat (first|refine Bg rfl ?_|refine Bb rfl ?_|refine ⟨(dxX (by kernel_rfl)),?_⟩|exact (dxX (by kernel_rfl))|simp -dsimp (maxSteps:=20000000) (disch:=omega) only [simx,zzC,zzB,tys,ite_self,A8,A2,Ax,Aq,Ao,At,Az,Ac,A5,PV.sk,Ai,Ar,As,Ap,Ay,Ab,Aj,Am,A9,Value.oneCell',Ah,Ba,Aw,A4,A1,Al,An,Ae,Ak,isZ,A6,A3,Ad,Aa,Ag,A0,Af,↓reduceIte,reduceSub,reduceEqDiff,reduceAdd,reduceMul,reduceLT,reduceLeDiff,reduceToNat,reduceLE,Int.reduceLT,reduceNeg,reduceCtorEq,zzR,gos,Int.reduceAdd,Int.reduceSub,Int.reduceMul,reduceEq,ql,hr',SK.len,List.length_map,xl,nt])
                rw [lu,xl]
          · have rp:=fun s z cs => Hb s z cs h0
            have rh:=fun h s cs => Ge h s cs h0
            have tl:=Ca r F
            have e2:((tbl r F).map iu).take r=(tbl r F).map iu:=List.take_of_length_le (by rw [List.length_map,tl]; exact Nat.le_refl _)
            repeat (first|((first|refine Bd rfl (by simp only [tys]) ?_|refine Bc rfl (by simp only [tys]) ?_); apply Exists.intro; apply And.intro; (focus (simp -dsimp only [simx,zzC,zzB,tys,ite_self,A8,A2,Ax,Aq,Ao,At,Az,Ac,A5,PV.sk,Ai,Ar,As,Ap,Ay,Ab,Aj,Am,A9,Value.oneCell',Ah,Ba,Aw,A4,A1,Al,An,Ae,Ak,isZ,A6,A3,Ad,Aa,Ag,A0,Af,↓reduceIte,reduceSub,reduceEqDiff,reduceAdd,reduceMul,reduceLT,reduceLeDiff,reduceToNat,reduceLE,Int.reduceLT,reduceNeg,reduceCtorEq,zzL,if_true,if_false,tl,e2,List.length_map,SK.len] <;> rfl)); apply Exists.intro; apply And.intro; (focus (first|exact q2|exact q3')))|refine Bg rfl ?_|refine Bb rfl ?_|refine ⟨(dxX (by kernel_rfl)),?_⟩|exact (dxX (by kernel_rfl))|simp -dsimp (maxSteps:=20000000) (disch:=omega) only [simx,zzC,zzB,tys,ite_self,A8,A2,Ax,Aq,Ao,At,Az,Ac,A5,PV.sk,Ai,Ar,As,Ap,Ay,Ab,Aj,Am,A9,Value.oneCell',Ah,Ba,Aw,A4,A1,Al,An,Ae,Ak,isZ,A6,A3,Ad,Aa,Ag,A0,Af,↓reduceIte,reduceSub,reduceEqDiff,reduceAdd,reduceMul,reduceLT,reduceLeDiff,reduceToNat,reduceLE,Int.reduceLT,reduceNeg,reduceCtorEq,gos,Int.reduceAdd,Int.reduceSub,Int.reduceMul,reduceEq,rp,rh,tl,e2,b1,b2,rl,px,fC,f1,SK.len,hr',ql,List.length_map])
            refine B5 [6,11,12,13] [(11,12)::base] (0) (r) (fun j_ => True) (fun j_ => [(13,i64 j_)]) (fun j_ => ((Heap.none.put ((0,0)::base) (.var [i64 R,i64 C,lu l])).put ((1,6)::base) (.var [li rws,li cls,llP cc,llP uu])).put ((13,2)::base) (.row false ((PJ j_).map iu))) ?_ ?_ ?_ ?_ ?_ (by decide) ?_
            · exact (Bv (by simp only [Heap.none_at]) (by (simp -dsimp only [zzB,tys,ite_self,A8,A2,Ax,Aq,Ao,At,Az,Ac,A5,PV.sk,Ai,Ar,As,Ap,Ay,Ab,Aj,Am,A9,Value.oneCell',Ah,Ba,Aw,A4,A1,Al,An,Ae,Ak,isZ,A6,A3,Ad,Aa,Ag,A0,Af,↓reduceIte,reduceSub,reduceEqDiff,reduceAdd,reduceMul,reduceLT,reduceLeDiff,reduceToNat,reduceLE,Int.reduceLT,reduceNeg,reduceCtorEq,Bm,Bo]) <;> simp [Bs,Bn,Be]) (by repeat (first|exact Bx _|refine Bp ?_|refine B4 ?_|refine Bt ?_|refine Bu ?_ (by simp [Bs,Bn,Be]))) (Bl))
            · ((simp -dsimp (disch:=omega) only [simx,zzB,tys,ite_self,A8,A2,Ax,Aq,Ao,At,Az,Ac,A5,PV.sk,Ai,Ar,As,Ap,Ay,Ab,Aj,Am,A9,Value.oneCell',Ah,Ba,Aw,A4,A1,Al,An,Ae,Ak,isZ,A6,A3,Ad,Aa,Ag,A0,Af,↓reduceIte,reduceSub,reduceEqDiff,reduceAdd,reduceMul,reduceLT,reduceLeDiff,reduceToNat,reduceLE,Int.reduceLT,reduceNeg,reduceCtorEq,gos,Int.reduceAdd,Int.reduceSub,Int.reduceMul,reduceEq]) <;> first|rfl|simp)
            · funext c
              simp (maxSteps:=20000000) only [Heap.drop_at,Bh,Heap.put_at,Heap.none_at,List.mem_cons,List.not_mem_nil,or_false]
              by_cases e0:c=(0,0)::base
              · subst e0; simp []
              by_cases e1:c=(1,6)::base
              · subst e1; simp []
              by_cases e2:c=(11,12)::base
              · subst e2; simp []
              by_cases e3:c=(13,2)::base
              · subst e3; simp []
              simp [e0,e1,e2,e3]
            · omega
            · trivial
            · intro k hk _
              by_cases ck:k < r
              · have g1:=(qa k ck).1
                have g2:=zg k ck
                have i1:=(qa k ck).2
                have px:=pn k ck
                have l1:=pl k
                have i2:Q k + 1 ≤ C:=i1
                clear pn zg qa full
                generalize X.getD (Q k) 0=v at g2 px
                generalize hY:PJ (k + 1)=Y at px
                generalize PJ k=W at px l1 ⊢
                generalize Q k=q at g1 i1 i2 px
                repeat (first|refine Bg rfl ?_|refine Bb rfl ?_|refine ⟨(dxX (by kernel_rfl)),?_⟩|exact (dxX (by kernel_rfl))|simp -dsimp (maxSteps:=20000000) (disch:=omega) only [simx,zzC,zzB,tys,ite_self,A8,A2,Ax,Aq,Ao,At,Az,Ac,A5,PV.sk,Ai,Ar,As,Ap,Ay,Ab,Aj,Am,A9,Value.oneCell',Ah,Ba,Aw,A4,A1,Al,An,Ae,Ak,isZ,A6,A3,Ad,Aa,Ag,A0,Af,↓reduceIte,reduceSub,reduceEqDiff,reduceAdd,reduceMul,reduceLT,reduceLeDiff,reduceToNat,reduceLE,Int.reduceLT,reduceNeg,reduceCtorEq,gos,Int.reduceAdd,Int.reduceSub,Int.reduceMul,reduceEq,ck,g1,g2,i1,i2,px,l1,zl,ql,hr',SK.len,List.length_map])
                refine ⟨ck,(Bv (by simp only [Heap.none_at]) (by (simp -dsimp only [zzB,tys,ite_self,A8,A2,Ax,Aq,Ao,At,Az,Ac,A5,PV.sk,Ai,Ar,As,Ap,Ay,Ab,Aj,Am,A9,Value.oneCell',Ah,Ba,Aw,A4,A1,Al,An,Ae,Ak,isZ,A6,A3,Ad,Aa,Ag,A0,Af,↓reduceIte,reduceSub,reduceEqDiff,reduceAdd,reduceMul,reduceLT,reduceLeDiff,reduceToNat,reduceLE,Int.reduceLT,reduceNeg,reduceCtorEq,Bm,Bo]) <;> simp [Bs,Bn,Be]) (by repeat (first|exact Bx _|refine Bp ?_|refine B4 ?_|refine Bt ?_|refine Bu ?_ (by simp [Bs,Bn,Be]))) (Bl)),rfl,?_⟩
                rw [hY]
                funext c
                simp (maxSteps:=20000000) only [Heap.drop_at,Bh,Heap.put_at,Heap.none_at,List.mem_cons,List.not_mem_nil,or_false]
                by_cases e0:c=(0,0)::base
                · subst e0; simp []
                by_cases e1:c=(1,6)::base
                · subst e1; simp []
                by_cases e2:c=(11,12)::base
                · subst e2; simp []
                by_cases e3:c=(13,2)::base
                · subst e3; simp []
                simp [e0,e1,e2,e3]
              · obtain rfl:r=k:=by omega
                rw [full]
                have nt:(X.map iu).take C=X.map iu:=List.take_of_length_le (by rw [List.length_map,xl]; exact Nat.le_refl _)
                repeat (first|refine Bg rfl ?_|refine Bb rfl ?_|refine ⟨(dxX (by kernel_rfl)),?_⟩|exact (dxX (by kernel_rfl))|simp -dsimp (maxSteps:=20000000) (disch:=omega) only [simx,zzC,zzB,tys,ite_self,A8,A2,Ax,Aq,Ao,At,Az,Ac,A5,PV.sk,Ai,Ar,As,Ap,Ay,Ab,Aj,Am,A9,Value.oneCell',Ah,Ba,Aw,A4,A1,Al,An,Ae,Ak,isZ,A6,A3,Ad,Aa,Ag,A0,Af,↓reduceIte,reduceSub,reduceEqDiff,reduceAdd,reduceMul,reduceLT,reduceLeDiff,reduceToNat,reduceLE,Int.reduceLT,reduceNeg,reduceCtorEq,zzR,gos,Int.reduceAdd,Int.reduceSub,Int.reduceMul,reduceEq,ql,hr',SK.len,List.length_map,xl,nt])
                rw [lu,xl]
end Go.Proofs.Ythnfphgjfpcpbaa.TM
namespace Go.Proofs.Ythnfphgjfpcpbaa.TM
open Go Go.RowKit
attribute [local irreducible] K W Dg Effs Xg Xo Xr Xdg Xdo Xdr Xif CallsP CallR
theorem Wz {P r:Nat} {nl:List Int} (hp:Md P) (h64:r ≤ 64) (hl:nl.length=r * r) (hin:∀ a ∈ nl,In P a):CallsP Try.prog 75 [C3 (r:Int) (r:Int) nl] (C3 (r:Int) (r:Int) (Ee r r nl)):=by
  rcases Nat.eq_zero_or_pos r with h0|h0
  · subst h0
    obtain rfl:nl=[]:=List.eq_nil_of_length_eq_zero (by omega)
    rw [show Ee 0 0 ([]:List Int)=[] from List.eq_nil_of_length_eq_zero (by rw [Gx])]
    refine Bj (n:=33) (m:=1) (rs:=[.cell 2 25]) Try.func75 rfl rfl rfl rfl (by decide) fun base => ?_
    repeat (first|refine Bg rfl ?_|refine Bb rfl ?_|refine ⟨(dxX (by kernel_rfl)),?_⟩|exact (dxX (by kernel_rfl))|simp -dsimp (maxSteps:=20000000) (disch:=omega) only [simx,zzC,zzB,tys,ite_self,A8,A2,Ax,Aq,Ao,At,Az,Ac,A5,PV.sk,Ai,Ar,As,Ap,Ay,Ab,Aj,Am,A9,Value.oneCell',Ah,Ba,Aw,A4,A1,Al,An,Ae,Ak,isZ,A6,A3,Ad,Aa,Ag,A0,Af,↓reduceIte,reduceSub,reduceEqDiff,reduceAdd,reduceMul,reduceLT,reduceLeDiff,reduceToNat,reduceLE,Int.reduceLT,reduceNeg,reduceCtorEq,gos,Int.reduceAdd,Int.reduceSub,Int.reduceMul,reduceEq])
    refine B5 [1,2,3,4] [] (0) (0) (fun j => True) (fun j => [(4,i64 j)]) (fun j => ((Heap.none.put ((0,0)::base) (.var [i64 0,i64 0,lu []])).put ((0,1)::base) (.var [i64 0,i64 0,Dk])).put ((1,5)::base) (.var [i64 0,i64 0,Dk])) ?_ ?_ ?_ ?_ ?_ (by decide) ?_
    · exact (Bl)
    · ((simp -dsimp (disch:=omega) only [simx,zzB,tys,ite_self,A8,A2,Ax,Aq,Ao,At,Az,Ac,A5,PV.sk,Ai,Ar,As,Ap,Ay,Ab,Aj,Am,A9,Value.oneCell',Ah,Ba,Aw,A4,A1,Al,An,Ae,Ak,isZ,A6,A3,Ad,Aa,Ag,A0,Af,↓reduceIte,reduceSub,reduceEqDiff,reduceAdd,reduceMul,reduceLT,reduceLeDiff,reduceToNat,reduceLE,Int.reduceLT,reduceNeg,reduceCtorEq,gos,Int.reduceAdd,Int.reduceSub,Int.reduceMul,reduceEq]) <;> first|rfl|simp)
    · funext c
      simp (maxSteps:=20000000) only [Heap.drop_at,Bh,Heap.put_at,Heap.none_at,List.mem_cons,List.not_mem_nil,or_false]
      by_cases e0:c=(0,0)::base
      · subst e0; simp []
      by_cases e1:c=(0,1)::base
      · subst e1; simp []
      by_cases e2:c=(1,5)::base
      · subst e2; simp []
      simp [e0,e1,e2]
    · omega
    · trivial
    · intro j hj _
      obtain rfl:j=0:=by omega
      repeat (first|refine Bg rfl ?_|refine Bb rfl ?_|refine ⟨(dxX (by kernel_rfl)),?_⟩|exact (dxX (by kernel_rfl))|simp -dsimp (maxSteps:=20000000) (disch:=omega) only [simx,zzC,zzB,tys,ite_self,A8,A2,Ax,Aq,Ao,At,Az,Ac,A5,PV.sk,Ai,Ar,As,Ap,Ay,Ab,Aj,Am,A9,Value.oneCell',Ah,Ba,Aw,A4,A1,Al,An,Ae,Ak,isZ,A6,A3,Ad,Aa,Ag,A0,Af,↓reduceIte,reduceSub,reduceEqDiff,reduceAdd,reduceMul,reduceLT,reduceLeDiff,reduceToNat,reduceLE,Int.reduceLT,reduceNeg,reduceCtorEq,zzR,gos,Int.reduceAdd,Int.reduceSub,Int.reduceMul,reduceEq])
      try rfl
  · exact Xd (p:=P) ⟨hp,h0,h64,h0,h64,hl,fun a ha => (hin a ha).2⟩
set_option maxHeartbeats 16000000 in
set_option maxRecDepth 100000 in
theorem J1 {P R C:Nat} {l:List Int} (hP:Prm P) (M:Mt P R C l) (hin:∀ a ∈ l,In P a) {i:Nat} (hi:i < R) :
    CallsP Try.prog 27 [u64 P,C3 R C l,i64 i] (if (i:Int) ∈ (Bf P C R l).1 then .tup [lu [],i64 6] else .tup [lu (Dc P R (Bf P C R l) i),i64 0]):=by
  have hp:=M.hp
  have r2:=M.r2
  have c2:=M.c2
  have q1:=La hP M hin
  have hw:=Dx hP M hin
  have rle:=hw.rle
  have ql:=hw.ql
  have fd:=P5 (Bf P C R l).1 (i:Int) (by rw [B3]; omega)
  have fi:=Mc (i:Int) (Bf P C R l).1 0
  by_cases hn:(i:Int) ∈ (Bf P C R l).1
  · rw [if_pos hn]
    have f0:=fi.2 hn
    generalize Hj (i:Int) (Bf P C R l).1 0=x at f0 fd
    clear hw rle ql fi hn
    generalize Bf P C R l=c at *
    obtain ⟨rws,cls,cc,uu⟩:=c
    refine Bj (n:=78) (m:=3) (rs:=[.tmp 6,.tmp 7]) Try.func27 rfl rfl rfl rfl (by decide) fun base => ?_
    repeat (first|((first|refine Bd rfl (by simp only [tys]) ?_|refine Bc rfl (by simp only [tys]) ?_); apply Exists.intro; apply And.intro; (focus (simp -dsimp only [simx,zzC,zzB,tys,ite_self,A8,A2,Ax,Aq,Ao,At,Az,Ac,A5,PV.sk,Ai,Ar,As,Ap,Ay,Ab,Aj,Am,A9,Value.oneCell',Ah,Ba,Aw,A4,A1,Al,An,Ae,Ak,isZ,A6,A3,Ad,Aa,Ag,A0,Af,↓reduceIte,reduceSub,reduceEqDiff,reduceAdd,reduceMul,reduceLT,reduceLeDiff,reduceToNat,reduceLE,Int.reduceLT,reduceNeg,reduceCtorEq,zzL,if_true,if_false] <;> rfl)); apply Exists.intro; apply And.intro; (focus (first|exact q1|exact fd)))|refine Bg rfl ?_|refine Bb rfl ?_|refine ⟨(dxX (by kernel_rfl)),?_⟩|exact (dxX (by kernel_rfl))|simp -dsimp (maxSteps:=20000000) (disch:=omega) only [simx,zzC,zzB,tys,ite_self,A8,A2,Ax,Aq,Ao,At,Az,Ac,A5,PV.sk,Ai,Ar,As,Ap,Ay,Ab,Aj,Am,A9,Value.oneCell',Ah,Ba,Aw,A4,A1,Al,An,Ae,Ak,isZ,A6,A3,Ad,Aa,Ag,A0,Af,↓reduceIte,reduceSub,reduceEqDiff,reduceAdd,reduceMul,reduceLT,reduceLeDiff,reduceToNat,reduceLE,Int.reduceLT,reduceNeg,reduceCtorEq,zzR,gos,Int.reduceAdd,Int.reduceSub,Int.reduceMul,reduceEq,f0])
    try rfl
  rw [if_neg hn]
  have f0:¬ 0 ≤ Hj (i:Int) (Bf P C R l).1 0:=fun h => hn (fi.1 h)
  clear fi
  generalize Hj (i:Int) (Bf P C R l).1 0=x at f0 fd
  have V:=Ha hP M hin hi hn
  have q2:=Nd M hw
  have xl:=V.len
  have xi:=V.inn
  have qt:=Wz (r:=(Bf P C R l).1.length) (nl:=Ev C l (Bf P C R l)) hp (by omega) (Iv C l _) (On M hin hw)
  have tin:∀ a ∈ Ee (Bf P C R l).1.length (Bf P C R l).1.length (Ev C l (Bf P C R l)),In P a:=fun a ha => by
    rcases Nat.eq_zero_or_pos (Bf P C R l).1.length with h0|h0
    · have:(Ee (Bf P C R l).1.length (Bf P C R l).1.length (Ev C l (Bf P C R l))).length=0:=by rw [Gx,h0]
      rw [List.eq_nil_of_length_eq_zero this] at ha
      cases ha
    · exact On M hin hw a (Ac2 h0 (Iv C l _) ha)
  have q3:=Qa (b:=tbl (Bf P C R l).1.length (fun k => (0 - l.getD (i * C + cwC (Bf P C R l) k) 0) % P)) hP hp (by omega) (Gx (Bf P C R l).1.length (Bf P C R l).1.length (Ev C l (Bf P C R l))) tin (fun a ha => by
    obtain ⟨k,hk,rfl⟩:=Dh ha
    exact Dl hp _) (Ca ..) (fun _ => Se hP M hin)
  obtain ⟨hc1,hc2⟩:=Ao5 hP M hin hi hn
  rw [hc1] at q3
  have full:=Pg (X:=Dc P R (Bf P C R l) i) (e:=fun m => if m=i then 1 else 0) (cols:=(Bf P C R l).1) xl fun m hm h => hc2 m hm h
  clear hc1 hc2 tin V
  have zg:=fun k hk => atR_at (c:=Bf P C R l) (X:=Dc P R (Bf P C R l) i) (k:=k) hk
  have zl:(atR (Bf P C R l) (Dc P R (Bf P C R l) i)).length=(Bf P C R l).1.length:=Ca ..
  have ra:=fun k hk => Rr hw (k:=k) hk
  have qa:=fun k hk => We hw (k:=k) hk
  have cq:∀ j,j < (Bf P C R l).1.length → (Bf P C R l).1.getD j 0=(rwC (Bf P C R l) j:Int):=fun j hj => by
    have:=hw.rb _ (C0 (l:=(Bf P C R l).1) (d:=0) (i:=j) (by omega))
    unfold rwC; omega
  have pn:∀ j,j < (Bf P C R l).1.length → _:=fun j hj => Pf (X:=Dc P R (Bf P C R l) i) (e:=fun m => if m=i then 1 else 0) (cols:=(Bf P C R l).1) (C:=R) (j:=j) (by omega) (cq j hj) (ra j hj).2
  have p0:=Pe (Dc P R (Bf P C R l) i) (fun m => if m=i then 1 else 0) (Bf P C R l).1 R
  have pl:=fun j => Oi (Dc P R (Bf P C R l) i) (fun m => if m=i then 1 else 0) (Bf P C R l).1 R j
  have sub:=fun k (hk:k < C) => Ii P 0 (l.getD (i * C + k) 0) hp ⟨by decide,by have:=hp.1; omega⟩ (Av0 M.len hin hi hk)
  obtain ⟨F,hF⟩:∃ F:Nat → Int,F=fun k => (0 - l.getD (i * C + cwC (Bf P C R l) k) 0) % P:=⟨_,rfl⟩
  rw [← hF] at q3
  have Fk:∀ k,(0 - l.getD (i * C + cwC (Bf P C R l) k) 0) % (P:Int)=F k:=fun k => by rw [hF]
  clear cq hw hin hP hF hn
  generalize Ee (Bf P C R l).1.length (Bf P C R l).1.length (Ev C l (Bf P C R l))=tcore at *
  generalize Ev C l (Bf P C R l)=core at *
  generalize plJ (Dc P R (Bf P C R l) i) (fun m => if m=i then 1 else 0) (Bf P C R l).1 R=PJ at *
  generalize atR (Bf P C R l) (Dc P R (Bf P C R l) i)=Z at *
  generalize Dc P R (Bf P C R l) i=X at *
  generalize rwC (Bf P C R l)=S at *
  generalize cwC (Bf P C R l)=Q at *
  generalize Bf P C R l=c at *
  obtain ⟨rws,cls,cc,uu⟩:=c
  simp only at q1 q2 q3 qt rle ql full zg zl ra qa pn fd
  obtain ⟨r,hr⟩:∃ r,r=rws.length:=⟨_,rfl⟩
  rw [← hr] at q2 q3 qt rle ql zg zl ra qa pn full
  have hr':=hr.symm
  have q3':CallsP Try.prog 68 [u64 P,C3 (r:Int) (r:Int) tcore,.i (.l r ((tbl r F).map iu))] (.i (.l r (Z.map iu))):=by
    have l1:=Ca r F
    rw [lu,lu,l1,zl] at q3; exact q3
  clear q3
  have b1:R * 8 ≤ 140737488355328:=by omega
  have b2:R ≤ 140737488355328:=by omega
  have rl:((Cc [Value.int .u64 0] R).map IV.v).length=R:=by rw [List.length_map,C8]; simp
  have zt:(Cc [Value.int .u64 0] R).map IV.v=(tbl R (fun _ => 0)).map iu:=Ey R
  have px:=Du (fun _ => 0) 1 hi
  rw [← zt,← p0] at px
  have f1:i + 1 ≤ R:=hi
  clear zt p0
  refine Bj (n:=78) (m:=3) (rs:=[.tmp 6,.tmp 7]) Try.func27 rfl rfl rfl rfl (by decide) fun base => ?_
  repeat (first|((first|refine Bd rfl (by simp only [tys]) ?_|refine Bc rfl (by simp only [tys]) ?_); apply Exists.intro; apply And.intro; (focus (simp -dsimp only [simx,zzC,zzB,tys,ite_self,A8,A2,Ax,Aq,Ao,At,Az,Ac,A5,PV.sk,Ai,Ar,As,Ap,Ay,Ab,Aj,Am,A9,Value.oneCell',Ah,Ba,Aw,A4,A1,Al,An,Ae,Ak,isZ,A6,A3,Ad,Aa,Ag,A0,Af,↓reduceIte,reduceSub,reduceEqDiff,reduceAdd,reduceMul,reduceLT,reduceLeDiff,reduceToNat,reduceLE,Int.reduceLT,reduceNeg,reduceCtorEq,zzL,if_true,if_false] <;> rfl)); apply Exists.intro; apply And.intro; (focus (first|exact q1|exact fd)))|refine Bg rfl ?_|refine Bb rfl ?_|refine ⟨(dxX (by kernel_rfl)),?_⟩|exact (dxX (by kernel_rfl))|simp -dsimp (maxSteps:=20000000) (disch:=omega) only [simx,zzC,zzB,tys,ite_self,A8,A2,Ax,Aq,Ao,At,Az,Ac,A5,PV.sk,Ai,Ar,As,Ap,Ay,Ab,Aj,Am,A9,Value.oneCell',Ah,Ba,Aw,A4,A1,Al,An,Ae,Ak,isZ,A6,A3,Ad,Aa,Ag,A0,Af,↓reduceIte,reduceSub,reduceEqDiff,reduceAdd,reduceMul,reduceLT,reduceLeDiff,reduceToNat,reduceLE,Int.reduceLT,reduceNeg,reduceCtorEq,gos,Int.reduceAdd,Int.reduceSub,Int.reduceMul,reduceEq,f0])
  refine B5 [0,2,4,8,10,11] [(8,11)::base] (0) (r) (fun j => True) (fun j => [(10,rowP ((8,12)::base) 1 j ((tbl j F).map iu)),(11,i64 j)]) (fun j => C9 ((Heap.none.put ((0,0)::base) (.var [i64 R,i64 C,lu l])).put ((1,6)::base) (.var [li rws,li cls,llP cc,llP uu])) ((8,12)::base) j ((tbl j F).map iu)) ?_ ?_ ?_ ?_ ?_ (by decide) ?_
  · exact (Bv (by simp only [Heap.none_at]) (by (simp -dsimp only [zzB,tys,ite_self,A8,A2,Ax,Aq,Ao,At,Az,Ac,A5,PV.sk,Ai,Ar,As,Ap,Ay,Ab,Aj,Am,A9,Value.oneCell',Ah,Ba,Aw,A4,A1,Al,An,Ae,Ak,isZ,A6,A3,Ad,Aa,Ag,A0,Af,↓reduceIte,reduceSub,reduceEqDiff,reduceAdd,reduceMul,reduceLT,reduceLeDiff,reduceToNat,reduceLE,Int.reduceLT,reduceNeg,reduceCtorEq,Bm,Bo]) <;> simp [Bs,Bn,Be]) (by repeat (first|exact Bx _|refine Bp ?_|refine B4 ?_|refine Bt ?_|refine Bu ?_ (by simp [Bs,Bn,Be]))) (Bl))
  · ((simp -dsimp (disch:=omega) only [simx,zzB,tys,ite_self,A8,A2,Ax,Aq,Ao,At,Az,Ac,A5,PV.sk,Ai,Ar,As,Ap,Ay,Ab,Aj,Am,A9,Value.oneCell',Ah,Ba,Aw,A4,A1,Al,An,Ae,Ak,isZ,A6,A3,Ad,Aa,Ag,A0,Af,↓reduceIte,reduceSub,reduceEqDiff,reduceAdd,reduceMul,reduceLT,reduceLeDiff,reduceToNat,reduceLE,Int.reduceLT,reduceNeg,reduceCtorEq,gos,Int.reduceAdd,Int.reduceSub,Int.reduceMul,reduceEq]) <;> first|rfl|simp [Bk])
  · rw [Ci]
    funext c
    simp (maxSteps:=20000000) only [Heap.drop_at,Bh,Heap.put_at,Heap.none_at,List.mem_cons,List.not_mem_nil,or_false]
    by_cases e0:c=(0,0)::base
    · subst e0; simp []
    by_cases e1:c=(1,6)::base
    · subst e1; simp []
    by_cases e2:c=(8,11)::base
    · subst e2; simp []
    simp [e0,e1,e2]
  · omega
  · trivial
  · intro j hj _
    by_cases cj:j < r
    · have g1:=(qa j cj).1
      have i1:=(qa j cj).2
      have a1:=Kz M.len M.r2 M.c2 hi i1
      have a2:=sub (Q j) i1
      rw [Fk j] at a2
      have t1:=Fx j F
      have tl:=Ca j F
      clear pn zg qa full ra sub Fk px q3' q1 q2 qt fd
      generalize F j=v at a2 t1
      generalize l.getD (i * C + Q j) 0=w at a1 a2
      cases j with
      | zero =>
        repeat (first|((first|refine Bd rfl (by simp only [tys]) ?_|refine Bc rfl (by simp only [tys]) ?_); apply Exists.intro; apply And.intro; (focus (simp -dsimp only [simx,zzC,zzB,tys,ite_self,A8,A2,Ax,Aq,Ao,At,Az,Ac,A5,PV.sk,Ai,Ar,As,Ap,Ay,Ab,Aj,Am,A9,Value.oneCell',Ah,Ba,Aw,A4,A1,Al,An,Ae,Ak,isZ,A6,A3,Ad,Aa,Ag,A0,Af,↓reduceIte,reduceSub,reduceEqDiff,reduceAdd,reduceMul,reduceLT,reduceLeDiff,reduceToNat,reduceLE,Int.reduceLT,reduceNeg,reduceCtorEq,zzL,if_true,if_false] <;> rfl)); apply Exists.intro; apply And.intro; (focus (first|exact a1|exact a2)))|refine Bg rfl ?_|refine Bb rfl ?_|refine ⟨(dxX (by kernel_rfl)),?_⟩|exact (dxX (by kernel_rfl))|simp -dsimp (maxSteps:=20000000) (disch:=omega) only [simx,zzC,zzB,tys,ite_self,A8,A2,Ax,Aq,Ao,At,Az,Ac,A5,PV.sk,Ai,Ar,As,Ap,Ay,Ab,Aj,Am,A9,Value.oneCell',Ah,Ba,Aw,A4,A1,Al,An,Ae,Ak,isZ,A6,A3,Ad,Aa,Ag,A0,Af,↓reduceIte,reduceSub,reduceEqDiff,reduceAdd,reduceMul,reduceLT,reduceLeDiff,reduceToNat,reduceLE,Int.reduceLT,reduceNeg,reduceCtorEq,gos,Int.reduceAdd,Int.reduceSub,Int.reduceMul,reduceEq,cj,g1,SK.len,hr',ql,List.length_map,Co,Cn])
        refine Cg (s:=(8,12)::base) (n:=0) (z:=1) (cs:=(tbl 0 F).map iu) 22 [.int .u64 0] [iu v] (by simp only [tys]) (by simp only [tys]) rfl (by decide) (by rw [List.length_map,tl,Nat.zero_mul]) (by simp [Heap.put_at,Heap.none_at,Bh]) (by simp [Heap.put_at]; rfl) rfl (by simp only [tys]; omega) (by rw [B3]; omega) ?_
        repeat (first|refine Bg rfl ?_|refine Bb rfl ?_|refine ⟨(dxX (by kernel_rfl)),?_⟩|exact (dxX (by kernel_rfl))|simp -dsimp (maxSteps:=20000000) (disch:=omega) only [simx,zzC,zzB,tys,ite_self,A8,A2,Ax,Aq,Ao,At,Az,Ac,A5,PV.sk,Ai,Ar,As,Ap,Ay,Ab,Aj,Am,A9,Value.oneCell',Ah,Ba,Aw,A4,A1,Al,An,Ae,Ak,isZ,A6,A3,Ad,Aa,Ag,A0,Af,↓reduceIte,reduceSub,reduceEqDiff,reduceAdd,reduceMul,reduceLT,reduceLeDiff,reduceToNat,reduceLE,Int.reduceLT,reduceNeg,reduceCtorEq,gos,Int.reduceAdd,Int.reduceSub,Int.reduceMul,reduceEq,cj,Co,Cn,Bi])
        refine ⟨cj,(Bv (by simp only [Heap.none_at]) (by (simp -dsimp only [zzB,tys,ite_self,A8,A2,Ax,Aq,Ao,At,Az,Ac,A5,PV.sk,Ai,Ar,As,Ap,Ay,Ab,Aj,Am,A9,Value.oneCell',Ah,Ba,Aw,A4,A1,Al,An,Ae,Ak,isZ,A6,A3,Ad,Aa,Ag,A0,Af,↓reduceIte,reduceSub,reduceEqDiff,reduceAdd,reduceMul,reduceLT,reduceLeDiff,reduceToNat,reduceLE,Int.reduceLT,reduceNeg,reduceCtorEq,Bm,Bo]) <;> simp [Bs,Bn,Be]) (by repeat (first|exact Bx _|refine Bp ?_|refine B4 ?_|refine Bt ?_|refine Bu ?_ (by simp [Bs,Bn,Be]))) (Bl)),?_,?_⟩
        · rw [t1]; simp [Bi]
        · funext c
          simp (maxSteps:=20000000) only [Heap.drop_at,Bh,Heap.put_at,Heap.none_at,List.mem_cons,List.not_mem_nil,or_false]
          by_cases e0:c=(0,0)::base
          · subst e0; simp [t1]
          by_cases e1:c=(1,6)::base
          · subst e1; simp [t1]
          by_cases e2:c=(8,11)::base
          · subst e2; simp [t1]
          by_cases e3:c=(8,12)::base
          · subst e3; simp [t1]
          simp [e0,e1,e2,e3,t1]
      | succ j =>
        repeat (first|((first|refine Bd rfl (by simp only [tys]) ?_|refine Bc rfl (by simp only [tys]) ?_); apply Exists.intro; apply And.intro; (focus (simp -dsimp only [simx,zzC,zzB,tys,ite_self,A8,A2,Ax,Aq,Ao,At,Az,Ac,A5,PV.sk,Ai,Ar,As,Ap,Ay,Ab,Aj,Am,A9,Value.oneCell',Ah,Ba,Aw,A4,A1,Al,An,Ae,Ak,isZ,A6,A3,Ad,Aa,Ag,A0,Af,↓reduceIte,reduceSub,reduceEqDiff,reduceAdd,reduceMul,reduceLT,reduceLeDiff,reduceToNat,reduceLE,Int.reduceLT,reduceNeg,reduceCtorEq,zzL,if_true,if_false] <;> rfl)); apply Exists.intro; apply And.intro; (focus (first|exact a1|exact a2)))|refine Bg rfl ?_|refine Bb rfl ?_|refine ⟨(dxX (by kernel_rfl)),?_⟩|exact (dxX (by kernel_rfl))|simp -dsimp (maxSteps:=20000000) (disch:=omega) only [simx,zzC,zzB,tys,ite_self,A8,A2,Ax,Aq,Ao,At,Az,Ac,A5,PV.sk,Ai,Ar,As,Ap,Ay,Ab,Aj,Am,A9,Value.oneCell',Ah,Ba,Aw,A4,A1,Al,An,Ae,Ak,isZ,A6,A3,Ad,Aa,Ag,A0,Af,↓reduceIte,reduceSub,reduceEqDiff,reduceAdd,reduceMul,reduceLT,reduceLeDiff,reduceToNat,reduceLE,Int.reduceLT,reduceNeg,reduceCtorEq,gos,Int.reduceAdd,Int.reduceSub,Int.reduceMul,reduceEq,cj,g1,SK.len,hr',ql,List.length_map,Co,Cn])
        refine Cg (s:=(8,12)::base) (n:=j + 1) (z:=1) (cs:=(tbl (j + 1) F).map iu) 22 [.int .u64 0] [iu v] (by simp only [tys]) (by simp only [tys]) rfl (by decide) (by rw [List.length_map,tl,Nat.mul_one]) (by simp [Heap.put_at,Heap.none_at,Bh]) (by simp [Heap.put_at]; rfl) rfl (by simp only [tys]; omega) (by rw [B3]; omega) ?_
        repeat (first|refine Bg rfl ?_|refine Bb rfl ?_|refine ⟨(dxX (by kernel_rfl)),?_⟩|exact (dxX (by kernel_rfl))|simp -dsimp (maxSteps:=20000000) (disch:=omega) only [simx,zzC,zzB,tys,ite_self,A8,A2,Ax,Aq,Ao,At,Az,Ac,A5,PV.sk,Ai,Ar,As,Ap,Ay,Ab,Aj,Am,A9,Value.oneCell',Ah,Ba,Aw,A4,A1,Al,An,Ae,Ak,isZ,A6,A3,Ad,Aa,Ag,A0,Af,↓reduceIte,reduceSub,reduceEqDiff,reduceAdd,reduceMul,reduceLT,reduceLeDiff,reduceToNat,reduceLE,Int.reduceLT,reduceNeg,reduceCtorEq,gos,Int.reduceAdd,Int.reduceSub,Int.reduceMul,reduceEq,cj,Co,Cn,Bi])
        refine ⟨cj,(Bv (by simp only [Heap.none_at]) (by (simp -dsimp only [zzB,tys,ite_self,A8,A2,Ax,Aq,Ao,At,Az,Ac,A5,PV.sk,Ai,Ar,As,Ap,Ay,Ab,Aj,Am,A9,Value.oneCell',Ah,Ba,Aw,A4,A1,Al,An,Ae,Ak,isZ,A6,A3,Ad,Aa,Ag,A0,Af,↓reduceIte,reduceSub,reduceEqDiff,reduceAdd,reduceMul,reduceLT,reduceLeDiff,reduceToNat,reduceLE,Int.reduceLT,reduceNeg,reduceCtorEq,Bm,Bo]) <;> simp [Bs,Bn,Be]) (by repeat (first|exact Bx _|refine Bp ?_|refine B4 ?_|refine Bt ?_|refine Bu ?_ (by simp [Bs,Bn,Be]))) (Bl)),?_,?_⟩
        · rw [t1]; simp [Bi]
        · funext c
          simp (maxSteps:=20000000) only [Heap.drop_at,Bh,Heap.put_at,Heap.none_at,List.mem_cons,List.not_mem_nil,or_false]
          by_cases e0:c=(0,0)::base
          · subst e0; simp [t1]
          by_cases e1:c=(1,6)::base
          · subst e1; simp [t1]
          by_cases e2:c=(8,11)::base
          · subst e2; simp [t1]
          by_cases e3:c=(8,12)::base
          · subst e3; simp [t1]
          simp [e0,e1,e2,e3,t1]
    · obtain rfl:r=j:=by omega
      clear sub Fk qa
      rcases Nat.eq_zero_or_pos r with h0|h0
      · subst h0
        have q3':CallsP Try.prog 68 [u64 P,C3 ((0:Nat):Int) ((0:Nat):Int) tcore,.i (.l 0 [])] (.i (.l 0 (Z.map iu))):=q3'
        repeat (first|((first|refine Bd rfl (by simp only [tys]) ?_|refine Bc rfl (by simp only [tys]) ?_); apply Exists.intro; apply And.intro; (focus (simp -dsimp only [simx,zzC,zzB,tys,ite_self,A8,A2,Ax,Aq,Ao,At,Az,Ac,A5,PV.sk,Ai,Ar,As,Ap,Ay,Ab,Aj,Am,A9,Value.oneCell',Ah,Ba,Aw,A4,A1,Al,An,Ae,Ak,isZ,A6,A3,Ad,Aa,Ag,A0,Af,↓reduceIte,reduceSub,reduceEqDiff,reduceAdd,reduceMul,reduceLT,reduceLeDiff,reduceToNat,reduceLE,Int.reduceLT,reduceNeg,reduceCtorEq,zzL,if_true,if_false,SK.len] <;> rfl)); apply Exists.intro; apply And.intro; (focus (first|exact q2|exact qt|exact q3')))|refine Bg rfl ?_|refine Bb rfl ?_|refine ⟨(dxX (by kernel_rfl)),?_⟩|exact (dxX (by kernel_rfl))|simp -dsimp (maxSteps:=20000000) (disch:=omega) only [simx,zzC,zzB,tys,ite_self,A8,A2,Ax,Aq,Ao,At,Az,Ac,A5,PV.sk,Ai,Ar,As,Ap,Ay,Ab,Aj,Am,A9,Value.oneCell',Ah,Ba,Aw,A4,A1,Al,An,Ae,Ak,isZ,A6,A3,Ad,Aa,Ag,A0,Af,↓reduceIte,reduceSub,reduceEqDiff,reduceAdd,reduceMul,reduceLT,reduceLeDiff,reduceToNat,reduceLE,Int.reduceLT,reduceNeg,reduceCtorEq,gos,Int.reduceAdd,Int.reduceSub,Int.reduceMul,reduceEq,Bk,Ci,b1,b2,rl,px,hi,f1,SK.len,hr',ql,List.length_map])
        refine B5 [8,12,13,14] [(0,0)::base,(8,12)::base] (0) (0) (fun j_ => True) (fun j_ => [(14,i64 j_)]) (fun j_ => (Heap.none.put ((1,6)::base) (.var [li rws,li cls,llP cc,llP uu])).put ((10,2)::base) (.row false ((PJ j_).map iu))) ?_ ?_ ?_ ?_ ?_ (by decide) ?_
        · exact (Bv (by simp only [Heap.none_at]) (by (simp -dsimp only [zzB,tys,ite_self,A8,A2,Ax,Aq,Ao,At,Az,Ac,A5,PV.sk,Ai,Ar,As,Ap,Ay,Ab,Aj,Am,A9,Value.oneCell',Ah,Ba,Aw,A4,A1,Al,An,Ae,Ak,isZ,A6,A3,Ad,Aa,Ag,A0,Af,↓reduceIte,reduceSub,reduceEqDiff,reduceAdd,reduceMul,reduceLT,reduceLeDiff,reduceToNat,reduceLE,Int.reduceLT,reduceNeg,reduceCtorEq,Bm,Bo]) <;> simp [Bs,Bn,Be]) (by repeat (first|exact Bx _|refine Bp ?_|refine B4 ?_|refine Bt ?_|refine Bu ?_ (by simp [Bs,Bn,Be]))) (Bv (by simp only [Heap.none_at]) (by (simp -dsimp only [zzB,tys,ite_self,A8,A2,Ax,Aq,Ao,At,Az,Ac,A5,PV.sk,Ai,Ar,As,Ap,Ay,Ab,Aj,Am,A9,Value.oneCell',Ah,Ba,Aw,A4,A1,Al,An,Ae,Ak,isZ,A6,A3,Ad,Aa,Ag,A0,Af,↓reduceIte,reduceSub,reduceEqDiff,reduceAdd,reduceMul,reduceLT,reduceLeDiff,reduceToNat,reduceLE,Int.reduceLT,reduceNeg,reduceCtorEq,Bm,Bo]) <;> simp [Bs,Bn,Be]) (by repeat (first|exact Bx _|refine Bp ?_|refine B4 ?_|refine Bt ?_|refine Bu ?_ (by simp [Bs,Bn,Be]))) (Bl)))
        · ((simp -dsimp (disch:=omega) only [simx,zzB,tys,ite_self,A8,A2,Ax,Aq,Ao,At,Az,Ac,A5,PV.sk,Ai,Ar,As,Ap,Ay,Ab,Aj,Am,A9,Value.oneCell',Ah,Ba,Aw,A4,A1,Al,An,Ae,Ak,isZ,A6,A3,Ad,Aa,Ag,A0,Af,↓reduceIte,reduceSub,reduceEqDiff,reduceAdd,reduceMul,reduceLT,reduceLeDiff,reduceToNat,reduceLE,Int.reduceLT,reduceNeg,reduceCtorEq,gos,Int.reduceAdd,Int.reduceSub,Int.reduceMul,reduceEq]) <;> first|rfl|simp)
        · funext c
          simp (maxSteps:=20000000) only [Heap.drop_at,Bh,Heap.put_at,Heap.none_at,List.mem_cons,List.not_mem_nil,or_false]
          by_cases e0:c=(0,0)::base
          · subst e0; simp []
          by_cases e1:c=(1,6)::base
          · subst e1; simp []
          by_cases e2:c=(8,12)::base
          · subst e2; simp []
          by_cases e3:c=(10,2)::base
          · subst e3; simp []
          simp [e0,e1,e2,e3]
        · omega
        · trivial
        · intro k hk _
          by_cases ck:k < 0
          · omega
          · obtain rfl:0=k:=by omega
            rw [full]
            have nt:(X.map iu).take R=X.map iu:=List.take_of_length_le (by rw [List.length_map,xl]; exact Nat.le_refl _)
            repeat (first|refine Bg rfl ?_|refine Bb rfl ?_|refine ⟨(dxX (by kernel_rfl)),?_⟩|exact (dxX (by kernel_rfl))|simp -dsimp (maxSteps:=20000000) (disch:=omega) only [simx,zzC,zzB,tys,ite_self,A8,A2,Ax,Aq,Ao,At,Az,Ac,A5,PV.sk,Ai,Ar,As,Ap,Ay,Ab,Aj,Am,A9,Value.oneCell',Ah,Ba,Aw,A4,A1,Al,An,Ae,Ak,isZ,A6,A3,Ad,Aa,Ag,A0,Af,↓reduceIte,reduceSub,reduceEqDiff,reduceAdd,reduceMul,reduceLT,reduceLeDiff,reduceToNat,reduceLE,Int.reduceLT,reduceNeg,reduceCtorEq,zzR,gos,Int.reduceAdd,Int.reduceSub,Int.reduceMul,reduceEq,ql,hr',SK.len,List.length_map,xl,nt])
            rw [lu,xl]
      · have rp:=fun s z cs => Hb s z cs h0
        have rh:=fun h s cs => Ge h s cs h0
        have tl:=Ca r F
        have e2:((tbl r F).map iu).take r=(tbl r F).map iu:=List.take_of_length_le (by rw [List.length_map,tl]; exact Nat.le_refl _)
        repeat (first|((first|refine Bd rfl (by simp only [tys]) ?_|refine Bc rfl (by simp only [tys]) ?_); apply Exists.intro; apply And.intro; (focus (simp -dsimp only [simx,zzC,zzB,tys,ite_self,A8,A2,Ax,Aq,Ao,At,Az,Ac,A5,PV.sk,Ai,Ar,As,Ap,Ay,Ab,Aj,Am,A9,Value.oneCell',Ah,Ba,Aw,A4,A1,Al,An,Ae,Ak,isZ,A6,A3,Ad,Aa,Ag,A0,Af,↓reduceIte,reduceSub,reduceEqDiff,reduceAdd,reduceMul,reduceLT,reduceLeDiff,reduceToNat,reduceLE,Int.reduceLT,reduceNeg,reduceCtorEq,zzL,if_true,if_false,tl,e2,List.length_map,SK.len] <;> rfl)); apply Exists.intro; apply And.intro; (focus (first|exact q2|exact qt|exact q3')))|refine Bg rfl ?_|refine Bb rfl ?_|refine ⟨(dxX (by kernel_rfl)),?_⟩|exact (dxX (by kernel_rfl))|simp -dsimp (maxSteps:=20000000) (disch:=omega) only [simx,zzC,zzB,tys,ite_self,A8,A2,Ax,Aq,Ao,At,Az,Ac,A5,PV.sk,Ai,Ar,As,Ap,Ay,Ab,Aj,Am,A9,Value.oneCell',Ah,Ba,Aw,A4,A1,Al,An,Ae,Ak,isZ,A6,A3,Ad,Aa,Ag,A0,Af,↓reduceIte,reduceSub,reduceEqDiff,reduceAdd,reduceMul,reduceLT,reduceLeDiff,reduceToNat,reduceLE,Int.reduceLT,reduceNeg,reduceCtorEq,gos,Int.reduceAdd,Int.reduceSub,Int.reduceMul,reduceEq,rp,rh,tl,e2,b1,b2,rl,px,hi,f1,SK.len,hr',ql,List.length_map])
        refine B5 [8,12,13,14] [(0,0)::base,(8,12)::base] (0) (r) (fun j_ => True) (fun j_ => [(14,i64 j_)]) (fun j_ => (Heap.none.put ((1,6)::base) (.var [li rws,li cls,llP cc,llP uu])).put ((10,2)::base) (.row false ((PJ j_).map iu))) ?_ ?_ ?_ ?_ ?_ (by decide) ?_
        · exact (Bv (by simp only [Heap.none_at]) (by (simp -dsimp only [zzB,tys,ite_self,A8,A2,Ax,Aq,Ao,At,Az,Ac,A5,PV.sk,Ai,Ar,As,Ap,Ay,Ab,Aj,Am,A9,Value.oneCell',Ah,Ba,Aw,A4,A1,Al,An,Ae,Ak,isZ,A6,A3,Ad,Aa,Ag,A0,Af,↓reduceIte,reduceSub,reduceEqDiff,reduceAdd,reduceMul,reduceLT,reduceLeDiff,reduceToNat,reduceLE,Int.reduceLT,reduceNeg,reduceCtorEq,Bm,Bo]) <;> simp [Bs,Bn,Be]) (by repeat (first|exact Bx _|refine Bp ?_|refine B4 ?_|refine Bt ?_|refine Bu ?_ (by simp [Bs,Bn,Be]))) (Bv (by simp only [Heap.none_at]) (by (simp -dsimp only [zzB,tys,ite_self,A8,A2,Ax,Aq,Ao,At,Az,Ac,A5,PV.sk,Ai,Ar,As,Ap,Ay,Ab,Aj,Am,A9,Value.oneCell',Ah,Ba,Aw,A4,A1,Al,An,Ae,Ak,isZ,A6,A3,Ad,Aa,Ag,A0,Af,↓reduceIte,reduceSub,reduceEqDiff,reduceAdd,reduceMul,reduceLT,reduceLeDiff,reduceToNat,reduceLE,Int.reduceLT,reduceNeg,reduceCtorEq,Bm,Bo]) <;> simp [Bs,Bn,Be]) (by repeat (first|exact Bx _|refine Bp ?_|refine B4 ?_|refine Bt ?_|refine Bu ?_ (by simp [Bs,Bn,Be]))) (Bl)))
        · ((simp -dsimp (disch:=omega) only [simx,zzB,tys,ite_self,A8,A2,Ax,Aq,Ao,At,Az,Ac,A5,PV.sk,Ai,Ar,As,Ap,Ay,Ab,Aj,Am,A9,Value.oneCell',Ah,Ba,Aw,A4,A1,Al,An,Ae,Ak,isZ,A6,A3,Ad,Aa,Ag,A0,Af,↓reduceIte,reduceSub,reduceEqDiff,reduceAdd,reduceMul,reduceLT,reduceLeDiff,reduceToNat,reduceLE,Int.reduceLT,reduceNeg,reduceCtorEq,gos,Int.reduceAdd,Int.reduceSub,Int.reduceMul,reduceEq]) <;> first|rfl|simp)
        · funext c
          simp (maxSteps:=20000000) only [Heap.drop_at,Bh,Heap.put_at,Heap.none_at,List.mem_cons,List.not_mem_nil,or_false]
          by_cases e0:c=(0,0)::base
          · subst e0; simp []
          by_cases e1:c=(1,6)::base
          · subst e1; simp []
          by_cases e2:c=(8,12)::base
          · subst e2; simp []
          by_cases e3:c=(10,2)::base
          · subst e3; simp []
          simp [e0,e1,e2,e3]
        · omega
        · trivial
        · intro k hk _
          by_cases ck:k < r
          · have g1:=(ra k ck).1
            have g2:=zg k ck
            have i1:=(ra k ck).2
            have px:=pn k ck
            have l1:=pl k
            have i2:S k + 1 ≤ R:=i1
            clear pn zg full ra
            generalize X.getD (S k) 0=v at g2 px
            generalize hY:PJ (k + 1)=Y at px
            generalize PJ k=W at px l1 ⊢
            generalize S k=q at g1 i1 i2 px
            repeat (first|refine Bg rfl ?_|refine Bb rfl ?_|refine ⟨(dxX (by kernel_rfl)),?_⟩|exact (dxX (by kernel_rfl))|simp -dsimp (maxSteps:=20000000) (disch:=omega) only [simx,zzC,zzB,tys,ite_self,A8,A2,Ax,Aq,Ao,At,Az,Ac,A5,PV.sk,Ai,Ar,As,Ap,Ay,Ab,Aj,Am,A9,Value.oneCell',Ah,Ba,Aw,A4,A1,Al,An,Ae,Ak,isZ,A6,A3,Ad,Aa,Ag,A0,Af,↓reduceIte,reduceSub,reduceEqDiff,reduceAdd,reduceMul,reduceLT,reduceLeDiff,reduceToNat,reduceLE,Int.reduceLT,reduceNeg,reduceCtorEq,gos,Int.reduceAdd,Int.reduceSub,Int.reduceMul,reduceEq,ck,g1,g2,i1,i2,px,l1,zl,ql,hr',SK.len,List.length_map])
            refine ⟨ck,(Bv (by simp only [Heap.none_at]) (by (simp -dsimp only [zzB,tys,ite_self,A8,A2,Ax,Aq,Ao,At,Az,Ac,A5,PV.sk,Ai,Ar,As,Ap,Ay,Ab,Aj,Am,A9,Value.oneCell',Ah,Ba,Aw,A4,A1,Al,An,Ae,Ak,isZ,A6,A3,Ad,Aa,Ag,A0,Af,↓reduceIte,reduceSub,reduceEqDiff,reduceAdd,reduceMul,reduceLT,reduceLeDiff,reduceToNat,reduceLE,Int.reduceLT,reduceNeg,reduceCtorEq,Bm,Bo]) <;> simp [Bs,Bn,Be]) (by repeat (first|exact Bx _|refine Bp ?_|refine B4 ?_|refine Bt ?_|refine Bu ?_ (by simp [Bs,Bn,Be]))) (Bv (by simp only [Heap.none_at]) (by (simp -dsimp only [zzB,tys,ite_self,A8,A2,Ax,Aq,Ao,At,Az,Ac,A5,PV.sk,Ai,Ar,As,Ap,Ay,Ab,Aj,Am,A9,Value.oneCell',Ah,Ba,Aw,A4,A1,Al,An,Ae,Ak,isZ,A6,A3,Ad,Aa,Ag,A0,Af,↓reduceIte,reduceSub,reduceEqDiff,reduceAdd,reduceMul,reduceLT,reduceLeDiff,reduceToNat,reduceLE,Int.reduceLT,reduceNeg,reduceCtorEq,Bm,Bo]) <;> simp [Bs,Bn,Be]) (by repeat (first|exact Bx _|refine Bp ?_|refine B4 ?_|refine Bt ?_|refine Bu ?_ (by simp [Bs,Bn,Be]))) (Bl))),rfl,?_⟩
            rw [hY]
            funext c
            simp (maxSteps:=20000000) only [Heap.drop_at,Bh,Heap.put_at,Heap.none_at,List.mem_cons,List.not_mem_nil,or_false]
            by_cases e0:c=(0,0)::base
            · subst e0; simp []
            by_cases e1:c=(1,6)::base
            · subst e1; simp []
            by_cases e2:c=(8,12)::base
            · subst e2; simp []
            by_cases e3:c=(10,2)::base
            · subst e3; simp []
            simp [e0,e1,e2,e3]
          · obtain rfl:r=k:=by omega
            rw [full]
            have nt:(X.map iu).take R=X.map iu:=List.take_of_length_le (by rw [List.length_map,xl]; exact Nat.le_refl _)
            repeat (first|refine Bg rfl ?_|refine Bb rfl ?_|refine ⟨(dxX (by kernel_rfl)),?_⟩|exact (dxX (by kernel_rfl))|simp -dsimp (maxSteps:=20000000) (disch:=omega) only [simx,zzC,zzB,tys,ite_self,A8,A2,Ax,Aq,Ao,At,Az,Ac,A5,PV.sk,Ai,Ar,As,Ap,Ay,Ab,Aj,Am,A9,Value.oneCell',Ah,Ba,Aw,A4,A1,Al,An,Ae,Ak,isZ,A6,A3,Ad,Aa,Ag,A0,Af,↓reduceIte,reduceSub,reduceEqDiff,reduceAdd,reduceMul,reduceLT,reduceLeDiff,reduceToNat,reduceLE,Int.reduceLT,reduceNeg,reduceCtorEq,zzR,gos,Int.reduceAdd,Int.reduceSub,Int.reduceMul,reduceEq,ql,hr',SK.len,List.length_map,xl,nt])
            rw [lu,xl]
set_option maxHeartbeats 8000000 in
theorem Uz {P R C:Nat} {l:List Int} (hP:Prm P) (M:Mt P R C l) (hin:∀ a ∈ l,In P a) :
    CallsP Try.prog 26 [u64 P,C3 R C l] (.tup [lu (Kc P R (Bf P C R l) (fun _ => true)).1,i64 (Kc P R (Bf P C R l) (fun _ => true)).2]):=by
  have q1:=fun i (hi:i < R) => J1 hP M hin hi
  unfold Kc
  clear hP hin
  generalize Dc P R (Bf P C R l)=Y at *
  generalize (Bf P C R l).1=rws at *
  refine Bj (n:=25) (m:=2) (rs:=[.tmp 4,.tmp 5]) Try.func26 rfl rfl rfl rfl (by decide) fun base => ?_
  repeat (first|refine Bg rfl ?_|refine Bb rfl ?_|refine ⟨(dxX (by kernel_rfl)),?_⟩|exact (dxX (by kernel_rfl))|simp -dsimp (maxSteps:=20000000) (disch:=omega) only [simx,zzC,zzB,tys,ite_self,A8,A2,Ax,Aq,Ao,At,Az,Ac,A5,PV.sk,Ai,Ar,As,Ap,Ay,Ab,Aj,Am,A9,Value.oneCell',Ah,Ba,Aw,A4,A1,Al,An,Ae,Ak,isZ,A6,A3,Ad,Aa,Ag,A0,Af,↓reduceIte,reduceSub,reduceEqDiff,reduceAdd,reduceMul,reduceLT,reduceLeDiff,reduceToNat,reduceLE,Int.reduceLT,reduceNeg,reduceCtorEq,gos,Int.reduceAdd,Int.reduceSub,Int.reduceMul,reduceEq])
  refine B5 [0,3,6] [] (0) (R) (fun j => ∀ i:Nat,i < j → (i:Int) ∈ rws) (fun j => [(6,i64 j)]) (fun j => Heap.none.put ((0,0)::base) (.var [i64 R,i64 C,lu l])) ?_ ?_ ?_ ?_ ?_ (by decide) ?_
  · exact (Bl)
  · ((simp -dsimp (disch:=omega) only [simx,zzB,tys,ite_self,A8,A2,Ax,Aq,Ao,At,Az,Ac,A5,PV.sk,Ai,Ar,As,Ap,Ay,Ab,Aj,Am,A9,Value.oneCell',Ah,Ba,Aw,A4,A1,Al,An,Ae,Ak,isZ,A6,A3,Ad,Aa,Ag,A0,Af,↓reduceIte,reduceSub,reduceEqDiff,reduceAdd,reduceMul,reduceLT,reduceLeDiff,reduceToNat,reduceLE,Int.reduceLT,reduceNeg,reduceCtorEq,gos,Int.reduceAdd,Int.reduceSub,Int.reduceMul,reduceEq]) <;> first|rfl|simp)
  · exact drop_nil _
  · omega
  · intro i hi; omega
  · intro j hj all
    have r2:=M.r2
    by_cases cj:j < R
    · have q:=q1 j cj
      by_cases h:(j:Int) ∈ rws
      · rw [if_pos h] at q
        repeat (first|((first|refine Bd rfl (by simp only [tys]) ?_|refine Bc rfl (by simp only [tys]) ?_); apply Exists.intro; apply And.intro; (focus (simp -dsimp only [simx,zzC,zzB,tys,ite_self,A8,A2,Ax,Aq,Ao,At,Az,Ac,A5,PV.sk,Ai,Ar,As,Ap,Ay,Ab,Aj,Am,A9,Value.oneCell',Ah,Ba,Aw,A4,A1,Al,An,Ae,Ak,isZ,A6,A3,Ad,Aa,Ag,A0,Af,↓reduceIte,reduceSub,reduceEqDiff,reduceAdd,reduceMul,reduceLT,reduceLeDiff,reduceToNat,reduceLE,Int.reduceLT,reduceNeg,reduceCtorEq,zzL,if_true,if_false] <;> rfl)); apply Exists.intro; apply And.intro; (focus (first|exact q)))|refine Bg rfl ?_|refine Bb rfl ?_|refine ⟨(dxX (by kernel_rfl)),?_⟩|exact (dxX (by kernel_rfl))|simp -dsimp (maxSteps:=20000000) (disch:=omega) only [simx,zzC,zzB,tys,ite_self,A8,A2,Ax,Aq,Ao,At,Az,Ac,A5,PV.sk,Ai,Ar,As,Ap,Ay,Ab,Aj,Am,A9,Value.oneCell',Ah,Ba,Aw,A4,A1,Al,An,Ae,Ak,isZ,A6,A3,Ad,Aa,Ag,A0,Af,↓reduceIte,reduceSub,reduceEqDiff,reduceAdd,reduceMul,reduceLT,reduceLeDiff,reduceToNat,reduceLE,Int.reduceLT,reduceNeg,reduceCtorEq,gos,Int.reduceAdd,Int.reduceSub,Int.reduceMul,reduceEq,cj])
        refine ⟨cj,(Bl),?_,rfl,drop_nil _⟩
        intro i hi
        by_cases e:i=j
        · rw [e]; exact h
        · exact all i (by omega)
      · rw [if_neg h] at q
        rw [G0 cj (fun i hi => by rw [decide_eq_true (all i hi)]; rfl) (by rw [decide_eq_false h]; rfl)]
        repeat (first|((first|refine Bd rfl (by simp only [tys]) ?_|refine Bc rfl (by simp only [tys]) ?_); apply Exists.intro; apply And.intro; (focus (simp -dsimp only [simx,zzC,zzB,tys,ite_self,A8,A2,Ax,Aq,Ao,At,Az,Ac,A5,PV.sk,Ai,Ar,As,Ap,Ay,Ab,Aj,Am,A9,Value.oneCell',Ah,Ba,Aw,A4,A1,Al,An,Ae,Ak,isZ,A6,A3,Ad,Aa,Ag,A0,Af,↓reduceIte,reduceSub,reduceEqDiff,reduceAdd,reduceMul,reduceLT,reduceLeDiff,reduceToNat,reduceLE,Int.reduceLT,reduceNeg,reduceCtorEq,zzL,if_true,if_false] <;> rfl)); apply Exists.intro; apply And.intro; (focus (first|exact q)))|refine Bg rfl ?_|refine Bb rfl ?_|refine ⟨(dxX (by kernel_rfl)),?_⟩|exact (dxX (by kernel_rfl))|simp -dsimp (maxSteps:=20000000) (disch:=omega) only [simx,zzC,zzB,tys,ite_self,A8,A2,Ax,Aq,Ao,At,Az,Ac,A5,PV.sk,Ai,Ar,As,Ap,Ay,Ab,Aj,Am,A9,Value.oneCell',Ah,Ba,Aw,A4,A1,Al,An,Ae,Ak,isZ,A6,A3,Ad,Aa,Ag,A0,Af,↓reduceIte,reduceSub,reduceEqDiff,reduceAdd,reduceMul,reduceLT,reduceLeDiff,reduceToNat,reduceLE,Int.reduceLT,reduceNeg,reduceCtorEq,zzR,gos,Int.reduceAdd,Int.reduceSub,Int.reduceMul,reduceEq,cj])
    · obtain rfl:R=j:=by omega
      rw [G1 fun i hi => by rw [decide_eq_true (all i hi)]; rfl]
      repeat (first|refine Bg rfl ?_|refine Bb rfl ?_|refine ⟨(dxX (by kernel_rfl)),?_⟩|exact (dxX (by kernel_rfl))|simp -dsimp (maxSteps:=20000000) (disch:=omega) only [simx,zzC,zzB,tys,ite_self,A8,A2,Ax,Aq,Ao,At,Az,Ac,A5,PV.sk,Ai,Ar,As,Ap,Ay,Ab,Aj,Am,A9,Value.oneCell',Ah,Ba,Aw,A4,A1,Al,An,Ae,Ak,isZ,A6,A3,Ad,Aa,Ag,A0,Af,↓reduceIte,reduceSub,reduceEqDiff,reduceAdd,reduceMul,reduceLT,reduceLeDiff,reduceToNat,reduceLE,Int.reduceLT,reduceNeg,reduceCtorEq,zzR,gos,Int.reduceAdd,Int.reduceSub,Int.reduceMul,reduceEq])
      try rfl
set_option maxHeartbeats 8000000 in
theorem Qq {P R C:Nat} {l b:List Int} (hP:Prm P) (M:Mt P R C l) (hin:∀ a ∈ l,In P a) (hb:∀ a ∈ b,In P a) (hbl:b.length=R) :
    CallsP Try.prog 23 [u64 P,C3 R C l,lu b] (.tup [lu (Kc P R (Bf P C R l) (fun y => Gh P y b)).1,i64 (Kc P R (Bf P C R l) (fun y => Gh P y b)).2]):=by
  have r2:=M.r2
  have q1:=fun i (hi:i < R) => J1 hP M hin hi
  have q2:=fun i (hi:i < R) (hn:(i:Int) ∉ (Bf P C R l).1) => Ae3 M.hp (Ha hP M hin hi hn).inn hb (by rw [(Ha hP M hin hi hn).len,hbl]) (by rw [(Ha hP M hin hi hn).len,B3]; omega)
  unfold Kc
  clear hP hin
  generalize Dc P R (Bf P C R l)=Y at *
  generalize (Bf P C R l).1=rws at *
  refine Bj (n:=34) (m:=3) (rs:=[.tmp 6,.tmp 7]) Try.func23 rfl rfl rfl rfl (by decide) fun base => ?_
  repeat (first|refine Bg rfl ?_|refine Bb rfl ?_|refine ⟨(dxX (by kernel_rfl)),?_⟩|exact (dxX (by kernel_rfl))|simp -dsimp (maxSteps:=20000000) (disch:=omega) only [simx,zzC,zzB,tys,ite_self,A8,A2,Ax,Aq,Ao,At,Az,Ac,A5,PV.sk,Ai,Ar,As,Ap,Ay,Ab,Aj,Am,A9,Value.oneCell',Ah,Ba,Aw,A4,A1,Al,An,Ae,Ak,isZ,A6,A3,Ad,Aa,Ag,A0,Af,↓reduceIte,reduceSub,reduceEqDiff,reduceAdd,reduceMul,reduceLT,reduceLeDiff,reduceToNat,reduceLE,Int.reduceLT,reduceNeg,reduceCtorEq,gos,Int.reduceAdd,Int.reduceSub,Int.reduceMul,reduceEq])
  refine B5 [0,2,4,8] [] (0) (R) (fun j => ∀ i:Nat,i < j → (!decide ((i:Int) ∈ rws) && Gh P (Y i) b)=false) (fun j => [(8,i64 j)]) (fun j => Heap.none.put ((0,0)::base) (.var [i64 R,i64 C,lu l])) ?_ ?_ ?_ ?_ ?_ (by decide) ?_
  · exact (Bl)
  · ((simp -dsimp (disch:=omega) only [simx,zzB,tys,ite_self,A8,A2,Ax,Aq,Ao,At,Az,Ac,A5,PV.sk,Ai,Ar,As,Ap,Ay,Ab,Aj,Am,A9,Value.oneCell',Ah,Ba,Aw,A4,A1,Al,An,Ae,Ak,isZ,A6,A3,Ad,Aa,Ag,A0,Af,↓reduceIte,reduceSub,reduceEqDiff,reduceAdd,reduceMul,reduceLT,reduceLeDiff,reduceToNat,reduceLE,Int.reduceLT,reduceNeg,reduceCtorEq,gos,Int.reduceAdd,Int.reduceSub,Int.reduceMul,reduceEq]) <;> first|rfl|simp)
  · exact drop_nil _
  · omega
  · intro i hi; omega
  · intro j hj all
    by_cases cj:j < R
    · have q:=q1 j cj
      by_cases h:(j:Int) ∈ rws
      · rw [if_pos h] at q
        repeat (first|((first|refine Bd rfl (by simp only [tys]) ?_|refine Bc rfl (by simp only [tys]) ?_); apply Exists.intro; apply And.intro; (focus (simp -dsimp only [simx,zzC,zzB,tys,ite_self,A8,A2,Ax,Aq,Ao,At,Az,Ac,A5,PV.sk,Ai,Ar,As,Ap,Ay,Ab,Aj,Am,A9,Value.oneCell',Ah,Ba,Aw,A4,A1,Al,An,Ae,Ak,isZ,A6,A3,Ad,Aa,Ag,A0,Af,↓reduceIte,reduceSub,reduceEqDiff,reduceAdd,reduceMul,reduceLT,reduceLeDiff,reduceToNat,reduceLE,Int.reduceLT,reduceNeg,reduceCtorEq,zzL,if_true,if_false] <;> rfl)); apply Exists.intro; apply And.intro; (focus (first|exact q)))|refine Bg rfl ?_|refine Bb rfl ?_|refine ⟨(dxX (by kernel_rfl)),?_⟩|exact (dxX (by kernel_rfl))|simp -dsimp (maxSteps:=20000000) (disch:=omega) only [simx,zzC,zzB,tys,ite_self,A8,A2,Ax,Aq,Ao,At,Az,Ac,A5,PV.sk,Ai,Ar,As,Ap,Ay,Ab,Aj,Am,A9,Value.oneCell',Ah,Ba,Aw,A4,A1,Al,An,Ae,Ak,isZ,A6,A3,Ad,Aa,Ag,A0,Af,↓reduceIte,reduceSub,reduceEqDiff,reduceAdd,reduceMul,reduceLT,reduceLeDiff,reduceToNat,reduceLE,Int.reduceLT,reduceNeg,reduceCtorEq,gos,Int.reduceAdd,Int.reduceSub,Int.reduceMul,reduceEq,cj])
        refine ⟨cj,(Bl),?_,rfl,drop_nil _⟩
        intro i hi
        by_cases e:i=j
        · rw [e,decide_eq_true h]; rfl
        · exact all i (by omega)
      · rw [if_neg h] at q
        have d:=q2 j cj h
        by_cases hd:D5 (Y j) b % (P:Int)=0
        · have nz:Gh P (Y j) b=false:=by unfold Gh; rw [hd]; rfl
          rw [hd] at d
          clear q1 q2
          generalize hYj:Y j=y at q d
          repeat (first|((first|refine Bd rfl (by simp only [tys]) ?_|refine Bc rfl (by simp only [tys]) ?_); apply Exists.intro; apply And.intro; (focus (simp -dsimp only [simx,zzC,zzB,tys,ite_self,A8,A2,Ax,Aq,Ao,At,Az,Ac,A5,PV.sk,Ai,Ar,As,Ap,Ay,Ab,Aj,Am,A9,Value.oneCell',Ah,Ba,Aw,A4,A1,Al,An,Ae,Ak,isZ,A6,A3,Ad,Aa,Ag,A0,Af,↓reduceIte,reduceSub,reduceEqDiff,reduceAdd,reduceMul,reduceLT,reduceLeDiff,reduceToNat,reduceLE,Int.reduceLT,reduceNeg,reduceCtorEq,zzL,if_true,if_false] <;> rfl)); apply Exists.intro; apply And.intro; (focus (first|exact q|exact d)))|refine Bg rfl ?_|refine Bb rfl ?_|refine ⟨(dxX (by kernel_rfl)),?_⟩|exact (dxX (by kernel_rfl))|simp -dsimp (maxSteps:=20000000) (disch:=omega) only [simx,zzC,zzB,tys,ite_self,A8,A2,Ax,Aq,Ao,At,Az,Ac,A5,PV.sk,Ai,Ar,As,Ap,Ay,Ab,Aj,Am,A9,Value.oneCell',Ah,Ba,Aw,A4,A1,Al,An,Ae,Ak,isZ,A6,A3,Ad,Aa,Ag,A0,Af,↓reduceIte,reduceSub,reduceEqDiff,reduceAdd,reduceMul,reduceLT,reduceLeDiff,reduceToNat,reduceLE,Int.reduceLT,reduceNeg,reduceCtorEq,gos,Int.reduceAdd,Int.reduceSub,Int.reduceMul,reduceEq,cj])
          refine ⟨cj,(Bl),?_,rfl,drop_nil _⟩
          intro i hi
          by_cases e:i=j
          · rw [e,nz,Bool.and_false]
          · exact all i (by omega)
        · have nz:Gh P (Y j) b=true:=decide_eq_true hd
          rw [G0 cj all (by rw [decide_eq_false h,nz]; rfl)]
          clear q1 q2 all
          simp only
          generalize D5 (Y j) b % (P:Int)=x at d hd
          generalize Y j=y at q d ⊢
          repeat (first|((first|refine Bd rfl (by simp only [tys]) ?_|refine Bc rfl (by simp only [tys]) ?_); apply Exists.intro; apply And.intro; (focus (simp -dsimp only [simx,zzC,zzB,tys,ite_self,A8,A2,Ax,Aq,Ao,At,Az,Ac,A5,PV.sk,Ai,Ar,As,Ap,Ay,Ab,Aj,Am,A9,Value.oneCell',Ah,Ba,Aw,A4,A1,Al,An,Ae,Ak,isZ,A6,A3,Ad,Aa,Ag,A0,Af,↓reduceIte,reduceSub,reduceEqDiff,reduceAdd,reduceMul,reduceLT,reduceLeDiff,reduceToNat,reduceLE,Int.reduceLT,reduceNeg,reduceCtorEq,zzL,if_true,if_false] <;> rfl)); apply Exists.intro; apply And.intro; (focus (first|exact q|exact d)))|refine Bg rfl ?_|refine Bb rfl ?_|refine ⟨(dxX (by kernel_rfl)),?_⟩|exact (dxX (by kernel_rfl))|simp -dsimp (maxSteps:=20000000) (disch:=omega) only [simx,zzC,zzB,tys,ite_self,A8,A2,Ax,Aq,Ao,At,Az,Ac,A5,PV.sk,Ai,Ar,As,Ap,Ay,Ab,Aj,Am,A9,Value.oneCell',Ah,Ba,Aw,A4,A1,Al,An,Ae,Ak,isZ,A6,A3,Ad,Aa,Ag,A0,Af,↓reduceIte,reduceSub,reduceEqDiff,reduceAdd,reduceMul,reduceLT,reduceLeDiff,reduceToNat,reduceLE,Int.reduceLT,reduceNeg,reduceCtorEq,zzR,gos,Int.reduceAdd,Int.reduceSub,Int.reduceMul,reduceEq,cj,hd])
    · obtain rfl:R=j:=by omega
      rw [G1 all]
      repeat (first|refine Bg rfl ?_|refine Bb rfl ?_|refine ⟨(dxX (by kernel_rfl)),?_⟩|exact (dxX (by kernel_rfl))|simp -dsimp (maxSteps:=20000000) (disch:=omega) only [simx,zzC,zzB,tys,ite_self,A8,A2,Ax,Aq,Ao,At,Az,Ac,A5,PV.sk,Ai,Ar,As,Ap,Ay,Ab,Aj,Am,A9,Value.oneCell',Ah,Ba,Aw,A4,A1,Al,An,Ae,Ak,isZ,A6,A3,Ad,Aa,Ag,A0,Af,↓reduceIte,reduceSub,reduceEqDiff,reduceAdd,reduceMul,reduceLT,reduceLeDiff,reduceToNat,reduceLE,Int.reduceLT,reduceNeg,reduceCtorEq,zzR,gos,Int.reduceAdd,Int.reduceSub,Int.reduceMul,reduceEq])
      try rfl
end Go.Proofs.Ythnfphgjfpcpbaa.TM
namespace Go.Proofs.Ythnfphgjfpcpbaa.TM
open Go Go.RowKit
attribute [local irreducible] K W Dg Effs Xg Xo Xr Xdg Xdo Xdr Xif CallsP CallR
theorem P0 {P R C:Nat} {l:List Int} (hP:Prm P) (M:Mt P R C l) (hin:∀ a ∈ l,In P a) (S:List Int → Bool):(Kc P R (Bf P C R l) S).1.length ≤ maxLen:=by
  have r2:=M.r2
  rw [B3]
  unfold Kc
  rcases P1 (rws:=(Bf P C R l).1) (S:=fun i => S (Dc P R (Bf P C R l) i)) (R:=R) with ⟨e,_⟩|⟨i,e,hi,hn,_⟩
  · rw [e]; simp
  · rw [e]
    have:=(Ha hP M hin hi hn).len
    simp only
    omega
theorem W8 {P R C:Nat} {l b:List Int} (hP:Prm P) (M:Mt P R C l) (hin:∀ a ∈ l,In P a) (hb:b.length ≤ maxLen) (wb:W64s b):∃ (x1 x2:List Int) (e1 e2:Int),x1.length ≤ maxLen ∧ x2.length ≤ maxLen ∧ CallsP Try.prog 15 [u64 P,C3 R C l,lu b] (.tup [lu x1,i64 e1]) ∧ CallsP Try.prog 16 [u64 P,C3 R C l,lu b] (.tup [lu x2,i64 e2]) ∧
    (((Fe P b && decide ((b.length:Int)=R))=false ∧ x1=[] ∧ x2=[] ∧ e1=1 ∧ e2=1) ∨
      (Fe P b=true ∧ (b.length:Int)=R ∧ CallsP Try.prog 22 [u64 P,C3 R C l,lu b] (.tup [lu x1,i64 e1]) ∧ CallsP Try.prog 23 [u64 P,C3 R C l,lu b] (.tup [lu x2,i64 e2]))):=by
  cases h:(Fe P b && decide ((b.length:Int)=R)) with
  | false =>
    obtain ⟨q1,q2⟩:=Ab9 (c:=C) (l:=l) hb h
    exact ⟨[],[],1,1,Nat.zero_le _,Nat.zero_le _,q1,q2,.inl ⟨rfl,rfl,rfl,rfl,rfl⟩⟩
  | true =>
    simp only [Bool.and_eq_true,decide_eq_true_eq] at h
    obtain ⟨h1,h2⟩:=h
    have bin:∀ a ∈ b,In P a:=fun a ha => Pz ((Ei _ _).1 h1).1 wb ha
    have q1:=Rl hP M hin bin (by omega)
    have q2:=Mn hP M hin bin (by omega)
    have q3:=Uw hP M hin bin (by omega)
    have q4:=Qq hP M hin bin (by omega)
    have xl:=Ig P C (Bf P C R l) b
    by_cases e:Ea P R C l (En P C (Bf P C R l) b)=b
    · rw [if_pos e] at q1 q3
      exact ⟨_,_,_,_,by have:=M.c2; rw [xl,B3]; omega,P0 hP M hin _,q1,q2,.inr ⟨h1,h2,q3,q4⟩⟩
    · rw [if_neg e] at q1 q3
      exact ⟨_,_,_,_,Nat.zero_le _,P0 hP M hin _,q1,q2,.inr ⟨h1,h2,q3,q4⟩⟩
theorem Ad6 {P R C:Nat} {l:List Int} (hP:Prm P) (M:Mt P R C l) (hin:∀ a ∈ l,In P a) (i:Int):∃ (x:List Int) (e:Int),x.length ≤ maxLen ∧ CallsP Try.prog 19 [u64 P,C3 R C l,i64 i] (.tup [lu x,i64 e]) ∧
    ((i < 0 ∧ x=[] ∧ e=1) ∨ (¬ i < 0 ∧ (R:Int) ≤ i ∧ x=[] ∧ e=1) ∨ (¬ i < 0 ∧ ¬ (R:Int) ≤ i ∧ CallsP Try.prog 27 [u64 P,C3 R C l,i64 i] (.tup [lu x,i64 e]))):=by
  have q:=Rt hP M hin i
  have r2:=M.r2
  by_cases h1:i < 0
  · rw [if_pos (.inl h1)] at q
    exact ⟨_,_,Nat.zero_le _,q,.inl ⟨h1,rfl,rfl⟩⟩
  by_cases h2:(R:Int) ≤ i
  · rw [if_pos (.inr h2)] at q
    exact ⟨_,_,Nat.zero_le _,q,.inr (.inl ⟨h1,h2,rfl,rfl⟩)⟩
  rw [if_neg (by omega)] at q
  obtain ⟨n,rfl⟩:∃ n:Nat,i=n:=⟨i.toNat,by omega⟩
  have hi:n < R:=by omega
  have q2:=J1 hP M hin hi
  rw [Int.toNat_natCast] at q
  by_cases h3:(n:Int) ∈ (Bf P C R l).1
  · rw [if_pos h3] at q q2
    exact ⟨_,_,Nat.zero_le _,q,.inr (.inr ⟨h1,h2,q2⟩)⟩
  · rw [if_neg h3] at q q2
    have:=(Ha hP M hin hi h3).len
    exact ⟨_,_,by rw [this,B3]; omega,q,.inr (.inr ⟨h1,h2,q2⟩)⟩
set_option maxHeartbeats 16000000 in
theorem solveRight_true (a0:Int) (a1:Int × Int × List Int) (a2:List Int) (a3:Int) (w0:(Lit.int .u64 a0).wf=true) (w1:((Lit.int .i64 a1.1).wf=true ∧ (Lit.int .i64 a1.2.1).wf=true ∧ (a1.2.2.length ≤ maxLen ∧ ∀ e23_ ∈ a1.2.2,(Lit.int .u64 e23_).wf=true))) (w2:(a2.length ≤ maxLen ∧ ∀ e23_ ∈ a2,(Lit.int .u64 e23_).wf=true)) (w3:(Lit.int .i64 a3).wf=true) :
    CallsP Try.prog 3 [.i (IV.v (.int .u64 a0)),.agg [.i (IV.v (.int .i64 a1.1)),.i (IV.v (.int .i64 a1.2.1)),.i (IV.l a1.2.2.length (a1.2.2.map fun y => IV.v (.int .u64 y)))],.i (IV.l a2.length (a2.map fun y => IV.v (.int .u64 y))),.i (IV.v (.int .i64 a3))] (bl true):=by
  obtain ⟨r,c,l⟩:=a1
  obtain ⟨v1,v2,v3,v4⟩:=w1
  obtain ⟨u3,u4⟩:=w2
  simp only at v1 v2 v3 v4 ⊢
  have wp:=Am3 w0
  obtain ⟨P,rfl⟩:∃ P:Nat,a0=P:=⟨a0.toNat,by have:=wp.1; omega⟩
  have wl:=Zi v4
  have wb:=Zi u4
  have d0:=Tz
  obtain ⟨pb,d1,hpr⟩:=Vb P (by have:=wp.2; omega)
  have d2:=S8 P r c l v3
  have d3:=Rw P a2 u3
  change CallsP Try.prog 3 [u64 P,C3 r c l,lu a2,i64 a3] (bl true)
  by_cases c0:(25:Int) < l.length
  · refine Bj (n:=248) (m:=4) (rs:=[.tmp 8]) Try.func3 rfl rfl rfl rfl (by decide) fun base => ?_
    repeat (first|((first|refine Bd rfl (by simp only [tys]) ?_|refine Bc rfl (by simp only [tys]) ?_); apply Exists.intro; apply And.intro; (focus (simp -dsimp only [simx,zzC,zzB,tys,ite_self,A8,A2,Ax,Aq,Ao,At,Az,Ac,A5,PV.sk,Ai,Ar,As,Ap,Ay,Ab,Aj,Am,A9,Value.oneCell',Ah,Ba,Aw,A4,A1,Al,An,Ae,Ak,isZ,A6,A3,Ad,Aa,Ag,A0,Af,↓reduceIte,reduceSub,reduceEqDiff,reduceAdd,reduceMul,reduceLT,reduceLeDiff,reduceToNat,reduceLE,Int.reduceLT,reduceNeg,reduceCtorEq,zzL,if_true,if_false] <;> rfl)); apply Exists.intro; apply And.intro; (focus (first|exact d0)))|refine Bg rfl ?_|refine Bb rfl ?_|refine ⟨(dxX (by kernel_rfl)),?_⟩|exact (dxX (by kernel_rfl))|simp -dsimp (maxSteps:=20000000) (disch:=omega) only [simx,zzC,zzB,tys,ite_self,A8,A2,Ax,Aq,Ao,At,Az,Ac,A5,PV.sk,Ai,Ar,As,Ap,Ay,Ab,Aj,Am,A9,Value.oneCell',Ah,Ba,Aw,A4,A1,Al,An,Ae,Ak,isZ,A6,A3,Ad,Aa,Ag,A0,Af,↓reduceIte,reduceSub,reduceEqDiff,reduceAdd,reduceMul,reduceLT,reduceLeDiff,reduceToNat,reduceLE,Int.reduceLT,reduceNeg,reduceCtorEq,zzR,gos,Int.reduceAdd,Int.reduceSub,Int.reduceMul,reduceEq,c0,SK.len])
  by_cases c1:(30:Int) < a2.length
  · refine Bj (n:=248) (m:=4) (rs:=[.tmp 8]) Try.func3 rfl rfl rfl rfl (by decide) fun base => ?_
    repeat (first|((first|refine Bd rfl (by simp only [tys]) ?_|refine Bc rfl (by simp only [tys]) ?_); apply Exists.intro; apply And.intro; (focus (simp -dsimp only [simx,zzC,zzB,tys,ite_self,A8,A2,Ax,Aq,Ao,At,Az,Ac,A5,PV.sk,Ai,Ar,As,Ap,Ay,Ab,Aj,Am,A9,Value.oneCell',Ah,Ba,Aw,A4,A1,Al,An,Ae,Ak,isZ,A6,A3,Ad,Aa,Ag,A0,Af,↓reduceIte,reduceSub,reduceEqDiff,reduceAdd,reduceMul,reduceLT,reduceLeDiff,reduceToNat,reduceLE,Int.reduceLT,reduceNeg,reduceCtorEq,zzL,if_true,if_false] <;> rfl)); apply Exists.intro; apply And.intro; (focus (first|exact d0)))|refine Bg rfl ?_|refine Bb rfl ?_|refine ⟨(dxX (by kernel_rfl)),?_⟩|exact (dxX (by kernel_rfl))|simp -dsimp (maxSteps:=20000000) (disch:=omega) only [simx,zzC,zzB,tys,ite_self,A8,A2,Ax,Aq,Ao,At,Az,Ac,A5,PV.sk,Ai,Ar,As,Ap,Ay,Ab,Aj,Am,A9,Value.oneCell',Ah,Ba,Aw,A4,A1,Al,An,Ae,Ak,isZ,A6,A3,Ad,Aa,Ag,A0,Af,↓reduceIte,reduceSub,reduceEqDiff,reduceAdd,reduceMul,reduceLT,reduceLeDiff,reduceToNat,reduceLE,Int.reduceLT,reduceNeg,reduceCtorEq,zzR,gos,Int.reduceAdd,Int.reduceSub,Int.reduceMul,reduceEq,c0,c1,SK.len])
  cases pb with
  | false =>
    refine Bj (n:=248) (m:=4) (rs:=[.tmp 8]) Try.func3 rfl rfl rfl rfl (by decide) fun base => ?_
    repeat (first|((first|refine Bd rfl (by simp only [tys]) ?_|refine Bc rfl (by simp only [tys]) ?_); apply Exists.intro; apply And.intro; (focus (simp -dsimp only [simx,zzC,zzB,tys,ite_self,A8,A2,Ax,Aq,Ao,At,Az,Ac,A5,PV.sk,Ai,Ar,As,Ap,Ay,Ab,Aj,Am,A9,Value.oneCell',Ah,Ba,Aw,A4,A1,Al,An,Ae,Ak,isZ,A6,A3,Ad,Aa,Ag,A0,Af,↓reduceIte,reduceSub,reduceEqDiff,reduceAdd,reduceMul,reduceLT,reduceLeDiff,reduceToNat,reduceLE,Int.reduceLT,reduceNeg,reduceCtorEq,zzL,if_true,if_false] <;> rfl)); apply Exists.intro; apply And.intro; (focus (first|exact d0|exact d1)))|refine Bg rfl ?_|refine Bb rfl ?_|refine ⟨(dxX (by kernel_rfl)),?_⟩|exact (dxX (by kernel_rfl))|simp -dsimp (maxSteps:=20000000) (disch:=omega) only [simx,zzC,zzB,tys,ite_self,A8,A2,Ax,Aq,Ao,At,Az,Ac,A5,PV.sk,Ai,Ar,As,Ap,Ay,Ab,Aj,Am,A9,Value.oneCell',Ah,Ba,Aw,A4,A1,Al,An,Ae,Ak,isZ,A6,A3,Ad,Aa,Ag,A0,Af,↓reduceIte,reduceSub,reduceEqDiff,reduceAdd,reduceMul,reduceLT,reduceLeDiff,reduceToNat,reduceLE,Int.reduceLT,reduceNeg,reduceCtorEq,zzR,gos,Int.reduceAdd,Int.reduceSub,Int.reduceMul,reduceEq,c0,c1,SK.len])
  | true =>
  have hP:=hpr rfl
  by_cases c2:(5:Int) < r
  · refine Bj (n:=248) (m:=4) (rs:=[.tmp 8]) Try.func3 rfl rfl rfl rfl (by decide) fun base => ?_
    repeat (first|((first|refine Bd rfl (by simp only [tys]) ?_|refine Bc rfl (by simp only [tys]) ?_); apply Exists.intro; apply And.intro; (focus (simp -dsimp only [simx,zzC,zzB,tys,ite_self,A8,A2,Ax,Aq,Ao,At,Az,Ac,A5,PV.sk,Ai,Ar,As,Ap,Ay,Ab,Aj,Am,A9,Value.oneCell',Ah,Ba,Aw,A4,A1,Al,An,Ae,Ak,isZ,A6,A3,Ad,Aa,Ag,A0,Af,↓reduceIte,reduceSub,reduceEqDiff,reduceAdd,reduceMul,reduceLT,reduceLeDiff,reduceToNat,reduceLE,Int.reduceLT,reduceNeg,reduceCtorEq,zzL,if_true,if_false] <;> rfl)); apply Exists.intro; apply And.intro; (focus (first|exact d0|exact d1)))|refine Bg rfl ?_|refine Bb rfl ?_|refine ⟨(dxX (by kernel_rfl)),?_⟩|exact (dxX (by kernel_rfl))|simp -dsimp (maxSteps:=20000000) (disch:=omega) only [simx,zzC,zzB,tys,ite_self,A8,A2,Ax,Aq,Ao,At,Az,Ac,A5,PV.sk,Ai,Ar,As,Ap,Ay,Ab,Aj,Am,A9,Value.oneCell',Ah,Ba,Aw,A4,A1,Al,An,Ae,Ak,isZ,A6,A3,Ad,Aa,Ag,A0,Af,↓reduceIte,reduceSub,reduceEqDiff,reduceAdd,reduceMul,reduceLT,reduceLeDiff,reduceToNat,reduceLE,Int.reduceLT,reduceNeg,reduceCtorEq,zzR,gos,Int.reduceAdd,Int.reduceSub,Int.reduceMul,reduceEq,c0,c1,c2,SK.len])
  by_cases c3:(5:Int) < c
  · refine Bj (n:=248) (m:=4) (rs:=[.tmp 8]) Try.func3 rfl rfl rfl rfl (by decide) fun base => ?_
    repeat (first|((first|refine Bd rfl (by simp only [tys]) ?_|refine Bc rfl (by simp only [tys]) ?_); apply Exists.intro; apply And.intro; (focus (simp -dsimp only [simx,zzC,zzB,tys,ite_self,A8,A2,Ax,Aq,Ao,At,Az,Ac,A5,PV.sk,Ai,Ar,As,Ap,Ay,Ab,Aj,Am,A9,Value.oneCell',Ah,Ba,Aw,A4,A1,Al,An,Ae,Ak,isZ,A6,A3,Ad,Aa,Ag,A0,Af,↓reduceIte,reduceSub,reduceEqDiff,reduceAdd,reduceMul,reduceLT,reduceLeDiff,reduceToNat,reduceLE,Int.reduceLT,reduceNeg,reduceCtorEq,zzL,if_true,if_false] <;> rfl)); apply Exists.intro; apply And.intro; (focus (first|exact d0|exact d1)))|refine Bg rfl ?_|refine Bb rfl ?_|refine ⟨(dxX (by kernel_rfl)),?_⟩|exact (dxX (by kernel_rfl))|simp -dsimp (maxSteps:=20000000) (disch:=omega) only [simx,zzC,zzB,tys,ite_self,A8,A2,Ax,Aq,Ao,At,Az,Ac,A5,PV.sk,Ai,Ar,As,Ap,Ay,Ab,Aj,Am,A9,Value.oneCell',Ah,Ba,Aw,A4,A1,Al,An,Ae,Ak,isZ,A6,A3,Ad,Aa,Ag,A0,Af,↓reduceIte,reduceSub,reduceEqDiff,reduceAdd,reduceMul,reduceLT,reduceLeDiff,reduceToNat,reduceLE,Int.reduceLT,reduceNeg,reduceCtorEq,zzR,gos,Int.reduceAdd,Int.reduceSub,Int.reduceMul,reduceEq,c0,c1,c2,c3,SK.len])
  cases hm:Ju P r c l with
  | false =>
    rw [hm] at d2
    obtain ⟨s1,s2,s3,s4,s5⟩:=Aq3 hP v3 wl u3 hm a3
    refine Bj (n:=248) (m:=4) (rs:=[.tmp 8]) Try.func3 rfl rfl rfl rfl (by decide) fun base => ?_
    repeat (first|((first|refine Bd rfl (by simp only [tys]) ?_|refine Bc rfl (by simp only [tys]) ?_); apply Exists.intro; apply And.intro; (focus (simp -dsimp only [simx,zzC,zzB,tys,ite_self,A8,A2,Ax,Aq,Ao,At,Az,Ac,A5,PV.sk,Ai,Ar,As,Ap,Ay,Ab,Aj,Am,A9,Value.oneCell',Ah,Ba,Aw,A4,A1,Al,An,Ae,Ak,isZ,A6,A3,Ad,Aa,Ag,A0,Af,↓reduceIte,reduceSub,reduceEqDiff,reduceAdd,reduceMul,reduceLT,reduceLeDiff,reduceToNat,reduceLE,Int.reduceLT,reduceNeg,reduceCtorEq,zzL,if_true,if_false] <;> rfl)); apply Exists.intro; apply And.intro; (focus (first|exact d0|exact d1|exact s1|exact s2|exact s3|exact s4|exact s5|exact d2)))|refine Bg rfl ?_|refine Bb rfl ?_|refine ⟨(dxX (by kernel_rfl)),?_⟩|exact (dxX (by kernel_rfl))|simp -dsimp (maxSteps:=20000000) (disch:=omega) only [simx,zzC,zzB,tys,ite_self,A8,A2,Ax,Aq,Ao,At,Az,Ac,A5,PV.sk,Ai,Ar,As,Ap,Ay,Ab,Aj,Am,A9,Value.oneCell',Ah,Ba,Aw,A4,A1,Al,An,Ae,Ak,isZ,A6,A3,Ad,Aa,Ag,A0,Af,↓reduceIte,reduceSub,reduceEqDiff,reduceAdd,reduceMul,reduceLT,reduceLeDiff,reduceToNat,reduceLE,Int.reduceLT,reduceNeg,reduceCtorEq,zzR,gos,Int.reduceAdd,Int.reduceSub,Int.reduceMul,reduceEq,c0,c1,c2,c3,SK.len])
  | true =>
  rw [hm] at d2
  obtain ⟨R,C,rfl,rfl,M⟩:=Ti hm
  have hin:∀ a ∈ l,In P a:=fun a ha => Pz M.has wl ha
  obtain ⟨x1,x2,e1,e2,l1,l2,s1,s2,h12⟩:=W8 hP M hin u3 wb
  have s3:=Nw hP M hin
  have r3:=S9 hP M hin
  have l3:(Ip P C (Bf P C R l)).1.length ≤ maxLen:=by
    rcases Yd hP M hin with ⟨e,_⟩|⟨x,e,_,h,_⟩
    · rw [e]; exact Nat.zero_le _
    · rw [e]; show x.length ≤ maxLen; have:=M.c2; rw [h,B3]; omega
  have s4:=R6 hP M hin
  have r4:=Uz hP M hin
  have l4:=P0 hP M hin fun _ => true
  generalize Ip P C (Bf P C R l)=k3 at s3 r3 l3
  generalize Kc P R (Bf P C R l) (fun _ => true)=k4 at s4 r4 l4
  obtain ⟨x3,e3⟩:=k3
  obtain ⟨x4,e4⟩:=k4
  simp only at s3 r3 l3 s4 r4 l4
  obtain ⟨x5,e5,l5,s5,h5⟩:=Ad6 hP M hin a3
  have m1:=L1 x1 l1
  have m2:=L1 x2 l2
  have m3:=L1 x3 l3
  have m4:=L1 x4 l4
  have m5:=L1 x5 l5
  clear l1 l2 l3 l4 l5 hin hP M hm hpr wl wb u4 v4
  rcases h12 with ⟨hv,rfl,rfl,rfl,rfl⟩|⟨hv1,hv2,r1,r2⟩
  · cases hh:Fe P a2 with
    | false =>
      rw [hh] at d3
      rcases h5 with ⟨g1,rfl,rfl⟩|⟨g1,g2,rfl,rfl⟩|⟨g1,g2,r5⟩
      · refine Bj (n:=248) (m:=4) (rs:=[.tmp 8]) Try.func3 rfl rfl rfl rfl (by decide) fun base => ?_
        repeat (first|((first|refine Bd rfl (by simp only [tys]) ?_|refine Bc rfl (by simp only [tys]) ?_); apply Exists.intro; apply And.intro; (focus (simp -dsimp only [simx,zzC,zzB,tys,ite_self,A8,A2,Ax,Aq,Ao,At,Az,Ac,A5,PV.sk,Ai,Ar,As,Ap,Ay,Ab,Aj,Am,A9,Value.oneCell',Ah,Ba,Aw,A4,A1,Al,An,Ae,Ak,isZ,A6,A3,Ad,Aa,Ag,A0,Af,↓reduceIte,reduceSub,reduceEqDiff,reduceAdd,reduceMul,reduceLT,reduceLeDiff,reduceToNat,reduceLE,Int.reduceLT,reduceNeg,reduceCtorEq,zzL,if_true,if_false] <;> rfl)); apply Exists.intro; apply And.intro; (focus (first|exact d0|exact d1|exact s1|exact s2|exact s3|exact s4|exact s5|exact d2|exact d3|exact r3|exact r4|exact m3|exact m4)))|refine Bg rfl ?_|refine Bb rfl ?_|refine ⟨(dxX (by kernel_rfl)),?_⟩|exact (dxX (by kernel_rfl))|simp -dsimp (maxSteps:=20000000) (disch:=omega) only [simx,zzC,zzB,tys,ite_self,A8,A2,Ax,Aq,Ao,At,Az,Ac,A5,PV.sk,Ai,Ar,As,Ap,Ay,Ab,Aj,Am,A9,Value.oneCell',Ah,Ba,Aw,A4,A1,Al,An,Ae,Ak,isZ,A6,A3,Ad,Aa,Ag,A0,Af,↓reduceIte,reduceSub,reduceEqDiff,reduceAdd,reduceMul,reduceLT,reduceLeDiff,reduceToNat,reduceLE,Int.reduceLT,reduceNeg,reduceCtorEq,zzR,gos,Int.reduceAdd,Int.reduceSub,Int.reduceMul,reduceEq,c0,c1,c2,c3,g1,SK.len])
      · refine Bj (n:=248) (m:=4) (rs:=[.tmp 8]) Try.func3 rfl rfl rfl rfl (by decide) fun base => ?_
        repeat (first|((first|refine Bd rfl (by simp only [tys]) ?_|refine Bc rfl (by simp only [tys]) ?_); apply Exists.intro; apply And.intro; (focus (simp -dsimp only [simx,zzC,zzB,tys,ite_self,A8,A2,Ax,Aq,Ao,At,Az,Ac,A5,PV.sk,Ai,Ar,As,Ap,Ay,Ab,Aj,Am,A9,Value.oneCell',Ah,Ba,Aw,A4,A1,Al,An,Ae,Ak,isZ,A6,A3,Ad,Aa,Ag,A0,Af,↓reduceIte,reduceSub,reduceEqDiff,reduceAdd,reduceMul,reduceLT,reduceLeDiff,reduceToNat,reduceLE,Int.reduceLT,reduceNeg,reduceCtorEq,zzL,if_true,if_false] <;> rfl)); apply Exists.intro; apply And.intro; (focus (first|exact d0|exact d1|exact s1|exact s2|exact s3|exact s4|exact s5|exact d2|exact d3|exact r3|exact r4|exact m3|exact m4)))|refine Bg rfl ?_|refine Bb rfl ?_|refine ⟨(dxX (by kernel_rfl)),?_⟩|exact (dxX (by kernel_rfl))|simp -dsimp (maxSteps:=20000000) (disch:=omega) only [simx,zzC,zzB,tys,ite_self,A8,A2,Ax,Aq,Ao,At,Az,Ac,A5,PV.sk,Ai,Ar,As,Ap,Ay,Ab,Aj,Am,A9,Value.oneCell',Ah,Ba,Aw,A4,A1,Al,An,Ae,Ak,isZ,A6,A3,Ad,Aa,Ag,A0,Af,↓reduceIte,reduceSub,reduceEqDiff,reduceAdd,reduceMul,reduceLT,reduceLeDiff,reduceToNat,reduceLE,Int.reduceLT,reduceNeg,reduceCtorEq,zzR,gos,Int.reduceAdd,Int.reduceSub,Int.reduceMul,reduceEq,c0,c1,c2,c3,g1,g2,SK.len])
      · refine Bj (n:=248) (m:=4) (rs:=[.tmp 8]) Try.func3 rfl rfl rfl rfl (by decide) fun base => ?_
        repeat (first|((first|refine Bd rfl (by simp only [tys]) ?_|refine Bc rfl (by simp only [tys]) ?_); apply Exists.intro; apply And.intro; (focus (simp -dsimp only [simx,zzC,zzB,tys,ite_self,A8,A2,Ax,Aq,Ao,At,Az,Ac,A5,PV.sk,Ai,Ar,As,Ap,Ay,Ab,Aj,Am,A9,Value.oneCell',Ah,Ba,Aw,A4,A1,Al,An,Ae,Ak,isZ,A6,A3,Ad,Aa,Ag,A0,Af,↓reduceIte,reduceSub,reduceEqDiff,reduceAdd,reduceMul,reduceLT,reduceLeDiff,reduceToNat,reduceLE,Int.reduceLT,reduceNeg,reduceCtorEq,zzL,if_true,if_false] <;> rfl)); apply Exists.intro; apply And.intro; (focus (first|exact d0|exact d1|exact s1|exact s2|exact s3|exact s4|exact s5|exact d2|exact d3|exact r3|exact r4|exact m3|exact m4|exact r5|exact m5)))|refine Bg rfl ?_|refine Bb rfl ?_|refine ⟨(dxX (by kernel_rfl)),?_⟩|exact (dxX (by kernel_rfl))|simp -dsimp (maxSteps:=20000000) (disch:=omega) only [simx,zzC,zzB,tys,ite_self,A8,A2,Ax,Aq,Ao,At,Az,Ac,A5,PV.sk,Ai,Ar,As,Ap,Ay,Ab,Aj,Am,A9,Value.oneCell',Ah,Ba,Aw,A4,A1,Al,An,Ae,Ak,isZ,A6,A3,Ad,Aa,Ag,A0,Af,↓reduceIte,reduceSub,reduceEqDiff,reduceAdd,reduceMul,reduceLT,reduceLeDiff,reduceToNat,reduceLE,Int.reduceLT,reduceNeg,reduceCtorEq,zzR,gos,Int.reduceAdd,Int.reduceSub,Int.reduceMul,reduceEq,c0,c1,c2,c3,g1,g2,SK.len])
    | true =>
      rw [hh] at d3 hv
      have hn:¬ (a2.length:Int)=R:=by simpa using hv
      rcases h5 with ⟨g1,rfl,rfl⟩|⟨g1,g2,rfl,rfl⟩|⟨g1,g2,r5⟩
      · refine Bj (n:=248) (m:=4) (rs:=[.tmp 8]) Try.func3 rfl rfl rfl rfl (by decide) fun base => ?_
        repeat (first|((first|refine Bd rfl (by simp only [tys]) ?_|refine Bc rfl (by simp only [tys]) ?_); apply Exists.intro; apply And.intro; (focus (simp -dsimp only [simx,zzC,zzB,tys,ite_self,A8,A2,Ax,Aq,Ao,At,Az,Ac,A5,PV.sk,Ai,Ar,As,Ap,Ay,Ab,Aj,Am,A9,Value.oneCell',Ah,Ba,Aw,A4,A1,Al,An,Ae,Ak,isZ,A6,A3,Ad,Aa,Ag,A0,Af,↓reduceIte,reduceSub,reduceEqDiff,reduceAdd,reduceMul,reduceLT,reduceLeDiff,reduceToNat,reduceLE,Int.reduceLT,reduceNeg,reduceCtorEq,zzL,if_true,if_false] <;> rfl)); apply Exists.intro; apply And.intro; (focus (first|exact d0|exact d1|exact s1|exact s2|exact s3|exact s4|exact s5|exact d2|exact d3|exact r3|exact r4|exact m3|exact m4)))|refine Bg rfl ?_|refine Bb rfl ?_|refine ⟨(dxX (by kernel_rfl)),?_⟩|exact (dxX (by kernel_rfl))|simp -dsimp (maxSteps:=20000000) (disch:=omega) only [simx,zzC,zzB,tys,ite_self,A8,A2,Ax,Aq,Ao,At,Az,Ac,A5,PV.sk,Ai,Ar,As,Ap,Ay,Ab,Aj,Am,A9,Value.oneCell',Ah,Ba,Aw,A4,A1,Al,An,Ae,Ak,isZ,A6,A3,Ad,Aa,Ag,A0,Af,↓reduceIte,reduceSub,reduceEqDiff,reduceAdd,reduceMul,reduceLT,reduceLeDiff,reduceToNat,reduceLE,Int.reduceLT,reduceNeg,reduceCtorEq,zzR,gos,Int.reduceAdd,Int.reduceSub,Int.reduceMul,reduceEq,c0,c1,c2,c3,g1,hn,SK.len])
      · refine Bj (n:=248) (m:=4) (rs:=[.tmp 8]) Try.func3 rfl rfl rfl rfl (by decide) fun base => ?_
        repeat (first|((first|refine Bd rfl (by simp only [tys]) ?_|refine Bc rfl (by simp only [tys]) ?_); apply Exists.intro; apply And.intro; (focus (simp -dsimp only [simx,zzC,zzB,tys,ite_self,A8,A2,Ax,Aq,Ao,At,Az,Ac,A5,PV.sk,Ai,Ar,As,Ap,Ay,Ab,Aj,Am,A9,Value.oneCell',Ah,Ba,Aw,A4,A1,Al,An,Ae,Ak,isZ,A6,A3,Ad,Aa,Ag,A0,Af,↓reduceIte,reduceSub,reduceEqDiff,reduceAdd,reduceMul,reduceLT,reduceLeDiff,reduceToNat,reduceLE,Int.reduceLT,reduceNeg,reduceCtorEq,zzL,if_true,if_false] <;> rfl)); apply Exists.intro; apply And.intro; (focus (first|exact d0|exact d1|exact s1|exact s2|exact s3|exact s4|exact s5|exact d2|exact d3|exact r3|exact r4|exact m3|exact m4)))|refine Bg rfl ?_|refine Bb rfl ?_|refine ⟨(dxX (by kernel_rfl)),?_⟩|exact (dxX (by kernel_rfl))|simp -dsimp (maxSteps:=20000000) (disch:=omega) only [simx,zzC,zzB,tys,ite_self,A8,A2,Ax,Aq,Ao,At,Az,Ac,A5,PV.sk,Ai,Ar,As,Ap,Ay,Ab,Aj,Am,A9,Value.oneCell',Ah,Ba,Aw,A4,A1,Al,An,Ae,Ak,isZ,A6,A3,Ad,Aa,Ag,A0,Af,↓reduceIte,reduceSub,reduceEqDiff,reduceAdd,reduceMul,reduceLT,reduceLeDiff,reduceToNat,reduceLE,Int.reduceLT,reduceNeg,reduceCtorEq,zzR,gos,Int.reduceAdd,Int.reduceSub,Int.reduceMul,reduceEq,c0,c1,c2,c3,g1,g2,hn,SK.len])
      · refine Bj (n:=248) (m:=4) (rs:=[.tmp 8]) Try.func3 rfl rfl rfl rfl (by decide) fun base => ?_
        repeat (first|((first|refine Bd rfl (by simp only [tys]) ?_|refine Bc rfl (by simp only [tys]) ?_); apply Exists.intro; apply And.intro; (focus (simp -dsimp only [simx,zzC,zzB,tys,ite_self,A8,A2,Ax,Aq,Ao,At,Az,Ac,A5,PV.sk,Ai,Ar,As,Ap,Ay,Ab,Aj,Am,A9,Value.oneCell',Ah,Ba,Aw,A4,A1,Al,An,Ae,Ak,isZ,A6,A3,Ad,Aa,Ag,A0,Af,↓reduceIte,reduceSub,reduceEqDiff,reduceAdd,reduceMul,reduceLT,reduceLeDiff,reduceToNat,reduceLE,Int.reduceLT,reduceNeg,reduceCtorEq,zzL,if_true,if_false] <;> rfl)); apply Exists.intro; apply And.intro; (focus (first|exact d0|exact d1|exact s1|exact s2|exact s3|exact s4|exact s5|exact d2|exact d3|exact r3|exact r4|exact m3|exact m4|exact r5|exact m5)))|refine Bg rfl ?_|refine Bb rfl ?_|refine ⟨(dxX (by kernel_rfl)),?_⟩|exact (dxX (by kernel_rfl))|simp -dsimp (maxSteps:=20000000) (disch:=omega) only [simx,zzC,zzB,tys,ite_self,A8,A2,Ax,Aq,Ao,At,Az,Ac,A5,PV.sk,Ai,Ar,As,Ap,Ay,Ab,Aj,Am,A9,Value.oneCell',Ah,Ba,Aw,A4,A1,Al,An,Ae,Ak,isZ,A6,A3,Ad,Aa,Ag,A0,Af,↓reduceIte,reduceSub,reduceEqDiff,reduceAdd,reduceMul,reduceLT,reduceLeDiff,reduceToNat,reduceLE,Int.reduceLT,reduceNeg,reduceCtorEq,zzR,gos,Int.reduceAdd,Int.reduceSub,Int.reduceMul,reduceEq,c0,c1,c2,c3,g1,g2,hn,SK.len])
  · rw [hv1] at d3
    rcases h5 with ⟨g1,rfl,rfl⟩|⟨g1,g2,rfl,rfl⟩|⟨g1,g2,r5⟩
    · refine Bj (n:=248) (m:=4) (rs:=[.tmp 8]) Try.func3 rfl rfl rfl rfl (by decide) fun base => ?_
      repeat (first|((first|refine Bd rfl (by simp only [tys]) ?_|refine Bc rfl (by simp only [tys]) ?_); apply Exists.intro; apply And.intro; (focus (simp -dsimp only [simx,zzC,zzB,tys,ite_self,A8,A2,Ax,Aq,Ao,At,Az,Ac,A5,PV.sk,Ai,Ar,As,Ap,Ay,Ab,Aj,Am,A9,Value.oneCell',Ah,Ba,Aw,A4,A1,Al,An,Ae,Ak,isZ,A6,A3,Ad,Aa,Ag,A0,Af,↓reduceIte,reduceSub,reduceEqDiff,reduceAdd,reduceMul,reduceLT,reduceLeDiff,reduceToNat,reduceLE,Int.reduceLT,reduceNeg,reduceCtorEq,zzL,if_true,if_false] <;> rfl)); apply Exists.intro; apply And.intro; (focus (first|exact d0|exact d1|exact s1|exact s2|exact s3|exact s4|exact s5|exact d2|exact d3|exact r1|exact r2|exact m1|exact m2|exact r3|exact r4|exact m3|exact m4)))|refine Bg rfl ?_|refine Bb rfl ?_|refine ⟨(dxX (by kernel_rfl)),?_⟩|exact (dxX (by kernel_rfl))|simp -dsimp (maxSteps:=20000000) (disch:=omega) only [simx,zzC,zzB,tys,ite_self,A8,A2,Ax,Aq,Ao,At,Az,Ac,A5,PV.sk,Ai,Ar,As,Ap,Ay,Ab,Aj,Am,A9,Value.oneCell',Ah,Ba,Aw,A4,A1,Al,An,Ae,Ak,isZ,A6,A3,Ad,Aa,Ag,A0,Af,↓reduceIte,reduceSub,reduceEqDiff,reduceAdd,reduceMul,reduceLT,reduceLeDiff,reduceToNat,reduceLE,Int.reduceLT,reduceNeg,reduceCtorEq,zzR,gos,Int.reduceAdd,Int.reduceSub,Int.reduceMul,reduceEq,c0,c1,c2,c3,g1,hv2,SK.len])
    · refine Bj (n:=248) (m:=4) (rs:=[.tmp 8]) Try.func3 rfl rfl rfl rfl (by decide) fun base => ?_
      repeat (first|((first|refine Bd rfl (by simp only [tys]) ?_|refine Bc rfl (by simp only [tys]) ?_); apply Exists.intro; apply And.intro; (focus (simp -dsimp only [simx,zzC,zzB,tys,ite_self,A8,A2,Ax,Aq,Ao,At,Az,Ac,A5,PV.sk,Ai,Ar,As,Ap,Ay,Ab,Aj,Am,A9,Value.oneCell',Ah,Ba,Aw,A4,A1,Al,An,Ae,Ak,isZ,A6,A3,Ad,Aa,Ag,A0,Af,↓reduceIte,reduceSub,reduceEqDiff,reduceAdd,reduceMul,reduceLT,reduceLeDiff,reduceToNat,reduceLE,Int.reduceLT,reduceNeg,reduceCtorEq,zzL,if_true,if_false] <;> rfl)); apply Exists.intro; apply And.intro; (focus (first|exact d0|exact d1|exact s1|exact s2|exact s3|exact s4|exact s5|exact d2|exact d3|exact r1|exact r2|exact m1|exact m2|exact r3|exact r4|exact m3|exact m4)))|refine Bg rfl ?_|refine Bb rfl ?_|refine ⟨(dxX (by kernel_rfl)),?_⟩|exact (dxX (by kernel_rfl))|simp -dsimp (maxSteps:=20000000) (disch:=omega) only [simx,zzC,zzB,tys,ite_self,A8,A2,Ax,Aq,Ao,At,Az,Ac,A5,PV.sk,Ai,Ar,As,Ap,Ay,Ab,Aj,Am,A9,Value.oneCell',Ah,Ba,Aw,A4,A1,Al,An,Ae,Ak,isZ,A6,A3,Ad,Aa,Ag,A0,Af,↓reduceIte,reduceSub,reduceEqDiff,reduceAdd,reduceMul,reduceLT,reduceLeDiff,reduceToNat,reduceLE,Int.reduceLT,reduceNeg,reduceCtorEq,zzR,gos,Int.reduceAdd,Int.reduceSub,Int.reduceMul,reduceEq,c0,c1,c2,c3,g1,g2,hv2,SK.len])
    · refine Bj (n:=248) (m:=4) (rs:=[.tmp 8]) Try.func3 rfl rfl rfl rfl (by decide) fun base => ?_
      repeat (first|((first|refine Bd rfl (by simp only [tys]) ?_|refine Bc rfl (by simp only [tys]) ?_); apply Exists.intro; apply And.intro; (focus (simp -dsimp only [simx,zzC,zzB,tys,ite_self,A8,A2,Ax,Aq,Ao,At,Az,Ac,A5,PV.sk,Ai,Ar,As,Ap,Ay,Ab,Aj,Am,A9,Value.oneCell',Ah,Ba,Aw,A4,A1,Al,An,Ae,Ak,isZ,A6,A3,Ad,Aa,Ag,A0,Af,↓reduceIte,reduceSub,reduceEqDiff,reduceAdd,reduceMul,reduceLT,reduceLeDiff,reduceToNat,reduceLE,Int.reduceLT,reduceNeg,reduceCtorEq,zzL,if_true,if_false] <;> rfl)); apply Exists.intro; apply And.intro; (focus (first|exact d0|exact d1|exact s1|exact s2|exact s3|exact s4|exact s5|exact d2|exact d3|exact r1|exact r2|exact m1|exact m2|exact r3|exact r4|exact m3|exact m4|exact r5|exact m5)))|refine Bg rfl ?_|refine Bb rfl ?_|refine ⟨(dxX (by kernel_rfl)),?_⟩|exact (dxX (by kernel_rfl))|simp -dsimp (maxSteps:=20000000) (disch:=omega) only [simx,zzC,zzB,tys,ite_self,A8,A2,Ax,Aq,Ao,At,Az,Ac,A5,PV.sk,Ai,Ar,As,Ap,Ay,Ab,Aj,Am,A9,Value.oneCell',Ah,Ba,Aw,A4,A1,Al,An,Ae,Ak,isZ,A6,A3,Ad,Aa,Ag,A0,Af,↓reduceIte,reduceSub,reduceEqDiff,reduceAdd,reduceMul,reduceLT,reduceLeDiff,reduceToNat,reduceLE,Int.reduceLT,reduceNeg,reduceCtorEq,zzR,gos,Int.reduceAdd,Int.reduceSub,Int.reduceMul,reduceEq,c0,c1,c2,c3,g1,g2,hv2,SK.len])
end Go.Proofs.Ythnfphgjfpcpbaa.TM
