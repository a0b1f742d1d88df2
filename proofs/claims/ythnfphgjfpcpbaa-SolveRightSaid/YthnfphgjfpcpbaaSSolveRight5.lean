/- What is proved of functions, and plain facts, part 5. Conditions: none. -/
import Derived.Test.YthnfphgjfpcpbaaSSolveRight4
open Nat (reduceSub reduceEqDiff reduceAdd reduceMul reduceLT reduceLeDiff)
open Int (reduceToNat reduceLE reduceNeg reduceEq)
set_option linter.defProp false
set_option linter.unusedSectionVars false
set_option linter.unusedSimpArgs false
set_option linter.unusedVariables false
namespace Go.Proofs.Ythnfphgjfpcpbaa.TM
open Go Go.RowKit
def skip (k j:Nat):Nat:=if j < k then j else j + 1
def sg (k:Nat):Int:=if k % 2=0 then 1 else -1
theorem Zq:sg 0=1:=rfl
theorem S4 (k:Nat):sg (k + 1)=- sg k:=by
  unfold sg
  by_cases h:k % 2=0
  · rw [if_pos h,if_neg (by omega)]
  · rw [if_neg h,if_pos (by omega)]; rfl
abbrev Mx:=Nat → Nat → Int
def tr (A:Mx):Mx:=fun i j => A j i
def mnr (A:Mx) (k:Nat):Mx:=fun i j => A (i + 1) (skip k j)
def Lp:Nat → Mx → Int
  | 0,_ => 1
  | n + 1,A => B8 (n + 1) (fun k => sg k * A 0 k * Lp n (mnr A k))
theorem Ew (n:Nat) (A:Mx):Lp (n + 1) A=B8 (n + 1) (fun k => sg k * A 0 k * Lp n (mnr A k)):=rfl
theorem W6 (n:Nat) (f:Nat → Int):B8 (n + 1) f=f 0 + B8 n (fun i => f (i + 1)):=by
  rw [Nat.add_comm,K8 1 n]
  simp only [B8,Int.zero_add]
  congr 1
  exact By fun i _ => by rw [Nat.add_comm 1 i]
theorem Sz {n k j:Nat} (hj:j < n):skip k j < n + 1:=by unfold skip; split <;> omega
theorem Iz:∀ (n:Nat) {A B:Mx},(∀ i j,i < n → j < n → A i j=B i j) → Lp n A=Lp n B
  | 0,_,_,_ => rfl
  | n + 1,A,B,h => by
    rw [Ew,Ew]
    refine By fun k hk => ?_
    rw [h 0 k (by omega) hk,Iz n (A:=mnr A k) (B:=mnr B k) fun i j hi hj => h _ _ (by omega) (Sz hj)]
theorem Qj {p:Int}:∀ (n:Nat) {A B:Mx},(∀ i j,i < n → j < n → A i j % p=B i j % p) → Lp n A % p=Lp n B % p
  | 0,_,_,_ => rfl
  | n + 1,A,B,h => by
    rw [Ew,Ew]
    refine Dn fun k hk => ?_
    rw [Int.mul_emod,Int.mul_emod (sg k),h 0 k (by omega) hk,Qj n (A:=mnr A k) (B:=mnr B k) fun i j hi hj => h _ _ (by omega) (Sz hj),← Int.mul_emod (sg k),← Int.mul_emod]
theorem Aw9 (n:Nat) (h1:∀ A,Lp (n + 1) A=Lp (n + 1) (tr A)) (h2:∀ A,Lp n A=Lp n (tr A)) (A:Mx) :
    Lp (n + 2) A=A 0 0 * Lp (n + 1) (fun i j => A (i + 1) (j + 1)) + B8 (n + 1) (fun k => B8 (n + 1) (fun i => sg (k + 1) * sg i * A 0 (k + 1) * A (i + 1) 0 * Lp n (fun a b => A (skip i a + 1) (skip k b + 1)))):=by
  rw [Ew,W6,Zq,Int.one_mul]
  congr 1
  refine By fun k hk => ?_
  rw [h1,Ew,← G8]
  refine By fun i hi => ?_
  have e1:tr (mnr A (k + 1)) 0 i=A (i + 1) 0:=rfl
  have e2:mnr (tr (mnr A (k + 1))) i=tr (fun a b => A (skip i a + 1) (skip k b + 1)):=by
    funext a b
    show A (skip i b + 1) (skip (k + 1) (a + 1))=A (skip i b + 1) (skip k a + 1)
    congr 1
    unfold skip
    by_cases c:a < k
    · rw [if_pos (by omega),if_pos c]
    · rw [if_neg (by omega),if_neg c]
  rw [e1,e2,← h2]
  grind
theorem Iy:∀ (n:Nat) (A:Mx),Lp n A=Lp n (tr A)
  | 0,A => rfl
  | 1,A => by
    rw [Ew,Ew]
    simp [B8,tr,Lp]
  | n + 2,A => by
    rw [Aw9 n (Iy (n + 1)) (Iy n) A,Aw9 n (Iy (n + 1)) (Iy n) (tr A)]
    have e1:Lp (n + 1) (fun i j => A (i + 1) (j + 1))=Lp (n + 1) (fun i j => tr A (i + 1) (j + 1)):=Iy (n + 1) _
    rw [e1,If]
    congr 1
    refine By fun i hi => By fun k hk => ?_
    have e2:Lp n (fun a b => A (skip i a + 1) (skip k b + 1))=Lp n (fun a b => tr A (skip k a + 1) (skip i b + 1)):=Iy n _
    rw [e2,S4,S4]
    show - sg k * sg i * A 0 (k + 1) * A (i + 1) 0 * _=- sg i * sg k * A (i + 1) 0 * A 0 (k + 1) * _
    grind
def updc (A:Mx) (k:Nat) (u:Nat → Int):Mx:=fun i j => if j=k then u i else A i j
theorem H9 (A:Mx) (k:Nat) (u:Nat → Int):mnr (updc A k u) k=mnr A k:=by
  funext i j
  show (if skip k j=k then _ else _)=_
  rw [if_neg (by unfold skip; split <;> omega)]; rfl
theorem Pt {A:Mx} {m k:Nat} (h:m ≠ k) (u:Nat → Int):mnr (updc A k u) m=updc (mnr A m) (if k < m then k else k - 1) (fun i => u (i + 1)):=by
  funext i j
  show (if skip m j=k then u (i + 1) else A (i + 1) (skip m j))=if j=_ then u (i + 1) else A (i + 1) (skip m j)
  have:skip m j=k ↔ j=(if k < m then k else k - 1):=by
    unfold skip
    split <;> split <;> omega
  simp only [this]
theorem Ax0:∀ (n:Nat) (A:Mx) (k:Nat) (u v:Nat → Int) (c:Int),k < n → Lp n (updc A k (fun i => u i + c * v i))=Lp n (updc A k u) + c * Lp n (updc A k v)
  | 0,_,_,_,_,_,h => by omega
  | n + 1,A,k,u,v,c,h => by
    rw [Ew,Ew,Ew,← G8,← Fg]
    refine By fun m hm => ?_
    by_cases e:m=k
    · subst e
      rw [H9,H9,H9]
      show sg m * (if m=m then _ else _) * _=sg m * (if m=m then _ else _) * _ + c * (sg m * (if m=m then _ else _) * _)
      rw [if_pos rfl,if_pos rfl,if_pos rfl]
      grind
    · rw [Pt e,Pt e,Pt e]
      have ih:=Ax0 n (mnr A m) (if k < m then k else k - 1) (fun i => u (i + 1)) (fun i => v (i + 1)) c (by split <;> omega)
      rw [ih]
      show sg m * (if m=k then _ else _) * _=sg m * (if m=k then _ else _) * _ + c * (sg m * (if m=k then _ else _) * _)
      rw [if_neg e,if_neg e,if_neg e]
      grind
theorem Ac6 {n k:Nat} {f:Nat → Int} (hk:k + 1 < n) (h:∀ m,m < n → m ≠ k → m ≠ k + 1 → f m=0) (h2:f k + f (k + 1)=0):B8 n f=0:=by
  have e:B8 n f=B8 n (fun m => (if m=k then f m else 0) + (if m=k + 1 then f m else 0)):=By fun m hm => by
    by_cases a:m=k
    · rw [if_pos a,if_neg (by omega)]; omega
    · by_cases b:m=k + 1
      · rw [if_neg a,if_pos b]; omega
      · rw [if_neg a,if_neg b,h m hm a b]; rfl
  rw [e,Fg,Dm f (by omega),Dm f hk,h2]
theorem Ax1:∀ (n:Nat) (A:Mx) (k:Nat),k + 1 < n → (∀ i,A i k=A i (k + 1)) → Lp n A=0
  | 0,_,_,h,_ => by omega
  | n + 1,A,k,hk,he => by
    rw [Ew]
    refine Ac6 hk (fun m hm h1 h2 => ?_) ?_
    · rw [Ax1 n (mnr A m) (if k < m then k else k - 1) (by split <;> omega) fun i => ?_,Int.mul_zero]
      show A (i + 1) (skip m _)=A (i + 1) (skip m _)
      by_cases c:k < m
      · rw [if_pos c,show skip m k=k by unfold skip; rw [if_pos c],show skip m (k + 1)=k + 1 by unfold skip; rw [if_pos (by omega)],he]
      · rw [if_neg c,show skip m (k - 1)=k by unfold skip; rw [if_neg (by omega)]; omega,show skip m (k - 1 + 1)=k + 1 by unfold skip; rw [if_neg (by omega)]; omega,he]
    · have e:Lp n (mnr A k)=Lp n (mnr A (k + 1)):=by
        congr 1
        funext i j
        show A (i + 1) (skip k j)=A (i + 1) (skip (k + 1) j)
        by_cases a:j < k
        · rw [show skip k j=j by unfold skip; rw [if_pos a],show skip (k + 1) j=j by unfold skip; rw [if_pos (by omega)]]
        · by_cases b:j=k
          · subst b
            rw [show skip j j=j + 1 by unfold skip; rw [if_neg (by omega)],show skip (j + 1) j=j by unfold skip; rw [if_pos (by omega)],he]
          · rw [show skip k j=j + 1 by unfold skip; rw [if_neg a],show skip (k + 1) j=j + 1 by unfold skip; rw [if_neg (by omega)]]
      rw [e,he 0,S4]
      grind
end Go.Proofs.Ythnfphgjfpcpbaa.TM
namespace Go.Proofs.Ythnfphgjfpcpbaa.TM
open Go Go.RowKit
noncomputable def finv (p a:Int):Int:=by
  classical exact if h:∃ x,In p x ∧ a * x % p=1 then h.choose else 0
theorem Iq {p a x:Int} (hx:In p x) (h:a * x % p=1):finv p a=x:=by
  have hex:∃ x,In p x ∧ a * x % p=1:=⟨x,hx,h⟩
  have hd:finv p a=hex.choose:=by unfold finv; rw [dif_pos hex]
  obtain ⟨h1,h2⟩:=hex.choose_spec
  rw [hd]
  generalize hex.choose=y at h1 h2
  have e1:y * (a * x % p) % p=y:=by rw [h,Int.mul_one,h1.emod]
  have e2:x * (a * y % p) % p=x:=by rw [h2,Int.mul_one,hx.emod]
  have e3:y * (a * x % p) % p=x * (a * y % p) % p:=by
    rw [Ba7,Ba7]
    congr 1
    grind
  rw [← e1,e3,e2]
noncomputable def Ai9 (p a:Int):Int × Int:=if Int.gcd p a=1 then (finv p a,0) else (0,5)
structure Eu (p a r s x y:Int):Prop where
  hs0:0 ≤ s
  hsr:s < r
  hrp:r ≤ p
  hg:Int.gcd r s=Int.gcd p a
  hx:∃ z,x * a=r + z * p
  hy:∃ z,y * a=s + z * p
  hsg:(0 ≤ x ∧ y ≤ 0 ∧ -y * r + x * s=p) ∨ (x ≤ 0 ∧ 0 ≤ y ∧ y * r + -x * s=p)
  hx2:2 * x ≤ p ∧ -(2 * x) ≤ p
theorem Aa4 {p a r s x y:Int} (h:Eu p a r s x y) (hp:p < 9223372036854775808) (h0:s ≠ 0) :
    Eu p a s (r - r / s * s) y (x - r / s * y) ∧ (∀ z,z=r / s * y → -9223372036854775808 ≤ z ∧ z < 9223372036854775808 ∧ -9223372036854775808 ≤ x - z ∧ x - z < 9223372036854775808) ∧ 0 ≤ r / s * s ∧ r / s * s ≤ r ∧ 0 ≤ r / s ∧ r / s ≤ r:=by
  obtain ⟨hs0,hsr,hrp,hg,⟨z1,hx⟩,⟨z2,hy⟩,hsg,hx2,hx3⟩:=h
  have hq:=Int.emod_add_mul_ediv r s
  have hqc:s * (r / s)=r / s * s:=Int.mul_comm _ _
  have hm0:=Int.emod_nonneg r h0
  have hm1:=Int.emod_lt_of_pos r (show 0 < s by omega)
  have hq0:0 ≤ r / s:=Int.ediv_nonneg (by omega) hs0
  have hqr:r / s ≤ r:=Int.ediv_le_self _ (by omega)
  have hrem:r - r / s * s=r % s:=by omega
  have hqs0:0 ≤ r / s * s:=Int.mul_nonneg hq0 hs0
  have zs:(0 ≤ x ∧ r / s * y ≤ 0) ∨ (x ≤ 0 ∧ 0 ≤ r / s * y):=by
    rcases hsg with ⟨g1,g2,g3⟩|⟨g1,g2,g3⟩
    · have h1:0 ≤ r / s * -y:=Int.mul_nonneg hq0 (by omega)
      have e:r / s * -y=-(r / s * y):=by grind
      exact .inl ⟨g1,by omega⟩
    · exact .inr ⟨g1,Int.mul_nonneg hq0 g2⟩
  -- the signs,and that nothing is beyond p
  have sg:(0 ≤ y ∧ x - r / s * y ≤ 0 ∧ -(x - r / s * y) * s + y * (r - r / s * s)=p) ∨ (y ≤ 0 ∧ 0 ≤ x - r / s * y ∧ (x - r / s * y) * s + -y * (r - r / s * s)=p):=by
    rcases hsg with ⟨g1,g2,g3⟩|⟨g1,g2,g3⟩
    · right
      have:0 ≤ r / s * -y:=Int.mul_nonneg hq0 (by omega)
      have e:r / s * -y=-(r / s * y):=by grind
      refine ⟨g2,by omega,?_⟩
      rw [← g3]; grind
    · left
      have:0 ≤ r / s * y:=Int.mul_nonneg hq0 g2
      refine ⟨g2,by omega,?_⟩
      rw [← g3]; grind
  have hy2:2 * y ≤ p ∧ -(2 * y) ≤ p:=by
    rcases hsg with ⟨g1,g2,g3⟩|⟨g1,g2,g3⟩
    · have h1:2 * -y ≤ r * -y:=Int.mul_le_mul_of_nonneg_right (by omega) (by omega)
      have h2:0 ≤ x * s:=Int.mul_nonneg g1 hs0
      have e:-y * r=r * -y:=by grind
      omega
    · have h1:2 * y ≤ r * y:=Int.mul_le_mul_of_nonneg_right (by omega) g2
      have h2:0 ≤ -x * s:=Int.mul_nonneg (by omega) hs0
      have e:y * r=r * y:=by grind
      omega
  have bd:∀ u,(0 ≤ u ∧ u * s ≤ p → u ≤ p):=by
    intro u ⟨h1,h2⟩
    have:u * 1 ≤ u * s:=Int.mul_le_mul_of_nonneg_left (by omega) h1
    omega
  have hb:-p ≤ x - r / s * y ∧ x - r / s * y ≤ p:=by
    rcases sg with ⟨g1,g2,g3⟩|⟨g1,g2,g3⟩
    · have h2:0 ≤ y * (r - r / s * s):=Int.mul_nonneg g1 (by omega)
      have:=bd (-(x - r / s * y)) ⟨by omega,by omega⟩
      omega
    · have h2:0 ≤ -y * (r - r / s * s):=Int.mul_nonneg (by omega) (by omega)
      have:=bd (x - r / s * y) ⟨by omega,by omega⟩
      omega
  refine ⟨⟨by omega,by omega,by omega,?_,⟨z2,hy⟩,⟨z1 - r / s * z2,?_⟩,sg,hy2⟩,?_,hqs0,by omega,hq0,hqr⟩
  · rw [Int.gcd_sub_mul_right_right,Int.gcd_comm,hg]
  · have:(x - r / s * y) * a=x * a - r / s * (y * a):=by grind
    rw [this,hx,hy]; grind
  · intro z hz
    subst hz
    clear sg hsg bd
    omega
theorem M7 (r:Int) (h:0 ≤ r):(Int.gcd r 0:Int)=r:=by simp [Int.gcd_zero_right]; omega
def itJ {α:Type} (f:α → α):Nat → α → α
  | 0,t => t
  | n + 1,t => f (itJ f n t)
theorem M4 {α:Type} (f:α → α):∀ (n:Nat) (t:α),itJ f (n + 1) t=itJ f n (f t)
  | 0,_ => rfl
  | n + 1,t => by rw [itJ,M4 f n t]; rfl
theorem Xc {α:Type} (f:α → α) (z:α → Int) (I:α → Prop) (h:∀ t,I t → z t ≠ 0 → I (f t) ∧ 0 ≤ z (f t) ∧ z (f t) < z t):∀ (n:Nat) (t:α),z t=n → I t → ∃ N,N ≤ n ∧ z (itJ f N t)=0 ∧ ∀ j,j ≤ N → I (itJ f j t) ∧ (j < N → z (itJ f j t) ≠ 0):=by
  intro n
  induction n using Nat.strongRecOn with
  | _ n ih =>
  intro t hz hI
  by_cases c:z t=0
  · exact ⟨0, by omega, c, fun j hj => by obtain rfl : j = 0 := by omega
                                          exact ⟨hI,fun h => by omega⟩⟩
  · obtain ⟨h1,h2,h3⟩:=h t hI c
    obtain ⟨N,g0,g1,g2⟩:=ih (z (f t)).toNat (by omega) (f t) (by omega) h1
    refine ⟨N + 1,by omega,by rw [M4]; exact g1,fun j hj => ?_⟩
    cases j with
    | zero => exact ⟨hI,fun _ => c⟩
    | succ j =>
      rw [M4]
      obtain ⟨k1,k2⟩:=g2 j (by omega)
      exact ⟨k1,fun h => k2 (by omega)⟩
abbrev T4:=Int × Int × Int × Int
def euT (t:T4):T4:=(t.2.1,t.1 - t.1 / t.2.1 * t.2.1,t.2.2.2,t.2.2.1 - t.1 / t.2.1 * t.2.2.2)
theorem At4 {p a:Int} (hp:p < 9223372036854775808) (hp2:2 ≤ p) (ha:In p a):∃ N,(itJ euT N (p,a,0,1)).2.1=0 ∧ ∀ j,j ≤ N → Eu p a (itJ euT j (p,a,0,1)).1 (itJ euT j (p,a,0,1)).2.1 (itJ euT j (p,a,0,1)).2.2.1 (itJ euT j (p,a,0,1)).2.2.2 ∧ (j < N → (itJ euT j (p,a,0,1)).2.1 ≠ 0):=by
  have h1:=ha.1; have h2:=ha.2
  have E:Eu p a p a 0 1:=⟨h1,h2,Int.le_refl _,rfl,⟨-1,by omega⟩,⟨0,by omega⟩,.inr ⟨by omega,by omega,by omega⟩,by omega⟩
  obtain ⟨N,_,g⟩:=Xc euT (fun t => t.2.1) (fun t => Eu p a t.1 t.2.1 t.2.2.1 t.2.2.2) (fun t hI hz => by
    obtain ⟨E2,_⟩:=Aa4 hI hp hz
    exact ⟨E2,E2.hs0,E2.hsr⟩) a.toNat (p,a,0,1) (by show a=_; omega) E
  exact ⟨N,g⟩
theorem At5 {p a r x y:Int} (hp2:2 ≤ p) (E:Eu p a r 0 x y):(r == 1)=decide (Int.gcd p a=1) ∧ (Int.gcd p a=1 → In p (if x < 0 then x + p else x) ∧ a * (if x < 0 then x + p else x) % p=1):=by
  have h0:=E.hsr
  have hg:=E.hg
  have hg2:(Int.gcd p a:Int)=r:=by rw [← hg]; exact M7 r (by omega)
  obtain ⟨z,hz⟩:=E.hx
  have hx2:=E.hx2
  refine ⟨?_,fun h1 => ?_⟩
  · rw [Bool.eq_iff_iff]
    simp
    omega
  · by_cases cx:x < 0
    · rw [if_pos cx]
      refine ⟨⟨by omega,by omega⟩,?_⟩
      have:a * (x + p)=r + (z + a) * p:=by rw [Int.add_mul,← Int.add_assoc,← hz]; grind
      rw [this,Int.add_mul_emod_self_right,Int.emod_eq_of_lt (by omega) (by omega)]
      omega
    · rw [if_neg cx]
      refine ⟨⟨by omega,by omega⟩,?_⟩
      rw [Int.mul_comm,hz,Int.add_mul_emod_self_right,Int.emod_eq_of_lt (by omega) (by omega)]
      omega
theorem Bb5 {p a:Int} (hp2:2 ≤ p) (hp:p < 9223372036854775808) (ha:In p a) (h:Int.gcd p a=1):In p (finv p a) ∧ a * finv p a % p=1:=by
  obtain ⟨N,g1,g2⟩:=At4 hp hp2 ha
  obtain ⟨E,_⟩:=g2 N (Nat.le_refl _)
  rw [g1] at E
  obtain ⟨i1,i2⟩:=(At5 hp2 E).2 h
  rw [Iq i1 i2]
  exact ⟨i1,i2⟩
structure Em (p a r s x y:Int):Prop where
  hs0:0 ≤ s
  hsr:s < r
  hrp:r ≤ p
  hg:Int.gcd r s=Int.gcd p a
  hx:x * a % p=r % p
  hy:y * a % p=s % p
  ix:In p x
  iy:In p y
theorem Bb6 {p a r s x y:Int} (hp2:2 ≤ p) (E:Em p a r s x y) (c:s ≠ 0):Em p a s (r - r / s * s) y ((x - r / s % p * y % p) % p):=by
  have hs0:=E.hs0; have hsr:=E.hsr; have hrp:=E.hrp
  have hq:=Int.emod_add_mul_ediv r s
  have hqc:s * (r / s)=r / s * s:=Int.mul_comm _ _
  have hm0:=Int.emod_nonneg r c
  have hm1:=Int.emod_lt_of_pos r (show 0 < s by omega)
  refine ⟨by omega,by omega,by omega,?_,E.hy,?_,E.iy,E8 _ (by omega)⟩
  · rw [Int.gcd_sub_mul_right_right,Int.gcd_comm,E.hg]
  · rw [mm_l,Int.sub_mul,← Az4,mm_l,Az4,Int.mul_assoc]
    rw [← sm_l,E.hx,sm_l,← Az4,mm_l,← Ba7,E.hy,Ba7,Az4]
def emT (p:Int) (t:T4):T4:=(t.2.1,t.1 - t.1 / t.2.1 * t.2.1,t.2.2.2,(t.2.2.1 - t.1 / t.2.1 % p * t.2.2.2 % p) % p)
theorem em_run {p a:Int} (hp2:2 ≤ p) (ha:In p a):∃ N,(itJ (emT p) N (p,a,0,1)).2.1=0 ∧ ∀ j,j ≤ N → Em p a (itJ (emT p) j (p,a,0,1)).1 (itJ (emT p) j (p,a,0,1)).2.1 (itJ (emT p) j (p,a,0,1)).2.2.1 (itJ (emT p) j (p,a,0,1)).2.2.2 ∧ (j < N → (itJ (emT p) j (p,a,0,1)).2.1 ≠ 0):=by
  have h1:=ha.1; have h2:=ha.2
  have E:Em p a p a 0 1:=⟨h1,h2,Int.le_refl _,rfl,by simp,by simp,⟨by omega,by omega⟩,⟨by omega,by omega⟩⟩
  obtain ⟨N,_,g⟩:=Xc (emT p) (fun t => t.2.1) (fun t => Em p a t.1 t.2.1 t.2.2.1 t.2.2.2) (fun t hI hz => by
    have E2:=Bb6 hp2 hI hz
    exact ⟨E2,E2.hs0,E2.hsr⟩) a.toNat (p,a,0,1) (by show a=_; omega) E
  exact ⟨N,g⟩
theorem em_end {p a r x y:Int} (hp2:2 ≤ p) (E:Em p a r 0 x y) (h:Int.gcd p a=1):finv p a=x:=by
  have h0:=E.hsr
  have hg:=E.hg
  have hg2:(Int.gcd p a:Int)=r:=by rw [← hg]; exact M7 r (by omega)
  refine Iq E.ix ?_
  rw [Int.mul_comm,E.hx,show r=1 by omega]
  exact Int.emod_eq_of_lt (by omega) (by omega)
def gcT (t:Int × Int):Int × Int:=(t.2,t.1 % t.2)
theorem gc_run {a b:Int} (ha:0 ≤ a) (hb:0 ≤ b):∃ N,(itJ gcT N (a,b)).2=0 ∧ (itJ gcT N (a,b)).1=(Int.gcd a b:Int) ∧ ∀ j,j ≤ N → (0 ≤ (itJ gcT j (a,b)).1 ∧ 0 ≤ (itJ gcT j (a,b)).2) ∧ (j < N → (itJ gcT j (a,b)).2 ≠ 0):=by
  obtain ⟨N,_,g1,g2⟩:=Xc gcT (fun t => t.2) (fun t => (0 ≤ t.1 ∧ 0 ≤ t.2) ∧ Int.gcd t.1 t.2=Int.gcd a b) (fun t hI hz => by
    obtain ⟨⟨h1,h2⟩,h3⟩:=hI
    have m0:=Int.emod_nonneg t.1 hz
    have m1:=Int.emod_lt_of_pos t.1 (show 0 < t.2 by omega)
    refine ⟨⟨⟨h2,m0⟩,?_⟩,m0,m1⟩
    show Int.gcd t.2 (t.1 % t.2)=_
    rw [← h3,Int.gcd_comm t.1]
    have e:=Int.emod_add_mul_ediv t.1 t.2
    conv => rhs; rw [← e]
    simp) b.toNat (a,b) (by show b=_; omega) ⟨⟨ha,hb⟩,rfl⟩
  refine ⟨N,g1,?_,fun j hj => ⟨(g2 j hj).1.1,(g2 j hj).2⟩⟩
  obtain ⟨⟨h1,_⟩,h3⟩:=(g2 N (Nat.le_refl _)).1
  rw [← h3,g1]
  exact (M7 _ h1).symm
end Go.Proofs.Ythnfphgjfpcpbaa.TM
namespace Go.Proofs.Ythnfphgjfpcpbaa.TM
open Go Go.RowKit
def Prm (p:Nat):Prop:=2 ≤ p ∧ ∀ a,0 < a → a < p → Nat.gcd p a=1
theorem Ap6 {p:Nat} (h2:2 ≤ p) (h:∀ d,2 ≤ d → d * d ≤ p → p % d ≠ 0):Prm p:=by
  refine ⟨h2,fun a h0 h1 => ?_⟩
  have d1:=Nat.gcd_dvd_left p a
  have d2:=Nat.gcd_dvd_right p a
  have gp:0 < Nat.gcd p a:=Nat.gcd_pos_of_pos_left _ (by omega)
  have ga:Nat.gcd p a ≤ a:=Nat.le_of_dvd h0 d2
  generalize Nat.gcd p a=g at *
  by_cases e:g=1
  · exact e
  exfalso
  obtain ⟨c,hc⟩:=d1
  by_cases e2:g * g ≤ p
  · exact h g (by omega) e2 (Nat.mod_eq_zero_of_dvd ⟨c,hc⟩)
  · have c1:c ≠ 0:=by rintro rfl; omega
    have c2:c ≠ 1:=by rintro rfl; omega
    have c3:c < g:=by
      rcases Nat.lt_or_ge c g with h|h
      · exact h
      · exact absurd (by rw [hc]; exact Nat.mul_le_mul_left g h) e2
    refine h c (by omega) ?_ (Nat.mod_eq_zero_of_dvd ⟨g,by rw [hc,Nat.mul_comm]⟩)
    rw [hc]; exact Nat.mul_le_mul_right c (Nat.le_of_lt c3)
def R0 (p:Nat):Nat → Nat → Bool
  | 0,lo => p % lo != 0
  | k + 1,lo => R0 p k lo && R0 p k (lo + 2 ^ k)
theorem M3 (p:Nat):∀ (k lo:Nat),R0 p k lo=true → ∀ d,lo ≤ d → d < lo + 2 ^ k → p % d ≠ 0
  | 0,lo,h,d,h1,h2 => by
    obtain rfl:d=lo:=by omega
    simpa [R0] using h
  | k + 1,lo,h,d,h1,h2 => by
    rw [R0,Bool.and_eq_true] at h
    by_cases c:d < lo + 2 ^ k
    · exact M3 p k lo h.1 d h1 c
    · exact M3 p k _ h.2 d (by omega) (by rw [Nat.pow_succ] at h2; omega)
theorem sq_lt {d n:Nat} (h:d * d < n * n):d < n:=by
  rcases Nat.lt_or_ge d n with g|g
  · exact g
  · exact absurd (Nat.mul_le_mul g g) (by omega)
theorem prm31:Prm 2147483647:=by
  refine Ap6 (by decide) fun d h2 hd => ?_
  have hk:R0 2147483647 16 2=true:=by decide +kernel
  exact M3 _ 16 2 hk d h2 (by have:d < 46341:=sq_lt (Nat.lt_of_le_of_lt hd (by decide)); omega)
theorem least (Q:Nat → Prop):∀ n,Q n → ∃ m,Q m ∧ ∀ k,k < m → ¬ Q k:=by
  intro n
  induction n using Nat.strongRecOn with
  | _ n ih =>
  intro h
  by_cases c:∃ k,k < n ∧ Q k
  · obtain ⟨k,hk,hq⟩:=c
    exact ih k hk hq
  · exact ⟨n,h,fun k hk hq => c ⟨k,hk,hq⟩⟩
theorem pigeon:∀ (g n:Nat) (f:Nat → Nat),(∀ i,i < n → f i < g) → (∀ i j,i < j → j < n → f i ≠ f j) → n ≤ g
  | 0,n,f,h,_ => by
    rcases Nat.eq_zero_or_pos n with h0|h0
    · omega
    · exact absurd (h 0 h0) (by omega)
  | g + 1,n,f,h,hd => by
    by_cases c:∃ i,i < n ∧ f i=g
    · obtain ⟨i,hi,he⟩:=c
      have:=pigeon g (n - 1) (fun j => if j < i then f j else f (j + 1)) (fun j hj => by
        by_cases e:j < i
        · simp only [if_pos e]
          have h1:=h j (by omega)
          have h2:=hd j i e hi
          omega
        · simp only [if_neg e]
          have h1:=h (j + 1) (by omega)
          have h2:=hd i (j + 1) (by omega) (by omega)
          omega) (fun j k hjk hk => by
        by_cases e:j < i
        · by_cases e2:k < i
          · simp only [if_pos e,if_pos e2]; exact hd j k hjk (by omega)
          · simp only [if_pos e,if_neg e2]; exact hd j (k + 1) (by omega) (by omega)
        · simp only [if_neg e,if_neg (show ¬ k < i by omega)]; exact hd (j + 1) (k + 1) (by omega) (by omega))
      omega
    · have:=pigeon g n f (fun i hi => by
        have h1:=h i hi
        have h2:f i ≠ g:=fun e => c ⟨i,hi,e⟩
        omega) hd
      omega
theorem Th (a n:Nat):∀ k,(a % n) ^ k % n=a ^ k % n
  | 0 => rfl
  | k + 1 => by rw [Nat.pow_succ,Nat.pow_succ,Nat.mul_mod,Th a n k,Nat.mod_mod,← Nat.mul_mod]
theorem lucas {n a:Nat} (hn:3 ≤ n) (L:List Nat) (h1:a ^ (n - 1) % n=1) (hL:∀ q ∈ L,∃ c,(a ^ ((n - 1) / q) % n + (n - 1)) * c % n=1) (hm:∀ m,m ∣ n - 1 → m ≠ 1 → ∃ q ∈ L,q ∣ m):Prm n:=by
  refine ⟨by omega,fun x x0 x1 => ?_⟩
  have d1:=Nat.gcd_dvd_left n x
  have d2:=Nat.gcd_dvd_right n x
  have gp:0 < Nat.gcd n x:=Nat.gcd_pos_of_pos_left _ (by omega)
  have gx:Nat.gcd n x ≤ x:=Nat.le_of_dvd x0 d2
  generalize Nat.gcd n x=g at *
  by_cases e:g=1
  · exact e
  exfalso
  have g2:2 ≤ g:=by omega
  have one:1 % g=1:=Nat.mod_eq_of_lt (by omega)
  have tog:∀ {y:Nat},y % n=1 → y % g=1:=by
    intro y hy
    rw [← Nat.mod_mod_of_dvd y d1,hy,one]
  have a1:=tog h1
  obtain ⟨d,⟨dp,hd⟩,dl⟩:=least (fun k => 0 < k ∧ a ^ k % g=1) (n - 1) ⟨by omega,a1⟩
  have mul1:∀ {u v:Nat},u % g=1 → u * v % g=v % g:=fun {u v} hu => by rw [Nat.mul_mod,hu,Nat.one_mul,Nat.mod_mod]
  have powd:∀ k,a ^ (d * k) % g=1:=by
    intro k
    rw [Nat.pow_mul,← Th,hd,Nat.one_pow,one]
  have dd:d ∣ n - 1:=by
    have e1:=Nat.div_add_mod (n - 1) d
    have:a ^ ((n - 1) % d) % g=1:=by
      have h:=a1
      rw [← e1,Nat.pow_add,mul1 (powd _)] at h
      exact h
    by_cases z:(n - 1) % d=0
    · exact Nat.dvd_of_mod_eq_zero z
    · exact absurd ⟨by omega,this⟩ (dl _ (Nat.mod_lt _ dp))
  obtain ⟨m,hmd⟩:=dd
  have m1:m=1:=by
    by_cases m1:m=1
    · exact m1
    exfalso
    obtain ⟨q,hq,⟨s,hs⟩⟩:=hm m ⟨d,by rw [hmd,Nat.mul_comm]⟩ m1
    have q0:0 < q:=by
      rcases Nat.eq_zero_or_pos q with h|h
      · subst h; rw [hs,Nat.zero_mul,Nat.mul_zero] at hmd; omega
      · exact h
    obtain ⟨c,hc⟩:=hL q hq
    have e2:(n - 1) / q=d * s:=by
      rw [hmd,hs,show d * (q * s)=d * s * q by rw [Nat.mul_comm q s,Nat.mul_assoc],Nat.mul_div_cancel _ q0]
    rw [e2] at hc
    have h3:=tog hc
    obtain ⟨u,hu⟩:=d1
    have h4:(a ^ (d * s) % n + (n - 1)) % g=0:=by
      have h5:a ^ (d * s) % n % g=1:=by rw [Nat.mod_mod_of_dvd _ ⟨u,hu⟩]; exact powd s
      rw [Nat.add_mod,h5]
      have h6:(n - 1) % g=g - 1:=by
        have u0:0 < u:=by
          rcases Nat.eq_zero_or_pos u with h|h
          · subst h; omega
          · exact h
        obtain ⟨w,rfl⟩:∃ w,u=w + 1:=⟨u - 1,by omega⟩
        rw [show n - 1=g - 1 + g * w by rw [hu,Nat.mul_succ]; omega,Nat.add_mul_mod_self_left]
        exact Nat.mod_eq_of_lt (by omega)
      rw [h6,show 1 + (g - 1)=g by omega,Nat.mod_self]
    rw [Nat.mul_mod,h4,Nat.zero_mul,Nat.zero_mod] at h3
    omega
  have dn:d=n - 1:=by rw [hmd,m1,Nat.mul_one]
  have inj:∀ i j,i < j → j < n - 1 → a ^ i % g ≠ a ^ j % g:=by
    intro i j hij hj he
    have h7:a ^ (j - i) % g=1:=by
      have k1:a ^ (n - 1 - i) * a ^ i % g=1:=by rw [← Nat.pow_add,show n - 1 - i + i=n - 1 by omega]; exact a1
      have k2:a ^ (n - 1 - i) * a ^ j % g=a ^ (j - i) % g:=by
        rw [show j=i + (j - i) by omega,Nat.pow_add,← Nat.mul_assoc,mul1 k1,show i + (j - i) - i=j - i by omega]
      rw [← k2,Nat.mul_mod,← he,← Nat.mul_mod,k1]
    exact dl (j - i) (by omega) ⟨by omega,h7⟩
  have nz:∀ i,i < n - 1 → a ^ i % g ≠ 0:=by
    intro i hi h0
    have k1:a ^ (n - 1 - i) * a ^ i % g=1:=by rw [← Nat.pow_add,show n - 1 - i + i=n - 1 by omega]; exact a1
    rw [Nat.mul_mod,h0,Nat.mul_zero,Nat.zero_mod] at k1
    omega
  have:=pigeon (g - 1) (n - 1) (fun i => a ^ i % g - 1) (fun i hi => by have:=nz i hi; have:=Nat.mod_lt (a ^ i) gp; omega) (fun i j hij hj he => by
    have h8:=inj i j hij hj
    have h9:=nz i (by omega)
    have h10:=nz j hj
    omega)
  omega
def pm2 (n:Nat):Nat → Nat → Nat → Nat
  | 0,_,_ => 1 % n
  | k + 1,a,e => if e % 2=1 then a * pm2 n k (a * a % n) (e / 2) % n else pm2 n k (a * a % n) (e / 2)
theorem Xt (n:Nat):∀ (k a e:Nat),e < 2 ^ k → pm2 n k a e=a ^ e % n
  | 0, a, e, h => by obtain rfl : e = 0 := by omega
                     rfl
  | k + 1,a,e,h => by
    have h2:e / 2 < 2 ^ k:=by rw [Nat.pow_succ] at h; omega
    have e1:a ^ e=(a * a) ^ (e / 2) * a ^ (e % 2):=by
      rw [show a * a=a ^ 2 by rw [Nat.pow_succ,Nat.pow_succ,Nat.pow_zero,Nat.one_mul],← Nat.pow_mul,← Nat.pow_add]
      congr 1; omega
    rw [pm2,Xt n k _ _ h2,Th]
    rcases Nat.mod_two_eq_zero_or_one e with c|c
    · rw [if_neg (by omega),e1,c,Nat.pow_zero,Nat.mul_one]
    · rw [if_pos c,e1,c,Nat.pow_one,Nat.mul_comm,Nat.mod_mul_mod]
theorem Ae4 {q:Nat} (h:(List.range (q + 1)).all (fun d => d == 1 || d == q || q % d != 0)=true) (hq:2 ≤ q) {m:Nat} (hm:¬ q ∣ m):Nat.gcd m q=1:=by
  have d1:=Nat.gcd_dvd_left m q
  have d2:=Nat.gcd_dvd_right m q
  have:=List.all_eq_true.1 h (Nat.gcd m q) (List.mem_range.2 (by have:=Nat.le_of_dvd (by omega) d2; omega))
  simp only [Bool.or_eq_true,beq_iff_eq,bne_iff_ne] at this
  rcases this with (h1|h1)|h1
  · exact h1
  · exact absurd (h1 ▸ d1) hm
  · exact absurd (Nat.mod_eq_zero_of_dvd d2) h1
theorem lucas' {n a k:Nat} (hn:3 ≤ n) (hk:n ≤ 2 ^ k) (L:List (Nat × Nat)) (h1:pm2 n k a (n - 1)=1) (hL:L.all (fun w => (pm2 n k a ((n - 1) / w.1) + (n - 1)) * w.2 % n == 1)=true) (hm:∀ m,m ∣ n - 1 → m ≠ 1 → ∃ q ∈ L.map (·.1),q ∣ m):Prm n:=by
  refine lucas (a:=a) hn (L.map (·.1)) (by rw [← Xt n k _ _ (by omega)]; exact h1) (fun q hq => ?_) hm
  obtain ⟨w,hw,rfl⟩:=List.mem_map.1 hq
  refine ⟨w.2,?_⟩
  rw [← Xt n k _ _ (by have:=Nat.div_le_self (n - 1) w.1; omega)]
  have:=List.all_eq_true.1 hL w hw
  simpa using this
def wit61:List (Nat × Nat):=[(2,1152921504606846975),(3,212086872990781878),(5,1436392118636136522),(7,62135951423208583),(11,2117382201747708966),(13,1243296897272292213),(31,42235654463646013),(41,730874616585150915),(61,329365932848850065),(151,68233547637592170),(331,1960352316127796739),(1321,2165998172066445805)]
def fac61:List Nat:=wit61.map (·.1)
theorem prm61:Prm 2305843009213693951:=by
  refine lucas' (a:=37) (k:=62) (by decide) (by decide) wit61 (by decide +kernel) (by decide +kernel) ?_
  · intro m hm h1
    show ∃ q ∈ fac61,q ∣ m
    by_cases c:∃ q ∈ fac61,q ∣ m
    · exact c
    exfalso
    have cop:∀ q ∈ fac61,Nat.gcd m q=1:=by
      intro q hq
      have hn:¬ q ∣ m:=fun h => c ⟨q,hq,h⟩
      have hall:fac61.all (fun q => (List.range (q + 1)).all (fun d => d == 1 || d == q || q % d != 0) && decide (2 ≤ q))=true:=by decide +kernel
      have:=List.all_eq_true.1 hall q hq
      rw [Bool.and_eq_true,decide_eq_true_eq] at this
      exact Ae4 this.1 this.2 hn
    have e:(2305843009213693951 - 1:Nat)=2 * (3 * (3 * (5 * (5 * (7 * (11 * (13 * (31 * (41 * (61 * (151 * (331 * 1321)))))))))))):=by decide
    have cm:∀ {u v:Nat},Nat.gcd m u=1 → Nat.gcd m v=1 → Nat.gcd m (u * v)=1:=fun {u v} h1 h2 => Nat.Coprime.mul_right h1 h2
    have:Nat.gcd m (2305843009213693951 - 1)=1:=by
      rw [e]
      have k:=fun q hq => cop q hq
      exact cm (k 2 (by decide)) (cm (k 3 (by decide)) (cm (k 3 (by decide)) (cm (k 5 (by decide)) (cm (k 5 (by decide)) (cm (k 7 (by decide)) (cm (k 11 (by decide)) (cm (k 13 (by decide)) (cm (k 31 (by decide)) (cm (k 41 (by decide)) (cm (k 61 (by decide)) (cm (k 151 (by decide)) (cm (k 331 (by decide)) (k 1321 (by decide))))))))))))))
    rw [Nat.gcd_eq_left hm] at this
    exact h1 this
end Go.Proofs.Ythnfphgjfpcpbaa.TM
namespace Go.Proofs.Ythnfphgjfpcpbaa.TM
open Go Go.RowKit
theorem Kx {p a b:Int}:a % p=b % p ↔ (a - b) % p=0:=(Int.emod_eq_emod_iff_emod_sub_eq_zero)
theorem D4 {p a b c d:Int} (h1:a % p=b % p) (h2:c % p=d % p):a * c % p=b * d % p:=by rw [Int.mul_emod,h1,h2,← Int.mul_emod]
theorem Jk {p a b c d:Int} (h1:a % p=b % p) (h2:c % p=d % p):(a + c) % p=(b + d) % p:=by rw [Int.add_emod,h1,h2,← Int.add_emod]
theorem Jj {p a b c d:Int} (h1:a % p=b % p) (h2:c % p=d % p):(a - c) % p=(b - d) % p:=by rw [Int.sub_emod,h1,h2,← Int.sub_emod]
theorem Qx {p a b:Int} (h:a % p=0):a * b % p=0:=by rw [Int.mul_emod,h,Int.zero_mul,Int.zero_emod]
theorem N4 {p a b:Int} (h:b % p=0):a * b % p=0:=by rw [Int.mul_comm]; exact Qx h
theorem bezout (m n:Nat):∃ x y:Int,(m:Int) * x + (n:Int) * y=(Nat.gcd m n:Int):=by
  induction m,n using Nat.gcd.induction with
  | H0 n => exact ⟨0,1,by simp⟩
  | H1 m n hm ih =>
    obtain ⟨x,y,h⟩:=ih
    refine ⟨y - (n / m:Nat) * x,x,?_⟩
    rw [Nat.gcd_rec,← h]
    have e:(n:Int)=((n % m:Nat):Int) + (m:Int) * ((n / m:Nat):Int):=by have:=Nat.mod_add_div n m; omega
    rw [e]
    grind
theorem Ap7 {P:Nat} (hP:Prm P) {a:Int} (h:a % P ≠ 0):∃ b,a * b % P=1:=by
  have h2:=hP.1
  have hp:(0:Int) < P:=by omega
  have i1:=Int.emod_nonneg a (show (P:Int) ≠ 0 by omega)
  have i2:=Int.emod_lt_of_pos a hp
  have g:=hP.2 (a % P).toNat (by omega) (by omega)
  obtain ⟨x,y,hxy⟩:=bezout P (a % P).toNat
  rw [g,show ((a % P).toNat:Int)=a % P by omega] at hxy
  refine ⟨y,?_⟩
  have e:a * y % P=(a % P) * y % P:=D4 (Int.emod_emod_of_dvd a (Int.dvd_refl _)).symm rfl
  rw [e,show (a % P) * y=1 - P * x by rw [show ((1:Nat):Int)=1 from rfl] at hxy; omega,Int.sub_mul_emod_self_left]
  exact Int.emod_eq_of_lt (by omega) (by omega)
theorem Va {P:Nat} (hP:Prm P) {a b:Int} (h:a * b % P=0) (ha:a % P ≠ 0):b % P=0:=by
  obtain ⟨c,hc⟩:=Ap7 hP ha
  have e:c * (a * b) % P=b % P:=by
    rw [show c * (a * b)=(a * c) * b by rw [← Int.mul_assoc,Int.mul_comm c a]]
    rw [Int.mul_emod,hc,Int.one_mul,Int.emod_emod_of_dvd _ (Int.dvd_refl _)]
  rw [← e]; exact N4 h
theorem W7 {p:Int} {n:Nat} {f:Nat → Int} (h:∀ i,i < n → f i % p=0):B8 n f % p=0:=by
  rw [Dn (g:=fun _ => 0) (fun i hi => by rw [h i hi]; rfl),Ie]; rfl
theorem Rj {p:Int} {n k:Nat} {f:Nat → Int} (hk:k < n) (h:∀ i,i < n → i ≠ k → f i % p=0):B8 n f % p=f k % p:=by
  rw [← Dm f hk]
  refine Dn fun i hi => ?_
  by_cases e:i=k
  · rw [if_pos e]
  · rw [if_neg e,h i hi e]; rfl
theorem An5 {n c:Nat} (f x:Nat → Int) (d:Int) (hc:c < n):B8 n (fun j => f j * (if j=c then x j + d else x j))=B8 n (fun j => f j * x j) + f c * d:=by
  rw [← Dm (fun j => f j * d) hc,← Fg]
  refine By fun j _ => ?_
  split
  · rw [Int.mul_add]
  · omega
structure Cp (p:Int) (R C r:Nat) (A:Mx) (rw cw:Nat → Nat) (c u:Mx):Prop where
  rlt:∀ k,k < r → rw k < R
  rinc:∀ j k,j < k → k < r → rw j < rw k
  clt:∀ k,k < r → cw k < C
  upiv:∀ k,k < r → u k (cw k) % p ≠ 0
  uz:∀ j k,j < k → k < r → u k (cw j) % p=0
  uh:∀ k,k < r → ∀ j,j < cw k → u k j % p=0
  c1:∀ k,k < r → c (rw k) k % p=1
  cz:∀ k,k < r → ∀ i,i < rw k → c i k % p=0
  made:∀ i,i < R → ∀ j,j < C → A i j % p=B8 r (fun k => c i k * u k j) % p
def apX (C:Nat) (A:Mx) (x:Nat → Int):Nat → Int:=fun i => B8 C (fun j => A i j * x j)
theorem T7 (C:Nat) (A:Mx) (x y:Nat → Int) (i:Nat):apX C A (fun j => x j + y j) i=apX C A x i + apX C A y i:=by
  unfold apX; rw [← Fg]; exact By fun j _ => Int.mul_add ..
theorem Aa9 (C:Nat) (A:Mx) (x y:Nat → Int) (i:Nat):apX C A (fun j => x j - y j) i=apX C A x i - apX C A y i:=by
  unfold apX; rw [← An6]; exact By fun j _ => Int.mul_sub ..
theorem T6 {p:Int} {C:Nat} {A:Mx} {x y:Nat → Int} (h:∀ j,j < C → x j % p=y j % p) (i:Nat):apX C A x i % p=apX C A y i % p :=
  Dn fun j hj => D4 rfl (h j hj)
section
variable {P R C r:Nat} {A:Mx} {rw cw:Nat → Nat} {c u:Mx}
theorem Cp.cdis (H:Cp P R C r A rw cw c u) {j k:Nat} (hj:j < r) (hk:k < r) (e:cw j=cw k):j=k:=by
  rcases Nat.lt_trichotomy j k with h|h|h
  · exact absurd (e ▸ H.uz j k h hk) (H.upiv k hk)
  · exact h
  · exact absurd (e ▸ H.uz k j h hj) (H.upiv j hj)
theorem Cp.ap (H:Cp P R C r A rw cw c u) {x:Nat → Int} {i:Nat} (hi:i < R):apX C A x i % P=B8 r (fun k => c i k * apX C u x k) % P:=by
  unfold apX
  have e:B8 r (fun k => c i k * B8 C (fun j => u k j * x j))=B8 C (fun j => B8 r (fun k => c i k * u k j) * x j):=by
    rw [By fun k _ => (G8 C (c i k) (fun j => u k j * x j)).symm,If]
    refine By fun j _ => ?_
    rw [← Mv]
    exact By fun k _ => by rw [Int.mul_assoc]
  rw [e]
  exact Dn fun j hj => D4 (H.made i hi j hj) rfl
theorem Cp.usolve (hP:Prm P) (H:Cp P R C r A rw cw c u) (z x0:Nat → Int):∃ x:Nat → Int,(∀ j,(∀ k,k < r → j ≠ cw k) → x j=x0 j) ∧ ∀ k,k < r → apX C u x k % P=z k % P:=by
  have key:∀ d,d ≤ r → ∃ x:Nat → Int,(∀ j,(∀ k,k < r → j ≠ cw k) → x j=x0 j) ∧ ∀ k,r - d ≤ k → k < r → apX C u x k % P=z k % P:=by
    intro d
    induction d with
    | zero => exact fun _ => ⟨x0,fun _ _ => rfl,fun k h1 h2 => by omega⟩
    | succ d ih =>
      intro hd
      obtain ⟨x,h1,h2⟩:=ih (by omega)
      have hm:r - (d + 1) < r:=by omega
      obtain ⟨b,hb⟩:=Ap7 hP (H.upiv _ hm)
      obtain ⟨y,hy⟩:∃ y,apX C u x (r - (d + 1))=y:=⟨_,rfl⟩
      refine ⟨fun j => if j=cw (r - (d + 1)) then x j + b * (z (r - (d + 1)) - y) else x j,fun j hj => ?_,fun k h3 h4 => ?_⟩
      · simp only
        rw [if_neg (hj _ hm)]; exact h1 j hj
      · unfold apX
        rw [An5 _ _ _ (H.clt _ hm)]
        by_cases e:k=r - (d + 1)
        · subst e
          show (apX C u x _ + _) % _=_
          rw [hy,← Int.mul_assoc]
          have:(y + u (r - (d + 1)) (cw (r - (d + 1))) * b * (z (r - (d + 1)) - y)) % P=(y + 1 * (z (r - (d + 1)) - y)) % P:=Jk rfl (D4 (by rw [hb]; exact (Int.emod_eq_of_lt (by omega) (by have:=hP.1; omega)).symm) rfl)
          rw [this,Int.one_mul]; congr 1; omega
        · have h5:=h2 k (by omega) h4
          rw [← h5]
          show (apX C u x k + _) % _=_
          have h6:=H.uz (r - (d + 1)) k (by omega) h4
          rw [Int.add_emod,Qx h6,Int.add_zero,Int.emod_emod_of_dvd _ (Int.dvd_refl _)]
  obtain ⟨x,h1,h2⟩:=key r (Nat.le_refl _)
  exact ⟨x,h1,fun k hk => h2 k (by omega) hk⟩
theorem Cp.uinj (hP:Prm P) (H:Cp P R C r A rw cw c u) {x:Nat → Int} (h0:∀ j,j < C → (∀ k,k < r → j ≠ cw k) → x j % P=0) (h1:∀ k,k < r → apX C u x k % P=0):∀ j,j < C → x j % P=0:=by
  have key:∀ d k,d ≤ r → r - d ≤ k → k < r → x (cw k) % P=0:=by
    intro d
    induction d with
    | zero => intro k _ h1 h2; omega
    | succ d ih =>
      intro k hd h2 h3
      by_cases e:r - d ≤ k
      · exact ih k (by omega) e h3
      · have hk:k=r - (d + 1):=by omega
        have h4:=h1 k h3
        unfold apX at h4
        rw [Rj (H.clt k h3) (fun j hj hjk => ?_)] at h4
        · exact Va hP h4 (H.upiv k h3)
        · by_cases c1:∀ m,m < r → j ≠ cw m
          · exact N4 (h0 j hj c1)
          · have:∃ m,m < r ∧ j=cw m:=Classical.byContradiction fun hn => c1 fun m hm e => hn ⟨m,hm,e⟩
            obtain ⟨m,hm,rfl⟩:=this
            by_cases c2:m < k
            · exact Qx (H.uz m k c2 h3)
            · by_cases c3:m=k
              · subst c3; exact absurd rfl hjk
              · exact N4 (ih m (by omega) (by omega) hm)
  intro j hj
  by_cases c1:∀ m,m < r → j ≠ cw m
  · exact h0 j hj c1
  · have:∃ m,m < r ∧ j=cw m:=Classical.byContradiction fun hn => c1 fun m hm e => hn ⟨m,hm,e⟩
    obtain ⟨m,hm,rfl⟩:=this
    exact key r m (Nat.le_refl _) (by omega) hm
theorem Cp.cinj (H:Cp P R C r A rw cw c u) {z:Nat → Int} (h1:∀ m,m < r → B8 r (fun k => c (rw m) k * z k) % P=0):∀ k,k < r → z k % P=0:=by
  intro k
  induction k using Nat.strongRecOn with
  | _ k ih =>
  intro hk
  have h2:=h1 k hk
  rw [Rj hk (fun j hj hjk => ?_)] at h2
  · rw [Int.mul_emod,H.c1 k hk,Int.one_mul,Int.emod_emod_of_dvd _ (Int.dvd_refl _)] at h2
    exact h2
  · by_cases c:j < k
    · exact N4 (ih j c hj)
    · exact Qx (H.cz j hj _ (H.rinc k j (by omega) hj))
theorem Cp.ker (H:Cp P R C r A rw cw c u) {x:Nat → Int}:(∀ i,i < R → apX C A x i % P=0) ↔ ∀ k,k < r → apX C u x k % P=0:=by
  constructor
  · intro h
    exact H.cinj fun m hm => by rw [← H.ap (H.rlt m hm)]; exact h _ (H.rlt m hm)
  · intro h i hi
    rw [H.ap hi]
    exact W7 fun k hk => N4 (h k hk)
end
end Go.Proofs.Ythnfphgjfpcpbaa.TM
namespace Go.Proofs.Ythnfphgjfpcpbaa.TM
open Go Go.RowKit
attribute [local irreducible] K W Dg Effs Xg Xo Xr Xdg Xdo Xdr Xif CallsP CallR
def Ad9:Int → List Int → Int → Bool
  | _,[],_ => true
  | last,c::l,most => if c ≤ last ∨ most ≤ c then false else Ad9 c l most
end Go.Proofs.Ythnfphgjfpcpbaa.TM
namespace Go.Proofs.Ythnfphgjfpcpbaa.TM
open Go Go.RowKit
def sF (l:List Int):Nat → Bool
  | 0 => true
  | k + 1 => if l.getD (k + 1) 0 < l.getD k 0 then false else sF l k
def Bc1 (r:Nat) (b k v:List Int):Bool:=decide (b.length=r + 1) && (decide (b.getD 0 0=0) && (decide (b.getD r 0=k.length) && (sF b r && decide (k.length=v.length))))
end Go.Proofs.Ythnfphgjfpcpbaa.TM
namespace Go.Proofs.Ythnfphgjfpcpbaa.TM
open Go Go.RowKit
attribute [local irreducible] K W Dg Effs Xg Xo Xr Xdg Xdo Xdr Xif CallsP CallR
def Yl (p:Int) (a b:List Int):Int × Int:=if Fe p a && (Fe p b && decide (a.length=b.length)) then (D5 a b % p,0) else (0,1)
set_option maxRecDepth 10000 in
theorem Wd (p:Int) (a b:List Int) (ha:a.length ≤ maxLen) (hb:b.length ≤ maxLen) (wa:W64s a) (wb:W64s b):CallsP Try.prog 33 [u64 p,lu a,lu b] (.tup [u64 (Yl p a b).1,i64 (Yl p a b).2]):=by
  have r1:=Gg p a ha
  have r2:=Gg p b hb
  rw [B3] at ha hb
  unfold Yl
  cases h1:Fe p a with
  | false =>
    rw [h1] at r1
    refine Bj (n:=47) (m:=3) (rs:=[.tmp 6,.tmp 7]) Try.func33 rfl rfl rfl rfl (by decide) fun base => ?_
    repeat (first|((first|refine Bd rfl (by simp only [tys]) ?_|refine Bc rfl (by simp only [tys]) ?_); apply Exists.intro; apply And.intro; (focus (simp -dsimp only [simx,zzC,zzB,tys,ite_self,A8,A2,Ax,Aq,Ao,At,Az,Ac,A5,PV.sk,Ai,Ar,As,Ap,Ay,Ab,Aj,Am,A9,Value.oneCell',Ah,Ba,Aw,A4,A1,Al,An,Ae,Ak,isZ,A6,A3,Ad,Aa,Ag,A0,Af,↓reduceIte,reduceSub,reduceEqDiff,reduceAdd,reduceMul,reduceLT,reduceLeDiff,reduceToNat,reduceLE,Int.reduceLT,reduceNeg,reduceCtorEq,zzL,if_true,if_false] <;> rfl)); apply Exists.intro; apply And.intro; (focus (first|exact r1)))|refine Bg rfl ?_|refine Bb rfl ?_|refine ⟨(dxX (by kernel_rfl)),?_⟩|exact (dxX (by kernel_rfl))|simp -dsimp (maxSteps:=20000000) (disch:=omega) only [simx,zzC,zzB,tys,ite_self,A8,A2,Ax,Aq,Ao,At,Az,Ac,A5,PV.sk,Ai,Ar,As,Ap,Ay,Ab,Aj,Am,A9,Value.oneCell',Ah,Ba,Aw,A4,A1,Al,An,Ae,Ak,isZ,A6,A3,Ad,Aa,Ag,A0,Af,↓reduceIte,reduceSub,reduceEqDiff,reduceAdd,reduceMul,reduceLT,reduceLeDiff,reduceToNat,reduceLE,Int.reduceLT,reduceNeg,reduceCtorEq,zzR,gos,Int.reduceAdd,Int.reduceSub,Int.reduceMul,reduceEq])
  | true =>
    cases h2:Fe p b with
    | false =>
      rw [h1] at r1
      rw [h2] at r2
      refine Bj (n:=47) (m:=3) (rs:=[.tmp 6,.tmp 7]) Try.func33 rfl rfl rfl rfl (by decide) fun base => ?_
      repeat (first|((first|refine Bd rfl (by simp only [tys]) ?_|refine Bc rfl (by simp only [tys]) ?_); apply Exists.intro; apply And.intro; (focus (simp -dsimp only [simx,zzC,zzB,tys,ite_self,A8,A2,Ax,Aq,Ao,At,Az,Ac,A5,PV.sk,Ai,Ar,As,Ap,Ay,Ab,Aj,Am,A9,Value.oneCell',Ah,Ba,Aw,A4,A1,Al,An,Ae,Ak,isZ,A6,A3,Ad,Aa,Ag,A0,Af,↓reduceIte,reduceSub,reduceEqDiff,reduceAdd,reduceMul,reduceLT,reduceLeDiff,reduceToNat,reduceLE,Int.reduceLT,reduceNeg,reduceCtorEq,zzL,if_true,if_false] <;> rfl)); apply Exists.intro; apply And.intro; (focus (first|exact r1|exact r2)))|refine Bg rfl ?_|refine Bb rfl ?_|refine ⟨(dxX (by kernel_rfl)),?_⟩|exact (dxX (by kernel_rfl))|simp -dsimp (maxSteps:=20000000) (disch:=omega) only [simx,zzC,zzB,tys,ite_self,A8,A2,Ax,Aq,Ao,At,Az,Ac,A5,PV.sk,Ai,Ar,As,Ap,Ay,Ab,Aj,Am,A9,Value.oneCell',Ah,Ba,Aw,A4,A1,Al,An,Ae,Ak,isZ,A6,A3,Ad,Aa,Ag,A0,Af,↓reduceIte,reduceSub,reduceEqDiff,reduceAdd,reduceMul,reduceLT,reduceLeDiff,reduceToNat,reduceLE,Int.reduceLT,reduceNeg,reduceCtorEq,zzR,gos,Int.reduceAdd,Int.reduceSub,Int.reduceMul,reduceEq])
    | true =>
      rw [h1] at r1
      rw [h2] at r2
      by_cases c0:a.length=b.length
      · rw [Ei] at h1 h2
        obtain ⟨a1,p1,p2⟩:=h1
        have b1:=h2.1
        clear h2
        simp only [c0,decide_true,Bool.and_self,if_true]
        have c0':(a.length:Int)=(b.length:Int):=by omega
        have hp:Md p:=⟨p1,p2⟩
        refine Bj (n:=47) (m:=3) (rs:=[.tmp 6,.tmp 7]) Try.func33 rfl rfl rfl rfl (by decide) fun base => ?_
        repeat (first|((first|refine Bd rfl (by simp only [tys]) ?_|refine Bc rfl (by simp only [tys]) ?_); apply Exists.intro; apply And.intro; (focus (simp -dsimp only [simx,zzC,zzB,tys,ite_self,A8,A2,Ax,Aq,Ao,At,Az,Ac,A5,PV.sk,Ai,Ar,As,Ap,Ay,Ab,Aj,Am,A9,Value.oneCell',Ah,Ba,Aw,A4,A1,Al,An,Ae,Ak,isZ,A6,A3,Ad,Aa,Ag,A0,Af,↓reduceIte,reduceSub,reduceEqDiff,reduceAdd,reduceMul,reduceLT,reduceLeDiff,reduceToNat,reduceLE,Int.reduceLT,reduceNeg,reduceCtorEq,zzL,if_true,if_false] <;> rfl)); apply Exists.intro; apply And.intro; (focus (first|exact r1|exact r2)))|refine Bg rfl ?_|refine Bb rfl ?_|refine ⟨(dxX (by kernel_rfl)),?_⟩|exact (dxX (by kernel_rfl))|simp -dsimp (maxSteps:=20000000) (disch:=omega) only [simx,zzC,zzB,tys,ite_self,A8,A2,Ax,Aq,Ao,At,Az,Ac,A5,PV.sk,Ai,Ar,As,Ap,Ay,Ab,Aj,Am,A9,Value.oneCell',Ah,Ba,Aw,A4,A1,Al,An,Ae,Ak,isZ,A6,A3,Ad,Aa,Ag,A0,Af,↓reduceIte,reduceSub,reduceEqDiff,reduceAdd,reduceMul,reduceLT,reduceLeDiff,reduceToNat,reduceLE,Int.reduceLT,reduceNeg,reduceCtorEq,gos,Int.reduceAdd,Int.reduceSub,Int.reduceMul,reduceEq])
        refine B5 [0,2,8,28,29,30] [] (0) (a.length) (fun j => True) (fun j => [(8,u64 (D5 (a.take j) (b.take j) % p)),(30,i64 j)]) (fun j => Heap.none) ?_ ?_ ?_ ?_ ?_ (by decide) ?_
        · exact (Bl)
        · ((simp -dsimp (disch:=omega) only [simx,zzB,tys,ite_self,A8,A2,Ax,Aq,Ao,At,Az,Ac,A5,PV.sk,Ai,Ar,As,Ap,Ay,Ab,Aj,Am,A9,Value.oneCell',Ah,Ba,Aw,A4,A1,Al,An,Ae,Ak,isZ,A6,A3,Ad,Aa,Ag,A0,Af,↓reduceIte,reduceSub,reduceEqDiff,reduceAdd,reduceMul,reduceLT,reduceLeDiff,reduceToNat,reduceLE,Int.reduceLT,reduceNeg,reduceCtorEq,gos,Int.reduceAdd,Int.reduceSub,Int.reduceMul,reduceEq]) <;> first|rfl|simp [P9])
        · exact drop_nil _
        · omega
        · trivial
        · intro j hj _
          by_cases c:j < a.length
          · have c':j < b.length:=by omega
            have g1:a[j]?=some a[j]:=List.getElem?_eq_getElem c
            have g2:b[j]?=some b[j]:=List.getElem?_eq_getElem c'
            have i1:=Pz a1 wa (List.getElem_mem c)
            have i2:=Pz b1 wb (List.getElem_mem c')
            have i3:=E8 (p:=p) (a[j] * b[j]) (by omega)
            have i4:=E8 (p:=p) (D5 (a.take j) (b.take j)) (by omega)
            have d1:=Vk p _ _ hp i1 i2
            have d2:=Av8 p _ _ hp i4 i3
            have e:(D5 (a.take j) (b.take j) % p + a[j] * b[j] % p) % p=D5 (a.take (j + 1)) (b.take (j + 1)) % p:=by rw [Nb c c',Yx,Bc2]
            rw [e] at d2
            clear i1 i2 i3 i4
            repeat (first|((first|refine Bd rfl (by simp only [tys]) ?_|refine Bc rfl (by simp only [tys]) ?_); apply Exists.intro; apply And.intro; (focus (simp -dsimp only [simx,zzC,zzB,tys,ite_self,A8,A2,Ax,Aq,Ao,At,Az,Ac,A5,PV.sk,Ai,Ar,As,Ap,Ay,Ab,Aj,Am,A9,Value.oneCell',Ah,Ba,Aw,A4,A1,Al,An,Ae,Ak,isZ,A6,A3,Ad,Aa,Ag,A0,Af,↓reduceIte,reduceSub,reduceEqDiff,reduceAdd,reduceMul,reduceLT,reduceLeDiff,reduceToNat,reduceLE,Int.reduceLT,reduceNeg,reduceCtorEq,zzL,if_true,if_false] <;> rfl)); apply Exists.intro; apply And.intro; (focus (first|exact d1|exact d2)))|refine Bg rfl ?_|refine Bb rfl ?_|refine ⟨(dxX (by kernel_rfl)),?_⟩|exact (dxX (by kernel_rfl))|simp -dsimp (maxSteps:=20000000) (disch:=omega) only [simx,zzC,zzB,tys,ite_self,A8,A2,Ax,Aq,Ao,At,Az,Ac,A5,PV.sk,Ai,Ar,As,Ap,Ay,Ab,Aj,Am,A9,Value.oneCell',Ah,Ba,Aw,A4,A1,Al,An,Ae,Ak,isZ,A6,A3,Ad,Aa,Ag,A0,Af,↓reduceIte,reduceSub,reduceEqDiff,reduceAdd,reduceMul,reduceLT,reduceLeDiff,reduceToNat,reduceLE,Int.reduceLT,reduceNeg,reduceCtorEq,gos,Int.reduceAdd,Int.reduceSub,Int.reduceMul,reduceEq,c,c',g1,g2])
            exact ⟨c,(Bl),rfl,drop_nil _⟩
          · have hj:j=a.length:=by omega
            subst hj
            have e1:a.take b.length=a:=by rw [← c0]; exact List.take_length
            rw [c0]
            repeat (first|refine Bg rfl ?_|refine Bb rfl ?_|refine ⟨(dxX (by kernel_rfl)),?_⟩|exact (dxX (by kernel_rfl))|simp -dsimp (maxSteps:=20000000) (disch:=omega) only [simx,zzC,zzB,tys,ite_self,A8,A2,Ax,Aq,Ao,At,Az,Ac,A5,PV.sk,Ai,Ar,As,Ap,Ay,Ab,Aj,Am,A9,Value.oneCell',Ah,Ba,Aw,A4,A1,Al,An,Ae,Ak,isZ,A6,A3,Ad,Aa,Ag,A0,Af,↓reduceIte,reduceSub,reduceEqDiff,reduceAdd,reduceMul,reduceLT,reduceLeDiff,reduceToNat,reduceLE,Int.reduceLT,reduceNeg,reduceCtorEq,zzR,gos,Int.reduceAdd,Int.reduceSub,Int.reduceMul,reduceEq,List.take_length,e1])
      · have c0':¬ (a.length:Int)=(b.length:Int):=by omega
        refine Bj (n:=47) (m:=3) (rs:=[.tmp 6,.tmp 7]) Try.func33 rfl rfl rfl rfl (by decide) fun base => ?_
        repeat (first|((first|refine Bd rfl (by simp only [tys]) ?_|refine Bc rfl (by simp only [tys]) ?_); apply Exists.intro; apply And.intro; (focus (simp -dsimp only [simx,zzC,zzB,tys,ite_self,A8,A2,Ax,Aq,Ao,At,Az,Ac,A5,PV.sk,Ai,Ar,As,Ap,Ay,Ab,Aj,Am,A9,Value.oneCell',Ah,Ba,Aw,A4,A1,Al,An,Ae,Ak,isZ,A6,A3,Ad,Aa,Ag,A0,Af,↓reduceIte,reduceSub,reduceEqDiff,reduceAdd,reduceMul,reduceLT,reduceLeDiff,reduceToNat,reduceLE,Int.reduceLT,reduceNeg,reduceCtorEq,zzL,if_true,if_false] <;> rfl)); apply Exists.intro; apply And.intro; (focus (first|exact r1|exact r2)))|refine Bg rfl ?_|refine Bb rfl ?_|refine ⟨(dxX (by kernel_rfl)),?_⟩|exact (dxX (by kernel_rfl))|simp -dsimp (maxSteps:=20000000) (disch:=omega) only [simx,zzC,zzB,tys,ite_self,A8,A2,Ax,Aq,Ao,At,Az,Ac,A5,PV.sk,Ai,Ar,As,Ap,Ay,Ab,Aj,Am,A9,Value.oneCell',Ah,Ba,Aw,A4,A1,Al,An,Ae,Ak,isZ,A6,A3,Ad,Aa,Ag,A0,Af,↓reduceIte,reduceSub,reduceEqDiff,reduceAdd,reduceMul,reduceLT,reduceLeDiff,reduceToNat,reduceLE,Int.reduceLT,reduceNeg,reduceCtorEq,zzR,gos,Int.reduceAdd,Int.reduceSub,Int.reduceMul,reduceEq,c0])
end Go.Proofs.Ythnfphgjfpcpbaa.TM
namespace Go.Proofs.Ythnfphgjfpcpbaa.TM
open Go Go.RowKit
attribute [local irreducible] K W Dg Effs Xg Xo Xr Xdg Xdo Xdr Xif CallsP CallR
theorem Rn (n:Int):CallsP Try.prog 76 [i64 n] (bl (Fl n)):=by
  by_cases c1:1 ≤ n
  · by_cases c2:n ≤ 64
    · rw [show Fl n=true by simp [Fl,c1,c2]]
      refine Bj (n:=9) (m:=1) (rs:=[.tmp 2]) Try.func76 rfl rfl rfl rfl (by decide) fun base => ?_
      repeat (first|refine Bg rfl ?_|refine Bb rfl ?_|refine ⟨(dxX (by kernel_rfl)),?_⟩|exact (dxX (by kernel_rfl))|simp -dsimp (maxSteps:=20000000) (disch:=omega) only [simx,zzC,zzB,tys,ite_self,A8,A2,Ax,Aq,Ao,At,Az,Ac,A5,PV.sk,Ai,Ar,As,Ap,Ay,Ab,Aj,Am,A9,Value.oneCell',Ah,Ba,Aw,A4,A1,Al,An,Ae,Ak,isZ,A6,A3,Ad,Aa,Ag,A0,Af,↓reduceIte,reduceSub,reduceEqDiff,reduceAdd,reduceMul,reduceLT,reduceLeDiff,reduceToNat,reduceLE,Int.reduceLT,reduceNeg,reduceCtorEq,zzR,gos,Int.reduceAdd,Int.reduceSub,Int.reduceMul,reduceEq])
    · rw [show Fl n=false by simp [Fl,c2]]
      refine Bj (n:=9) (m:=1) (rs:=[.tmp 2]) Try.func76 rfl rfl rfl rfl (by decide) fun base => ?_
      repeat (first|refine Bg rfl ?_|refine Bb rfl ?_|refine ⟨(dxX (by kernel_rfl)),?_⟩|exact (dxX (by kernel_rfl))|simp -dsimp (maxSteps:=20000000) (disch:=omega) only [simx,zzC,zzB,tys,ite_self,A8,A2,Ax,Aq,Ao,At,Az,Ac,A5,PV.sk,Ai,Ar,As,Ap,Ay,Ab,Aj,Am,A9,Value.oneCell',Ah,Ba,Aw,A4,A1,Al,An,Ae,Ak,isZ,A6,A3,Ad,Aa,Ag,A0,Af,↓reduceIte,reduceSub,reduceEqDiff,reduceAdd,reduceMul,reduceLT,reduceLeDiff,reduceToNat,reduceLE,Int.reduceLT,reduceNeg,reduceCtorEq,zzR,gos,Int.reduceAdd,Int.reduceSub,Int.reduceMul,reduceEq])
  · rw [show Fl n=false by simp [Fl,c1]]
    refine Bj (n:=9) (m:=1) (rs:=[.tmp 2]) Try.func76 rfl rfl rfl rfl (by decide) fun base => ?_
    repeat (first|refine Bg rfl ?_|refine Bb rfl ?_|refine ⟨(dxX (by kernel_rfl)),?_⟩|exact (dxX (by kernel_rfl))|simp -dsimp (maxSteps:=20000000) (disch:=omega) only [simx,zzC,zzB,tys,ite_self,A8,A2,Ax,Aq,Ao,At,Az,Ac,A5,PV.sk,Ai,Ar,As,Ap,Ay,Ab,Aj,Am,A9,Value.oneCell',Ah,Ba,Aw,A4,A1,Al,An,Ae,Ak,isZ,A6,A3,Ad,Aa,Ag,A0,Af,↓reduceIte,reduceSub,reduceEqDiff,reduceAdd,reduceMul,reduceLT,reduceLeDiff,reduceToNat,reduceLE,Int.reduceLT,reduceNeg,reduceCtorEq,zzR,gos,Int.reduceAdd,Int.reduceSub,Int.reduceMul,reduceEq])
theorem Hv (p r c:Int) (l:List Int) (hl:l.length ≤ maxLen):CallsP Try.prog 28 [u64 p,C3 r c l] (bl (Ju p r c l)):=by
  have s1:=Rn r
  have s2:=Rn c
  have h:=Gg p l hl
  rw [B3] at hl
  unfold Ju
  cases h1:Fl r with
  | false =>
    rw [h1] at s1
    refine Bj (n:=30) (m:=2) (rs:=[.tmp 4]) Try.func28 rfl rfl rfl rfl (by decide) fun base => ?_
    repeat (first|((first|refine Bd rfl (by simp only [tys]) ?_|refine Bc rfl (by simp only [tys]) ?_); apply Exists.intro; apply And.intro; (focus (simp -dsimp only [simx,zzC,zzB,tys,ite_self,A8,A2,Ax,Aq,Ao,At,Az,Ac,A5,PV.sk,Ai,Ar,As,Ap,Ay,Ab,Aj,Am,A9,Value.oneCell',Ah,Ba,Aw,A4,A1,Al,An,Ae,Ak,isZ,A6,A3,Ad,Aa,Ag,A0,Af,↓reduceIte,reduceSub,reduceEqDiff,reduceAdd,reduceMul,reduceLT,reduceLeDiff,reduceToNat,reduceLE,Int.reduceLT,reduceNeg,reduceCtorEq,zzL,if_true,if_false] <;> rfl)); apply Exists.intro; apply And.intro; (focus (first|exact s1)))|refine Bg rfl ?_|refine Bb rfl ?_|refine ⟨(dxX (by kernel_rfl)),?_⟩|exact (dxX (by kernel_rfl))|simp -dsimp (maxSteps:=20000000) (disch:=omega) only [simx,zzC,zzB,tys,ite_self,A8,A2,Ax,Aq,Ao,At,Az,Ac,A5,PV.sk,Ai,Ar,As,Ap,Ay,Ab,Aj,Am,A9,Value.oneCell',Ah,Ba,Aw,A4,A1,Al,An,Ae,Ak,isZ,A6,A3,Ad,Aa,Ag,A0,Af,↓reduceIte,reduceSub,reduceEqDiff,reduceAdd,reduceMul,reduceLT,reduceLeDiff,reduceToNat,reduceLE,Int.reduceLT,reduceNeg,reduceCtorEq,zzR,gos,Int.reduceAdd,Int.reduceSub,Int.reduceMul,reduceEq])
  | true =>
    rw [h1] at s1
    cases h2:Fl c with
    | false =>
      rw [h2] at s2
      refine Bj (n:=30) (m:=2) (rs:=[.tmp 4]) Try.func28 rfl rfl rfl rfl (by decide) fun base => ?_
      repeat (first|((first|refine Bd rfl (by simp only [tys]) ?_|refine Bc rfl (by simp only [tys]) ?_); apply Exists.intro; apply And.intro; (focus (simp -dsimp only [simx,zzC,zzB,tys,ite_self,A8,A2,Ax,Aq,Ao,At,Az,Ac,A5,PV.sk,Ai,Ar,As,Ap,Ay,Ab,Aj,Am,A9,Value.oneCell',Ah,Ba,Aw,A4,A1,Al,An,Ae,Ak,isZ,A6,A3,Ad,Aa,Ag,A0,Af,↓reduceIte,reduceSub,reduceEqDiff,reduceAdd,reduceMul,reduceLT,reduceLeDiff,reduceToNat,reduceLE,Int.reduceLT,reduceNeg,reduceCtorEq,zzL,if_true,if_false] <;> rfl)); apply Exists.intro; apply And.intro; (focus (first|exact s1|exact s2)))|refine Bg rfl ?_|refine Bb rfl ?_|refine ⟨(dxX (by kernel_rfl)),?_⟩|exact (dxX (by kernel_rfl))|simp -dsimp (maxSteps:=20000000) (disch:=omega) only [simx,zzC,zzB,tys,ite_self,A8,A2,Ax,Aq,Ao,At,Az,Ac,A5,PV.sk,Ai,Ar,As,Ap,Ay,Ab,Aj,Am,A9,Value.oneCell',Ah,Ba,Aw,A4,A1,Al,An,Ae,Ak,isZ,A6,A3,Ad,Aa,Ag,A0,Af,↓reduceIte,reduceSub,reduceEqDiff,reduceAdd,reduceMul,reduceLT,reduceLeDiff,reduceToNat,reduceLE,Int.reduceLT,reduceNeg,reduceCtorEq,zzR,gos,Int.reduceAdd,Int.reduceSub,Int.reduceMul,reduceEq])
    | true =>
      rw [h2] at s2
      rw [J0] at h1 h2
      obtain ⟨a1,a2⟩:=h1
      obtain ⟨b1,b2⟩:=h2
      have m:=I5 (a:=r) (b:=c) (m:=64) (n:=64) (by omega) (by omega) a2 b2
      have e:IntKind.i64.wrap (r * c)=r * c:=Fa (by omega) (by omega)
      by_cases h3:(l.length:Int)=r * c
      · rw [decide_eq_true h3]
        refine Bj (n:=30) (m:=2) (rs:=[.tmp 4]) Try.func28 rfl rfl rfl rfl (by decide) fun base => ?_
        repeat (first|((first|refine Bd rfl (by simp only [tys]) ?_|refine Bc rfl (by simp only [tys]) ?_); apply Exists.intro; apply And.intro; (focus (simp -dsimp only [simx,zzC,zzB,tys,ite_self,A8,A2,Ax,Aq,Ao,At,Az,Ac,A5,PV.sk,Ai,Ar,As,Ap,Ay,Ab,Aj,Am,A9,Value.oneCell',Ah,Ba,Aw,A4,A1,Al,An,Ae,Ak,isZ,A6,A3,Ad,Aa,Ag,A0,Af,↓reduceIte,reduceSub,reduceEqDiff,reduceAdd,reduceMul,reduceLT,reduceLeDiff,reduceToNat,reduceLE,Int.reduceLT,reduceNeg,reduceCtorEq,zzL,if_true,if_false] <;> rfl)); apply Exists.intro; apply And.intro; (focus (first|exact s1|exact s2|exact h)))|refine Bg rfl ?_|refine Bb rfl ?_|refine ⟨(dxX (by kernel_rfl)),?_⟩|exact (dxX (by kernel_rfl))|simp -dsimp (maxSteps:=20000000) (disch:=omega) only [simx,zzC,zzB,tys,ite_self,A8,A2,Ax,Aq,Ao,At,Az,Ac,A5,PV.sk,Ai,Ar,As,Ap,Ay,Ab,Aj,Am,A9,Value.oneCell',Ah,Ba,Aw,A4,A1,Al,An,Ae,Ak,isZ,A6,A3,Ad,Aa,Ag,A0,Af,↓reduceIte,reduceSub,reduceEqDiff,reduceAdd,reduceMul,reduceLT,reduceLeDiff,reduceToNat,reduceLE,Int.reduceLT,reduceNeg,reduceCtorEq,zzR,gos,Int.reduceAdd,Int.reduceSub,Int.reduceMul,reduceEq,e])
      · rw [decide_eq_false h3]
        refine Bj (n:=30) (m:=2) (rs:=[.tmp 4]) Try.func28 rfl rfl rfl rfl (by decide) fun base => ?_
        repeat (first|((first|refine Bd rfl (by simp only [tys]) ?_|refine Bc rfl (by simp only [tys]) ?_); apply Exists.intro; apply And.intro; (focus (simp -dsimp only [simx,zzC,zzB,tys,ite_self,A8,A2,Ax,Aq,Ao,At,Az,Ac,A5,PV.sk,Ai,Ar,As,Ap,Ay,Ab,Aj,Am,A9,Value.oneCell',Ah,Ba,Aw,A4,A1,Al,An,Ae,Ak,isZ,A6,A3,Ad,Aa,Ag,A0,Af,↓reduceIte,reduceSub,reduceEqDiff,reduceAdd,reduceMul,reduceLT,reduceLeDiff,reduceToNat,reduceLE,Int.reduceLT,reduceNeg,reduceCtorEq,zzL,if_true,if_false] <;> rfl)); apply Exists.intro; apply And.intro; (focus (first|exact s1|exact s2|exact h)))|refine Bg rfl ?_|refine Bb rfl ?_|refine ⟨(dxX (by kernel_rfl)),?_⟩|exact (dxX (by kernel_rfl))|simp -dsimp (maxSteps:=20000000) (disch:=omega) only [simx,zzC,zzB,tys,ite_self,A8,A2,Ax,Aq,Ao,At,Az,Ac,A5,PV.sk,Ai,Ar,As,Ap,Ay,Ab,Aj,Am,A9,Value.oneCell',Ah,Ba,Aw,A4,A1,Al,An,Ae,Ak,isZ,A6,A3,Ad,Aa,Ag,A0,Af,↓reduceIte,reduceSub,reduceEqDiff,reduceAdd,reduceMul,reduceLT,reduceLeDiff,reduceToNat,reduceLE,Int.reduceLT,reduceNeg,reduceCtorEq,zzR,gos,Int.reduceAdd,Int.reduceSub,Int.reduceMul,reduceEq,e])
end Go.Proofs.Ythnfphgjfpcpbaa.TM
namespace Go.Proofs.Ythnfphgjfpcpbaa.TM
open Go Go.RowKit
theorem S6 {l:List Int}:∀ {n:Nat},sF l n=true → ∀ i,i < n → l.getD i 0 ≤ l.getD (i + 1) 0
  | 0,_,i,hi => by omega
  | n + 1,h,i,hi => by
    rw [sF] at h
    by_cases c:l.getD (n + 1) 0 < l.getD n 0
    · rw [if_pos c] at h; cases h
    · rw [if_neg c] at h
      by_cases e:i=n
      · subst e; omega
      · exact S6 h i (by omega)
theorem sF_lo {l:List Int} {n:Nat} (h:sF l n=true):∀ i,i ≤ n → l.getD 0 0 ≤ l.getD i 0
  | 0,_ => Int.le_refl _
  | i + 1,hi => Int.le_trans (sF_lo h i (by omega)) (S6 h i (by omega))
theorem sF_hi {l:List Int} {n:Nat} (h:sF l n=true):∀ d i,i + d=n → l.getD i 0 ≤ l.getD n 0
  | 0, i, hi => by have : i = n := by omega
                   subst this; exact Int.le_refl _
  | d + 1,i,hi => Int.le_trans (S6 h i (by omega)) (sF_hi h d (i + 1) (by omega))
def Hl (b k:List Int) (i:Nat):List Int:=(k.drop (b.getD i 0).toNat).take ((b.getD (i + 1) 0).toNat - (b.getD i 0).toNat)
theorem Ak1 {r:Nat} {b k v:List Int} (h:Bc1 r b k v=true) (i:Nat) (hi:i < r):∃ x y:Nat,b[i]?=some (x:Int) ∧ b[i + 1]?=some (y:Int) ∧ i < b.length ∧ i + 1 < b.length ∧ x ≤ y ∧ y ≤ k.length ∧ Hl b k i=(k.drop x).take (y - x):=by
  simp only [Bc1,Bool.and_eq_true,decide_eq_true_eq] at h
  obtain ⟨h1,h2,h3,h4,h5⟩:=h
  have a1:=S6 h4 i hi
  have a2:=sF_lo h4 i (by omega)
  have a3:=sF_hi h4 (r - (i + 1)) (i + 1) (by omega)
  rw [h2] at a2
  rw [h3] at a3
  have l1:i < b.length:=by omega
  have l2:i + 1 < b.length:=by omega
  obtain ⟨x,hx⟩:=Int.eq_ofNat_of_zero_le a2
  obtain ⟨y,hy⟩:=Int.eq_ofNat_of_zero_le (Int.le_trans a2 a1)
  refine ⟨x,y,?_,?_,l1,l2,by omega,by omega,?_⟩
  · rw [List.getElem?_eq_getElem l1,← hx,List.getD_eq_getElem?_getD,List.getElem?_eq_getElem l1]; rfl
  · rw [List.getElem?_eq_getElem l2,← hy,List.getD_eq_getElem?_getD,List.getElem?_eq_getElem l2]; rfl
  · unfold Hl; rw [hx,hy]; rfl
end Go.Proofs.Ythnfphgjfpcpbaa.TM
namespace Go.Proofs.Ythnfphgjfpcpbaa.TM
open Go
section
variable {P:Program} {C:B9} {h0:Heap} {base:Name} {Qf:Ex → List PV → Heap → Prop} {k:List It} {t:List PV} {h:Heap}
theorem Yy {r : Option Out} {out : Out} {d : Option Tmp} {p : Op} {nm : Name} {id : Nat} {ops : Array Oper} {ds : List (Option Tmp)} {i : Nat} {os : List Oper} {pf : XPf ops ds i os} {acc : List Keys} (hr : r = some out)
    (hk:K P C h0 base Qf (.xdops id ops ds i os pf ((Et out.ups,J9 nm p ((A8 p).map (St.opnd t)))::acc)::k) .normal (Cx t d out.val) (h.ups out.ups)):Xdr P C h0 base Qf r d p nm (mkD id ops ds i os pf) acc k t h:=by
  subst hr; exact hk
theorem Cg {d : Option Tmp} {p : Op} {nm : Name} {id : Nat} {ops : Array Oper} {ds : List (Option Tmp)} {i : Nat} {os : List Oper} {pf : XPf ops ds i os} {acc : List Keys} {s b : Name} {ty : TypeId} (e : TypeId) (zs : List Value) {n z : Nat} {cs : List IV} (xs : List IV) {fz : Bool}
    (he:Bw P ty=some e) (hz:B6 P e=some zs) (hzl:zs.length=z) (hz0:0 < z) (hn:cs.length=n * z) (hs:h s=if n=0 then none else some (.row false cs)) (hb:h b=some (.row fz xs)) (hx:xs.length=z)
    (hby:(n + 1) * P.bytesOf e ≤ 140737488355328) (hl:n + 1 ≤ maxLen)
    (hk:K P C h0 base Qf (.xdops id ops ds i os pf ((Et [(s,Box.row false (cs ++ xs))],J9 nm p ((A8 p).map (St.opnd t)))::acc)::k) .normal (Cx t d (rowP s z (n + 1) (cs ++ xs))) (h.put s (.row false (cs ++ xs)))) :
    Xdr P C h0 base Qf (Do P h s ty (rowP s z n cs) (.view b 0 z 1 z)) d p nm (mkD id ops ds i os pf) acc k t h:=by
  refine Yy (Lo he hz hzl hz0 hn hs rfl (m:=1) rfl (by decide) (xs:=xs) ?_ hby hl) hk
  simp only [SK.cells,hb,hx,Nat.zero_add,Nat.one_mul,Nat.le_refl,and_self,if_true,List.drop_zero]
  rw [← hx,List.take_length]
theorem Q5 {id : Nat} {ops : Array Oper} {ds : List (Option Tmp)} {i : Nat} {d : Option Tmp} {p : Op} {ty : TypeId} {ps : String} {af : Array Edge} {g0 : Option (Nat × Bool)} {os : List Oper} {pf : XPf ops ds i ({ dst := d, op := p, type := ty, pos := ps, after := af, guard := g0 } :: os)} {c : Call} {g : FuncId} {args : List PV} {v : PV} {h' : Heap}
    (hs:CallR P ((id,i)::base) g args h v h') (ho:p=.call c) (hcal:Db t c=some (g,args)) (he:A7 P g=true)
    (hk:K P (CallR P) h0 base Qf (.xops id ops (d::ds) (i + 1) os ⟨pf.h.step⟩::k) .normal (Cx t d v) h') :
    K P (CallR P) h0 base Qf (.xcall id ops ds i { dst:=d,op:=p,type:=ty,pos:=ps,after:=af,guard:=g0 } os pf::k) .normal t h :=
  K7 (i:=i) (ops:=ops) (id:=id) (os:=os) (o:={ dst:=d,op:=p,type:=ty,pos:=ps,after:=af,guard:=g0 }) hs ho hcal he hk
theorem Co (s:Name) (z:Nat) (cs:List IV) (ps:List PV):C2 (rowP s z 0 cs::ps)=C2 ps:=rfl
theorem Cn (s:Name) (z n:Nat) (cs:List IV) (ps:List PV):C2 (rowP s z (n + 1) cs::ps)=Dr s::C2 ps:=rfl
end
end Go.Proofs.Ythnfphgjfpcpbaa.TM
namespace Go.Proofs.Ythnfphgjfpcpbaa.TM
open Go Go.RowKit
theorem Hb (s:Name) (z:Nat) (cs:List IV) {n:Nat} (h:0 < n):rowP s z n cs=.view s 0 z n cs.length:=by
  obtain ⟨m,rfl⟩:∃ m,n=m + 1:=⟨n - 1,by omega⟩
  rfl
theorem Ge (h:Heap) (s:Name) (cs:List IV) {n:Nat} (hn:0 < n):C9 h s n cs=h.put s (.row false cs):=by
  obtain ⟨m,rfl⟩:∃ m,n=m + 1:=⟨n - 1,by omega⟩
  rfl
theorem Pa:∀ (l:List Int) (last most:Int),Ad9 last l most=true → ∀ c ∈ l,last < c ∧ c < most
  | [],_,_,_,c,hc => by simp at hc
  | a::l,last,most,h,c,hc => by
    rw [Ad9] at h
    by_cases e:a ≤ last ∨ most ≤ a
    · rw [if_pos e] at h; cases h
    · rw [if_neg e] at h
      rcases List.mem_cons.1 hc with rfl|hc
      · omega
      · have:=Pa l a most h c hc; omega
theorem Rv:∀ (l:List Int) (last most:Int),Ad9 last l most=true → ∀ i j,i < j → (hj:j < l.length) → l.getD i 0 < l.getD j 0
  | [],_,_,_,i,j,_,hj => by simp at hj
  | a::l,last,most,h,i,j,hij,hj => by
    rw [Ad9] at h
    by_cases e:a ≤ last ∨ most ≤ a
    · rw [if_pos e] at h; cases h
    · rw [if_neg e] at h
      obtain ⟨m,rfl⟩:∃ m,j=m + 1:=⟨j - 1,by omega⟩
      have hm:m < l.length:=by simpa using hj
      have:=Pa l a most h (l.getD m 0) (by rw [List.getD_eq_getElem?_getD,List.getElem?_eq_getElem hm]; exact List.getElem_mem hm)
      cases i with
      | zero => simpa using this.1
      | succ i => simpa using Rv l a most h i m (by omega) hm
structure Sp (p:Int) (R C:Nat) (b k v:List Int):Prop where
  hp:Md p
  r1:1 ≤ R
  r2:R ≤ 64
  c1:1 ≤ C
  c2:C ≤ 64
  beg:Bc1 R b k v=true
  has:∀ a ∈ v,a < p
  nz:(0:Int) ∉ v
  ris:∀ i,i < R → Ad9 (-1) (Hl b k i) C=true
theorem Sp.vlen {p:Int} {R C:Nat} {b k v:List Int} (h:Sp p R C b k v):k.length=v.length:=by
  have:=h.beg
  simp only [Bc1,Bool.and_eq_true,decide_eq_true_eq] at this
  exact this.2.2.2.2
theorem Sp.row {p:Int} {R C:Nat} {b k v:List Int} (h:Sp p R C b k v) {i:Nat} (hi:i < R) :
    ∃ x y:Nat,b[i]?=some (x:Int) ∧ b[i + 1]?=some (y:Int) ∧ i < b.length ∧ i + 1 < b.length ∧ x ≤ y ∧ y ≤ k.length ∧ y ≤ v.length ∧ Hl b k i=(k.drop x).take (y - x) ∧ Hl b v i=(v.drop x).take (y - x) ∧ (Hl b k i).length=y - x ∧ (Hl b v i).length=y - x ∧
      (∀ c ∈ Hl b k i,0 ≤ c ∧ c < C) ∧ y - x ≤ C:=by
  obtain ⟨x,y,g1,g2,l1,l2,xy,yk,sg⟩:=Ak1 h.beg i hi
  have hv:=h.vlen
  have sv:Hl b v i=(v.drop x).take (y - x):=by
    unfold Hl
    rw [List.getD_eq_getElem?_getD,List.getD_eq_getElem?_getD,g1,g2]; rfl
  have ha:∀ c ∈ Hl b k i,0 ≤ c ∧ c < C:=by
    intro c hc
    have:=Pa _ _ _ (h.ris i hi) c hc
    omega
  have lk:(Hl b k i).length=y - x:=by rw [sg,List.length_take,List.length_drop]; omega
  refine ⟨x,y,g1,g2,l1,l2,xy,yk,by omega,sg,sv,lk,by rw [sv,List.length_take,List.length_drop]; omega,ha,?_⟩
  have up:∀ j,j < (Hl b k i).length → (j:Int) ≤ (Hl b k i).getD j 0:=by
    intro j
    induction j with
    | zero =>
      intro hj
      have:=ha _ (by rw [List.getD_eq_getElem?_getD,List.getElem?_eq_getElem hj]; exact List.getElem_mem hj:(Hl b k i).getD 0 0 ∈ Hl b k i)
      simpa using this.1
    | succ j ih =>
      intro hj
      have h1:=ih (by omega)
      have h2:=Rv _ _ _ (h.ris i hi) j (j + 1) (by omega) hj
      omega
  rw [← lk]
  by_cases e:(Hl b k i).length=0
  · omega
  · have h1:=up ((Hl b k i).length - 1) (by omega)
    have h2:=ha ((Hl b k i).getD ((Hl b k i).length - 1) 0) (by rw [List.getD_eq_getElem?_getD,List.getElem?_eq_getElem (show (Hl b k i).length - 1 < (Hl b k i).length by omega)]; exact List.getElem_mem _)
    omega
end Go.Proofs.Ythnfphgjfpcpbaa.TM
namespace Go.Proofs.Ythnfphgjfpcpbaa.TM
open Go Go.RowKit
attribute [local irreducible] K W Dg Effs Xg Xo Xr Xdg Xdo Xdr Xif CallsP CallR
theorem Ao6 {r c i:Nat} {l:List Int} (hl:l.length=r * c) (hr:r ≤ 64) (hc:c ≤ 64) (hi:i < r):CallsP Try.prog 80 [C3 r c l,i64 i] (lu (Df c l i)):=by
  have b1:=Fb (c:=c) hi
  have b2:=J4 hr hc
  have rl:=Gd hl hi
  have m0:i * c ≤ 4096:=by omega
  have m1:(i + 1) * c=i * c + c:=Nat.succ_mul i c
  have e1:IntKind.i64.wrap ((i:Int) * (c:Int))=((i * c:Nat):Int):=by rw [← Int.natCast_mul]; exact Fa (by omega) (by omega)
  have e2:IntKind.i64.wrap (((i:Int) + 1) * (c:Int))=((i * c + c:Nat):Int):=by
    rw [show ((i:Int) + 1) * (c:Int)=((i * c + c:Nat):Int) by rw [← m1]; push_cast; rfl]; exact Fa (by omega) (by omega)
  have e3:i * c + c - i * c=c:=by omega
  have e4:((l.map iu).drop (i * c)).take c=(Df c l i).map iu:=by unfold Df; rw [List.map_take,List.map_drop]
  have e5:i * c ≤ i * c + c:=by omega
  have e6:i * c + c ≤ l.length:=by omega
  refine Bj (n:=17) (m:=2) (rs:=[.tmp 4]) Try.func80 rfl rfl rfl rfl (by decide) fun base => ?_
  repeat (first|refine Bg rfl ?_|refine Bb rfl ?_|refine ⟨(dxX (by kernel_rfl)),?_⟩|exact (dxX (by kernel_rfl))|simp -dsimp (maxSteps:=20000000) (disch:=omega) only [simx,zzC,zzB,tys,ite_self,A8,A2,Ax,Aq,Ao,At,Az,Ac,A5,PV.sk,Ai,Ar,As,Ap,Ay,Ab,Aj,Am,A9,Value.oneCell',Ah,Ba,Aw,A4,A1,Al,An,Ae,Ak,isZ,A6,A3,Ad,Aa,Ag,A0,Af,↓reduceIte,reduceSub,reduceEqDiff,reduceAdd,reduceMul,reduceLT,reduceLeDiff,reduceToNat,reduceLE,Int.reduceLT,reduceNeg,reduceCtorEq,zzR,gos,Int.reduceAdd,Int.reduceSub,Int.reduceMul,reduceEq,e1,e2,e3,e4,e5,e6,List.length_map,lu,rl])
def Oz (p r c:Int) (l x:List Int):List Int × Int:=if Ju p r c l && (Fe p x && decide ((x.length:Int)=c)) then (Ea p r.toNat c.toNat l x,0) else ([],1)
set_option maxHeartbeats 4000000 in
theorem W2 (p r c:Int) (l x:List Int) (hl:l.length ≤ maxLen) (hx:x.length ≤ maxLen) (wl:W64s l) (wx:W64s x):CallsP Try.prog 31 [u64 p,C3 r c l,lu x] (.tup [lu (Oz p r c l x).1,i64 (Oz p r c l x).2]):=by
  have q1:=Hv p r c l hl
  have q2:=Gg p x hx
  unfold Oz
  cases h1:Ju p r c l with
  | false =>
    rw [h1] at q1
    refine Bj (n:=49) (m:=3) (rs:=[.tmp 6,.tmp 7]) Try.func31 rfl rfl rfl rfl (by decide) fun base => ?_
    repeat (first|((first|refine Bd rfl (by simp only [tys]) ?_|refine Bc rfl (by simp only [tys]) ?_); apply Exists.intro; apply And.intro; (focus (simp -dsimp only [simx,zzC,zzB,tys,ite_self,A8,A2,Ax,Aq,Ao,At,Az,Ac,A5,PV.sk,Ai,Ar,As,Ap,Ay,Ab,Aj,Am,A9,Value.oneCell',Ah,Ba,Aw,A4,A1,Al,An,Ae,Ak,isZ,A6,A3,Ad,Aa,Ag,A0,Af,↓reduceIte,reduceSub,reduceEqDiff,reduceAdd,reduceMul,reduceLT,reduceLeDiff,reduceToNat,reduceLE,Int.reduceLT,reduceNeg,reduceCtorEq,zzL,if_true,if_false] <;> rfl)); apply Exists.intro; apply And.intro; (focus (first|exact q1)))|refine Bg rfl ?_|refine Bb rfl ?_|refine ⟨(dxX (by kernel_rfl)),?_⟩|exact (dxX (by kernel_rfl))|simp -dsimp (maxSteps:=20000000) (disch:=omega) only [simx,zzC,zzB,tys,ite_self,A8,A2,Ax,Aq,Ao,At,Az,Ac,A5,PV.sk,Ai,Ar,As,Ap,Ay,Ab,Aj,Am,A9,Value.oneCell',Ah,Ba,Aw,A4,A1,Al,An,Ae,Ak,isZ,A6,A3,Ad,Aa,Ag,A0,Af,↓reduceIte,reduceSub,reduceEqDiff,reduceAdd,reduceMul,reduceLT,reduceLeDiff,reduceToNat,reduceLE,Int.reduceLT,reduceNeg,reduceCtorEq,zzR,gos,Int.reduceAdd,Int.reduceSub,Int.reduceMul,reduceEq])
    rfl
  | true =>
    rw [h1] at q1
    cases h2:Fe p x with
    | false =>
      rw [h2] at q2
      refine Bj (n:=49) (m:=3) (rs:=[.tmp 6,.tmp 7]) Try.func31 rfl rfl rfl rfl (by decide) fun base => ?_
      repeat (first|((first|refine Bd rfl (by simp only [tys]) ?_|refine Bc rfl (by simp only [tys]) ?_); apply Exists.intro; apply And.intro; (focus (simp -dsimp only [simx,zzC,zzB,tys,ite_self,A8,A2,Ax,Aq,Ao,At,Az,Ac,A5,PV.sk,Ai,Ar,As,Ap,Ay,Ab,Aj,Am,A9,Value.oneCell',Ah,Ba,Aw,A4,A1,Al,An,Ae,Ak,isZ,A6,A3,Ad,Aa,Ag,A0,Af,↓reduceIte,reduceSub,reduceEqDiff,reduceAdd,reduceMul,reduceLT,reduceLeDiff,reduceToNat,reduceLE,Int.reduceLT,reduceNeg,reduceCtorEq,zzL,if_true,if_false] <;> rfl)); apply Exists.intro; apply And.intro; (focus (first|exact q1|exact q2)))|refine Bg rfl ?_|refine Bb rfl ?_|refine ⟨(dxX (by kernel_rfl)),?_⟩|exact (dxX (by kernel_rfl))|simp -dsimp (maxSteps:=20000000) (disch:=omega) only [simx,zzC,zzB,tys,ite_self,A8,A2,Ax,Aq,Ao,At,Az,Ac,A5,PV.sk,Ai,Ar,As,Ap,Ay,Ab,Aj,Am,A9,Value.oneCell',Ah,Ba,Aw,A4,A1,Al,An,Ae,Ak,isZ,A6,A3,Ad,Aa,Ag,A0,Af,↓reduceIte,reduceSub,reduceEqDiff,reduceAdd,reduceMul,reduceLT,reduceLeDiff,reduceToNat,reduceLE,Int.reduceLT,reduceNeg,reduceCtorEq,zzR,gos,Int.reduceAdd,Int.reduceSub,Int.reduceMul,reduceEq])
      rfl
    | true =>
      rw [h2] at q2
      by_cases h3:(x.length:Int)=c
      · rw [decide_eq_true h3]
        obtain ⟨R,C,rfl,rfl,M⟩:=Ti h1
        have h3':x.length=C:=by omega
        simp only [Bool.and_self,if_true,Int.toNat_natCast]
        have r1:=M.r1
        have r2:=M.r2
        have p1:=M.hp.1
        unfold Ea
        refine Bj (n:=49) (m:=3) (rs:=[.tmp 6,.tmp 7]) Try.func31 rfl rfl rfl rfl (by decide) fun base => ?_
        repeat (first|((first|refine Bd rfl (by simp only [tys]) ?_|refine Bc rfl (by simp only [tys]) ?_); apply Exists.intro; apply And.intro; (focus (simp -dsimp only [simx,zzC,zzB,tys,ite_self,A8,A2,Ax,Aq,Ao,At,Az,Ac,A5,PV.sk,Ai,Ar,As,Ap,Ay,Ab,Aj,Am,A9,Value.oneCell',Ah,Ba,Aw,A4,A1,Al,An,Ae,Ak,isZ,A6,A3,Ad,Aa,Ag,A0,Af,↓reduceIte,reduceSub,reduceEqDiff,reduceAdd,reduceMul,reduceLT,reduceLeDiff,reduceToNat,reduceLE,Int.reduceLT,reduceNeg,reduceCtorEq,zzL,if_true,if_false] <;> rfl)); apply Exists.intro; apply And.intro; (focus (first|exact q1|exact q2)))|refine Bg rfl ?_|refine Bb rfl ?_|refine ⟨(dxX (by kernel_rfl)),?_⟩|exact (dxX (by kernel_rfl))|simp -dsimp (maxSteps:=20000000) (disch:=omega) only [simx,zzC,zzB,tys,ite_self,A8,A2,Ax,Aq,Ao,At,Az,Ac,A5,PV.sk,Ai,Ar,As,Ap,Ay,Ab,Aj,Am,A9,Value.oneCell',Ah,Ba,Aw,A4,A1,Al,An,Ae,Ak,isZ,A6,A3,Ad,Aa,Ag,A0,Af,↓reduceIte,reduceSub,reduceEqDiff,reduceAdd,reduceMul,reduceLT,reduceLeDiff,reduceToNat,reduceLE,Int.reduceLT,reduceNeg,reduceCtorEq,gos,Int.reduceAdd,Int.reduceSub,Int.reduceMul,reduceEq])
        refine B5 [0,2,4,8,30,31] [(8,2)::base] (0) (R) (fun j => True) (fun j => [(8,rowP ((8,3)::base) 1 j (((List.range j).map (fun i => D5 (Df C l i) x % p)).map iu)),(31,i64 j)]) (fun j => C9 (Heap.none.put ((0,0)::base) (.var [i64 R,i64 C,lu l])) ((8,3)::base) j (((List.range j).map (fun i => D5 (Df C l i) x % p)).map iu)) ?_ ?_ ?_ ?_ ?_ (by decide) ?_
        · exact (Bv (by simp only [Heap.none_at]) (by (simp -dsimp only [zzB,tys,ite_self,A8,A2,Ax,Aq,Ao,At,Az,Ac,A5,PV.sk,Ai,Ar,As,Ap,Ay,Ab,Aj,Am,A9,Value.oneCell',Ah,Ba,Aw,A4,A1,Al,An,Ae,Ak,isZ,A6,A3,Ad,Aa,Ag,A0,Af,↓reduceIte,reduceSub,reduceEqDiff,reduceAdd,reduceMul,reduceLT,reduceLeDiff,reduceToNat,reduceLE,Int.reduceLT,reduceNeg,reduceCtorEq,Bm,Bo]) <;> simp [Bs,Bn,Be]) (by repeat (first|exact Bx _|refine Bp ?_|refine B4 ?_|refine Bt ?_|refine Bu ?_ (by simp [Bs,Bn,Be]))) (Bl))
        · ((simp -dsimp (disch:=omega) only [simx,zzB,tys,ite_self,A8,A2,Ax,Aq,Ao,At,Az,Ac,A5,PV.sk,Ai,Ar,As,Ap,Ay,Ab,Aj,Am,A9,Value.oneCell',Ah,Ba,Aw,A4,A1,Al,An,Ae,Ak,isZ,A6,A3,Ad,Aa,Ag,A0,Af,↓reduceIte,reduceSub,reduceEqDiff,reduceAdd,reduceMul,reduceLT,reduceLeDiff,reduceToNat,reduceLE,Int.reduceLT,reduceNeg,reduceCtorEq,gos,Int.reduceAdd,Int.reduceSub,Int.reduceMul,reduceEq]) <;> first|rfl|simp [rowP])
        · funext c
          simp (maxSteps:=20000000) only [Heap.drop_at,Bh,Heap.put_at,Heap.none_at,List.mem_cons,List.not_mem_nil,or_false]
          by_cases e0:c=(0,0)::base
          · subst e0; simp []
          by_cases e1:c=(8,2)::base
          · subst e1; simp []
          simp [e0,e1]
        · omega
        · trivial
        · intro j hj _
          by_cases cj:j < R
          · have d1:=Ao6 M.len M.r2 M.c2 cj
            have rl:=Gd M.len cj
            have d2:=Wd p (Df C l j) x (by rw [rl,B3]; have:=M.c2; omega) hx (fun a ha => wl a (Hc ha)) wx
            rw [show Yl p (Df C l j) x=(D5 (Df C l j) x % p,0) by
              unfold Yl
              rw [show Fe p (Df C l j)=true from (Ei _ _).2 ⟨fun a ha => M.has a (Hc ha),M.hp.1,M.hp.2⟩,h2,decide_eq_true (show (Df C l j).length=x.length by omega)]; rfl] at d2
            have tk:=Nl (p:=p) (c:=C) (l:=l) (x:=x) cj
            repeat (first|((first|refine Bd rfl (by simp only [tys]) ?_|refine Bc rfl (by simp only [tys]) ?_); apply Exists.intro; apply And.intro; (focus (simp -dsimp only [simx,zzC,zzB,tys,ite_self,A8,A2,Ax,Aq,Ao,At,Az,Ac,A5,PV.sk,Ai,Ar,As,Ap,Ay,Ab,Aj,Am,A9,Value.oneCell',Ah,Ba,Aw,A4,A1,Al,An,Ae,Ak,isZ,A6,A3,Ad,Aa,Ag,A0,Af,↓reduceIte,reduceSub,reduceEqDiff,reduceAdd,reduceMul,reduceLT,reduceLeDiff,reduceToNat,reduceLE,Int.reduceLT,reduceNeg,reduceCtorEq,zzL,if_true,if_false] <;> rfl)); apply Exists.intro; apply And.intro; (focus (first|exact d1|exact d2)))|refine Bg rfl ?_|refine Bb rfl ?_|refine ⟨(dxX (by kernel_rfl)),?_⟩|exact (dxX (by kernel_rfl))|simp -dsimp (maxSteps:=20000000) (disch:=omega) only [simx,zzC,zzB,tys,ite_self,A8,A2,Ax,Aq,Ao,At,Az,Ac,A5,PV.sk,Ai,Ar,As,Ap,Ay,Ab,Aj,Am,A9,Value.oneCell',Ah,Ba,Aw,A4,A1,Al,An,Ae,Ak,isZ,A6,A3,Ad,Aa,Ag,A0,Af,↓reduceIte,reduceSub,reduceEqDiff,reduceAdd,reduceMul,reduceLT,reduceLeDiff,reduceToNat,reduceLE,Int.reduceLT,reduceNeg,reduceCtorEq,gos,Int.reduceAdd,Int.reduceSub,Int.reduceMul,reduceEq,cj])
            refine C4 22 [.int .u64 0] [iu (D5 (Df C l j) x % p)] (by simp only [tys]) (by simp only [tys]) rfl (by decide) (by simp) (by simp [Heap.put_at,Heap.none_at,Bh]) (by simp [Heap.put_at]; rfl) rfl (by simp only [tys]; omega) (by rw [B3]; omega) ?_
            repeat (first|refine Bg rfl ?_|refine Bb rfl ?_|refine ⟨(dxX (by kernel_rfl)),?_⟩|exact (dxX (by kernel_rfl))|simp -dsimp (maxSteps:=20000000) (disch:=omega) only [simx,zzC,zzB,tys,ite_self,A8,A2,Ax,Aq,Ao,At,Az,Ac,A5,PV.sk,Ai,Ar,As,Ap,Ay,Ab,Aj,Am,A9,Value.oneCell',Ah,Ba,Aw,A4,A1,Al,An,Ae,Ak,isZ,A6,A3,Ad,Aa,Ag,A0,Af,↓reduceIte,reduceSub,reduceEqDiff,reduceAdd,reduceMul,reduceLT,reduceLeDiff,reduceToNat,reduceLE,Int.reduceLT,reduceNeg,reduceCtorEq,gos,Int.reduceAdd,Int.reduceSub,Int.reduceMul,reduceEq,cj])
            refine ⟨cj,(Bv (by simp only [Heap.none_at]) (by (simp -dsimp only [zzB,tys,ite_self,A8,A2,Ax,Aq,Ao,At,Az,Ac,A5,PV.sk,Ai,Ar,As,Ap,Ay,Ab,Aj,Am,A9,Value.oneCell',Ah,Ba,Aw,A4,A1,Al,An,Ae,Ak,isZ,A6,A3,Ad,Aa,Ag,A0,Af,↓reduceIte,reduceSub,reduceEqDiff,reduceAdd,reduceMul,reduceLT,reduceLeDiff,reduceToNat,reduceLE,Int.reduceLT,reduceNeg,reduceCtorEq,Bm,Bo]) <;> simp [Bs,Bn,Be]) (by repeat (first|exact Bx _|refine Bp ?_|refine B4 ?_|refine Bt ?_|refine Bu ?_ (by simp [Bs,Bn,Be]))) (Bl)),⟨?_,rfl⟩,?_⟩
            · rw [tk]; simp
            · funext c
              simp (maxSteps:=20000000) only [Heap.drop_at,Bh,Heap.put_at,Heap.none_at,List.mem_cons,List.not_mem_nil,or_false]
              by_cases e0:c=(0,0)::base
              · subst e0; simp [tk]
              by_cases e1:c=(8,2)::base
              · subst e1; simp [tk]
              by_cases e2:c=(8,3)::base
              · subst e2; simp [tk]
              simp [e0,e1,e2,tk]
          · have hj:j=R:=by omega
            subst hj
            obtain ⟨s,rfl⟩:∃ s,j=s + 1:=⟨j - 1,by omega⟩
            have e2:(((List.range (s + 1)).map (fun i => D5 (Df C l i) x % p)).map iu).take (s + 1)=((List.range (s + 1)).map (fun i => D5 (Df C l i) x % p)).map iu:=List.take_of_length_le (by simp)
            repeat (first|refine Bg rfl ?_|refine Bb rfl ?_|refine ⟨(dxX (by kernel_rfl)),?_⟩|exact (dxX (by kernel_rfl))|simp -dsimp (maxSteps:=20000000) (disch:=omega) only [simx,zzC,zzB,tys,ite_self,A8,A2,Ax,Aq,Ao,At,Az,Ac,A5,PV.sk,Ai,Ar,As,Ap,Ay,Ab,Aj,Am,A9,Value.oneCell',Ah,Ba,Aw,A4,A1,Al,An,Ae,Ak,isZ,A6,A3,Ad,Aa,Ag,A0,Af,↓reduceIte,reduceSub,reduceEqDiff,reduceAdd,reduceMul,reduceLT,reduceLeDiff,reduceToNat,reduceLE,Int.reduceLT,reduceNeg,reduceCtorEq,zzR,gos,Int.reduceAdd,Int.reduceSub,Int.reduceMul,reduceEq,Bi,De,List.length_map,List.length_range,e2,lu])
      · rw [decide_eq_false h3]
        simp only [Bool.and_false,Bool.false_eq_true,if_false]
        refine Bj (n:=49) (m:=3) (rs:=[.tmp 6,.tmp 7]) Try.func31 rfl rfl rfl rfl (by decide) fun base => ?_
        repeat (first|((first|refine Bd rfl (by simp only [tys]) ?_|refine Bc rfl (by simp only [tys]) ?_); apply Exists.intro; apply And.intro; (focus (simp -dsimp only [simx,zzC,zzB,tys,ite_self,A8,A2,Ax,Aq,Ao,At,Az,Ac,A5,PV.sk,Ai,Ar,As,Ap,Ay,Ab,Aj,Am,A9,Value.oneCell',Ah,Ba,Aw,A4,A1,Al,An,Ae,Ak,isZ,A6,A3,Ad,Aa,Ag,A0,Af,↓reduceIte,reduceSub,reduceEqDiff,reduceAdd,reduceMul,reduceLT,reduceLeDiff,reduceToNat,reduceLE,Int.reduceLT,reduceNeg,reduceCtorEq,zzL,if_true,if_false] <;> rfl)); apply Exists.intro; apply And.intro; (focus (first|exact q1|exact q2)))|refine Bg rfl ?_|refine Bb rfl ?_|refine ⟨(dxX (by kernel_rfl)),?_⟩|exact (dxX (by kernel_rfl))|simp -dsimp (maxSteps:=20000000) (disch:=omega) only [simx,zzC,zzB,tys,ite_self,A8,A2,Ax,Aq,Ao,At,Az,Ac,A5,PV.sk,Ai,Ar,As,Ap,Ay,Ab,Aj,Am,A9,Value.oneCell',Ah,Ba,Aw,A4,A1,Al,An,Ae,Ak,isZ,A6,A3,Ad,Aa,Ag,A0,Af,↓reduceIte,reduceSub,reduceEqDiff,reduceAdd,reduceMul,reduceLT,reduceLeDiff,reduceToNat,reduceLE,Int.reduceLT,reduceNeg,reduceCtorEq,zzR,gos,Int.reduceAdd,Int.reduceSub,Int.reduceMul,reduceEq])
        rfl
end Go.Proofs.Ythnfphgjfpcpbaa.TM
namespace Go.Proofs.Ythnfphgjfpcpbaa.TM
open Go Go.RowKit
attribute [local irreducible] K W Dg Effs Xg Xo Xr Xdg Xdo Xdr Xif CallsP CallR
def Zl (p r c:Int) (l:List Int):(Int × Int × List Int) × Int:=if Ju p r c l then ((c,r,Ee r.toNat c.toNat l),0) else ((0,0,[]),1)
abbrev mat2 (q:(Int × Int × List Int) × Int):PV:=.tup [C3 q.1.1 q.1.2.1 q.1.2.2,i64 q.2]
set_option maxHeartbeats 2000000 in
theorem Ac1 (p r c:Int) (l:List Int) (hl:l.length ≤ maxLen):CallsP Try.prog 49 [u64 p,C3 r c l] (mat2 (Zl p r c l)):=by
  have q1:=Hv p r c l hl
  unfold Zl
  cases h1:Ju p r c l with
  | false =>
    rw [h1] at q1
    refine Bj (n:=49) (m:=2) (rs:=[.cell 4 25,.tmp 5]) Try.func49 rfl rfl rfl rfl (by decide) fun base => ?_
    repeat (first|((first|refine Bd rfl (by simp only [tys]) ?_|refine Bc rfl (by simp only [tys]) ?_); apply Exists.intro; apply And.intro; (focus (simp -dsimp only [simx,zzC,zzB,tys,ite_self,A8,A2,Ax,Aq,Ao,At,Az,Ac,A5,PV.sk,Ai,Ar,As,Ap,Ay,Ab,Aj,Am,A9,Value.oneCell',Ah,Ba,Aw,A4,A1,Al,An,Ae,Ak,isZ,A6,A3,Ad,Aa,Ag,A0,Af,↓reduceIte,reduceSub,reduceEqDiff,reduceAdd,reduceMul,reduceLT,reduceLeDiff,reduceToNat,reduceLE,Int.reduceLT,reduceNeg,reduceCtorEq,zzL,if_true,if_false] <;> rfl)); apply Exists.intro; apply And.intro; (focus (first|exact q1)))|refine Bg rfl ?_|refine Bb rfl ?_|refine ⟨(dxX (by kernel_rfl)),?_⟩|exact (dxX (by kernel_rfl))|simp -dsimp (maxSteps:=20000000) (disch:=omega) only [simx,zzC,zzB,tys,ite_self,A8,A2,Ax,Aq,Ao,At,Az,Ac,A5,PV.sk,Ai,Ar,As,Ap,Ay,Ab,Aj,Am,A9,Value.oneCell',Ah,Ba,Aw,A4,A1,Al,An,Ae,Ak,isZ,A6,A3,Ad,Aa,Ag,A0,Af,↓reduceIte,reduceSub,reduceEqDiff,reduceAdd,reduceMul,reduceLT,reduceLeDiff,reduceToNat,reduceLE,Int.reduceLT,reduceNeg,reduceCtorEq,zzR,gos,Int.reduceAdd,Int.reduceSub,Int.reduceMul,reduceEq])
    rfl
  | true =>
    rw [h1] at q1
    obtain ⟨R,C,rfl,rfl,M⟩:=Ti h1
    simp only [if_true,Int.toNat_natCast]
    have r1:=M.r1
    have r2:=M.r2
    have c1:=M.c1
    have c2:=M.c2
    have bd:=J4 r2 c2
    have len:=M.len
    have f1:l.length * 8 ≤ 140737488355328:=by omega
    have f2:l.length ≤ 140737488355328:=by omega
    have zf:List.map IV.v (Cc [Value.int .u64 0] l.length)=(E9 R C l 0).map iu:=by
      rw [Wx,len,Nat.mul_comm C R,List.map_replicate]
      induction R * C with
      | zero => rfl
      | succ n ih => rw [I0,List.map_append,ih]; rfl
    clear h1 hl
    refine Bj (n:=49) (m:=2) (rs:=[.cell 4 25,.tmp 5]) Try.func49 rfl rfl rfl rfl (by decide) fun base => ?_
    repeat (first|((first|refine Bd rfl (by simp only [tys]) ?_|refine Bc rfl (by simp only [tys]) ?_); apply Exists.intro; apply And.intro; (focus (simp -dsimp only [simx,zzC,zzB,tys,ite_self,A8,A2,Ax,Aq,Ao,At,Az,Ac,A5,PV.sk,Ai,Ar,As,Ap,Ay,Ab,Aj,Am,A9,Value.oneCell',Ah,Ba,Aw,A4,A1,Al,An,Ae,Ak,isZ,A6,A3,Ad,Aa,Ag,A0,Af,↓reduceIte,reduceSub,reduceEqDiff,reduceAdd,reduceMul,reduceLT,reduceLeDiff,reduceToNat,reduceLE,Int.reduceLT,reduceNeg,reduceCtorEq,zzL,if_true,if_false] <;> rfl)); apply Exists.intro; apply And.intro; (focus (first|exact q1)))|refine Bg rfl ?_|refine Bb rfl ?_|refine ⟨(dxX (by kernel_rfl)),?_⟩|exact (dxX (by kernel_rfl))|simp -dsimp (maxSteps:=20000000) (disch:=omega) only [simx,zzC,zzB,tys,ite_self,A8,A2,Ax,Aq,Ao,At,Az,Ac,A5,PV.sk,Ai,Ar,As,Ap,Ay,Ab,Aj,Am,A9,Value.oneCell',Ah,Ba,Aw,A4,A1,Al,An,Ae,Ak,isZ,A6,A3,Ad,Aa,Ag,A0,Af,↓reduceIte,reduceSub,reduceEqDiff,reduceAdd,reduceMul,reduceLT,reduceLeDiff,reduceToNat,reduceLE,Int.reduceLT,reduceNeg,reduceCtorEq,gos,Int.reduceAdd,Int.reduceSub,Int.reduceMul,reduceEq,zf,f1,f2])
    refine B5 [3,4,6,24,25,26] [] (0) (l.length) (fun j => True) (fun j => [(26,i64 j)]) (fun j => (((Heap.none.put ((0,0)::base) (.var [i64 R,i64 C,lu l])).put ((0,1)::base) (.var [i64 0,i64 0,Dk])).put ((3,7)::base) (.row false ((E9 R C l j).map iu))).put ((3,9)::base) (.var [i64 C,i64 R,.view ((3,7)::base) 0 1 l.length l.length])) ?_ ?_ ?_ ?_ ?_ (by decide) ?_
    · exact (Bl)
    · ((simp -dsimp (disch:=omega) only [simx,zzB,tys,ite_self,A8,A2,Ax,Aq,Ao,At,Az,Ac,A5,PV.sk,Ai,Ar,As,Ap,Ay,Ab,Aj,Am,A9,Value.oneCell',Ah,Ba,Aw,A4,A1,Al,An,Ae,Ak,isZ,A6,A3,Ad,Aa,Ag,A0,Af,↓reduceIte,reduceSub,reduceEqDiff,reduceAdd,reduceMul,reduceLT,reduceLeDiff,reduceToNat,reduceLE,Int.reduceLT,reduceNeg,reduceCtorEq,gos,Int.reduceAdd,Int.reduceSub,Int.reduceMul,reduceEq]) <;> first|rfl|simp)
    · funext c
      simp (maxSteps:=20000000) only [Heap.drop_at,Bh,Heap.put_at,Heap.none_at,List.mem_cons,List.not_mem_nil,or_false]
      by_cases e0:c=(0,0)::base
      · subst e0; simp [zf]
      by_cases e1:c=(0,1)::base
      · subst e1; simp [zf]
      by_cases e2:c=(3,7)::base
      · subst e2; simp [zf]
      by_cases e3:c=(3,9)::base
      · subst e3; simp [zf]
      simp [e0,e1,e2,e3,zf]
    · omega
    · trivial
    · intro j hj _
      by_cases cj:j < l.length
      · have g1:l[j]?=some l[j]:=List.getElem?_eq_getElem cj
        obtain ⟨d1,d2⟩:=Uk (r:=R) (c:=C) (j:=j) (by omega) (by omega)
        have nx:=Wy (r:=R) (c:=C) (j:=j) (l:=l) (by omega) (by omega) len (by omega)
        have m1:j % C < C:=Nat.mod_lt _ (by omega)
        have m2:=Fb (c:=R) m1
        have m3:C * R ≤ 4096:=J4 c2 r2
        have tl:(E9 R C l j).length=l.length:=by rw [Ib,len,Nat.mul_comm]
        have e1:(j:Int) % (C:Int)=((j % C:Nat):Int):=rfl
        have e2:IntKind.i64.wrap (((j % C:Nat):Int) * (R:Int))=((j % C * R:Nat):Int):=by rw [← Int.natCast_mul]; exact Fa (by omega) (by omega)
        have e3:(j:Int) / (C:Int)=((j / C:Nat):Int):=rfl
        have e4:IntKind.i64.wrap (((j % C * R:Nat):Int) + ((j / C:Nat):Int))=((j % C * R + j / C:Nat):Int):=by
          rw [← Int.natCast_add]
          generalize j % C * R + j / C=z at d1
          exact Fa (by omega) (by omega)
        have e5:IntKind.i64.wrap ((j / C:Nat):Int)=((j / C:Nat):Int):=by
          have:=Nat.div_le_self j C
          generalize j / C=z at this
          exact Fa (by omega) (by omega)
        have nx2:((E9 R C l j).map iu).take (j % C * R + j / C) ++ [iu l[j]] ++ ((E9 R C l j).map iu).drop (j % C * R + j / C + 1)=(E9 R C l (j + 1)).map iu:=by
          rw [← nx]; simp
        have d3:j % C * R + j / C < l.length:=by rw [len,Nat.mul_comm R C]; exact d1
        have d4:j % C * R + j / C + 1 ≤ l.length:=d3
        have cne:(C:Int) ≠ 0:=by omega
        have hj0:(0:Int) ≤ j:=by omega
        clear nx d1 d2 m1 m2 m3 bd zf
        repeat (first|refine Bg rfl ?_|refine Bb rfl ?_|refine ⟨(dxX (by kernel_rfl)),?_⟩|exact (dxX (by kernel_rfl))|simp -dsimp (maxSteps:=20000000) (disch:=omega) only [simx,zzC,zzB,tys,ite_self,A8,A2,Ax,Aq,Ao,At,Az,Ac,A5,PV.sk,Ai,Ar,As,Ap,Ay,Ab,Aj,Am,A9,Value.oneCell',Ah,Ba,Aw,A4,A1,Al,An,Ae,Ak,isZ,A6,A3,Ad,Aa,Ag,A0,Af,↓reduceIte,reduceSub,reduceEqDiff,reduceAdd,reduceMul,reduceLT,reduceLeDiff,reduceToNat,reduceLE,Int.reduceLT,reduceNeg,reduceCtorEq,gos,Int.reduceAdd,Int.reduceSub,Int.reduceMul,reduceEq,cj,g1,Sv hj0,Sw hj0,e1,e2,e3,e4,e5,nx2,d3,d4,cne,List.length_map,tl])
        refine ⟨cj,(Bl),rfl,?_⟩
        funext c
        simp (maxSteps:=20000000) only [Heap.drop_at,Bh,Heap.put_at,Heap.none_at,List.mem_cons,List.not_mem_nil,or_false]
        by_cases e0:c=(0,0)::base
        · subst e0; simp []
        by_cases e1:c=(0,1)::base
        · subst e1; simp []
        by_cases e2:c=(3,7)::base
        · subst e2; simp []
        by_cases e3:c=(3,9)::base
        · subst e3; simp []
        simp [e0,e1,e2,e3]
      · have hj:j=l.length:=by omega
        subst hj
        have tl:(E9 R C l l.length).length=l.length:=by rw [Ib,len,Nat.mul_comm]
        have e2:((E9 R C l l.length).map iu).take l.length=(E9 R C l l.length).map iu:=List.take_of_length_le (by rw [List.length_map,tl]; exact Nat.le_refl _)
        have e3:E9 R C l l.length=Ee R C l:=by rw [len]; exact Ac3 (by omega)
        have e4:=Gx R C l
        repeat (first|refine Bg rfl ?_|refine Bb rfl ?_|refine ⟨(dxX (by kernel_rfl)),?_⟩|exact (dxX (by kernel_rfl))|simp -dsimp (maxSteps:=20000000) (disch:=omega) only [simx,zzC,zzB,tys,ite_self,A8,A2,Ax,Aq,Ao,At,Az,Ac,A5,PV.sk,Ai,Ar,As,Ap,Ay,Ab,Aj,Am,A9,Value.oneCell',Ah,Ba,Aw,A4,A1,Al,An,Ae,Ak,isZ,A6,A3,Ad,Aa,Ag,A0,Af,↓reduceIte,reduceSub,reduceEqDiff,reduceAdd,reduceMul,reduceLT,reduceLeDiff,reduceToNat,reduceLE,Int.reduceLT,reduceNeg,reduceCtorEq,zzR,gos,Int.reduceAdd,Int.reduceSub,Int.reduceMul,reduceEq,e2,tl,List.length_map])
        rw [e3,show l.length=(Ee R C l).length by rw [e4,len,Nat.mul_comm]]
end Go.Proofs.Ythnfphgjfpcpbaa.TM
namespace Go.Proofs.Ythnfphgjfpcpbaa.TM
open Go Go.RowKit
attribute [local irreducible] K W Dg Effs Xg Xo Xr Xdg Xdo Xdr Xif CallsP CallR
def N6 (p a b v:Int):Int × Int:=if Fe p [a,b] then (v,0) else (0,1)
theorem has2 {p a b:Int} (h:Fe p [a,b]=true) (wa:W64 a) (wb:W64 b):Md p ∧ In p a ∧ In p b:=by
  obtain ⟨h1,h2,h3⟩:=(Ei p _).1 h
  exact ⟨⟨h2,h3⟩,⟨wa.1,h1 a (by simp)⟩,⟨wb.1,h1 b (by simp)⟩⟩
theorem Ay5 (p a b:Int) (wa:W64 a) (wb:W64 b):CallsP Try.prog 78 [u64 p,u64 a,u64 b,fnc 81] (.tup [u64 (N6 p a b (a * b % p)).1,i64 (N6 p a b (a * b % p)).2]):=by
  have q:=Gg p [a,b] (by rw [B3]; simp)
  unfold N6
  cases h:Fe p [a,b] with
  | false =>
    rw [h] at q
    refine Bj (n:=21) (m:=4) (rs:=[.tmp 8,.tmp 9]) Try.func78 rfl rfl rfl rfl (by decide) fun base => ?_
    repeat (first|((first|refine Bd rfl (by simp only [tys]) ?_|refine Bc rfl (by simp only [tys]) ?_); apply Exists.intro; apply And.intro; (focus (simp -dsimp only [simx,zzC,zzB,tys,ite_self,A8,A2,Ax,Aq,Ao,At,Az,Ac,A5,PV.sk,Ai,Ar,As,Ap,Ay,Ab,Aj,Am,A9,Value.oneCell',Ah,Ba,Aw,A4,A1,Al,An,Ae,Ak,isZ,A6,A3,Ad,Aa,Ag,A0,Af,↓reduceIte,reduceSub,reduceEqDiff,reduceAdd,reduceMul,reduceLT,reduceLeDiff,reduceToNat,reduceLE,Int.reduceLT,reduceNeg,reduceCtorEq,zzL,if_true,if_false] <;> rfl)); apply Exists.intro; apply And.intro; (focus (first|exact q)))|refine Bg rfl ?_|refine Bb rfl ?_|refine ⟨(dxX (by kernel_rfl)),?_⟩|exact (dxX (by kernel_rfl))|simp -dsimp (maxSteps:=20000000) (disch:=omega) only [simx,zzC,zzB,tys,ite_self,A8,A2,Ax,Aq,Ao,At,Az,Ac,A5,PV.sk,Ai,Ar,As,Ap,Ay,Ab,Aj,Am,A9,Value.oneCell',Ah,Ba,Aw,A4,A1,Al,An,Ae,Ak,isZ,A6,A3,Ad,Aa,Ag,A0,Af,↓reduceIte,reduceSub,reduceEqDiff,reduceAdd,reduceMul,reduceLT,reduceLeDiff,reduceToNat,reduceLE,Int.reduceLT,reduceNeg,reduceCtorEq,zzR,gos,Int.reduceAdd,Int.reduceSub,Int.reduceMul,reduceEq])
  | true =>
    rw [h] at q
    obtain ⟨h1,h2,h3⟩:=has2 h wa wb
    have d:=Vk p a b h1 h2 h3
    refine Bj (n:=21) (m:=4) (rs:=[.tmp 8,.tmp 9]) Try.func78 rfl rfl rfl rfl (by decide) fun base => ?_
    repeat (first|((first|refine Bd rfl (by simp only [tys]) ?_|refine Bc rfl (by simp only [tys]) ?_); apply Exists.intro; apply And.intro; (focus (simp -dsimp only [simx,zzC,zzB,tys,ite_self,A8,A2,Ax,Aq,Ao,At,Az,Ac,A5,PV.sk,Ai,Ar,As,Ap,Ay,Ab,Aj,Am,A9,Value.oneCell',Ah,Ba,Aw,A4,A1,Al,An,Ae,Ak,isZ,A6,A3,Ad,Aa,Ag,A0,Af,↓reduceIte,reduceSub,reduceEqDiff,reduceAdd,reduceMul,reduceLT,reduceLeDiff,reduceToNat,reduceLE,Int.reduceLT,reduceNeg,reduceCtorEq,zzL,if_true,if_false] <;> rfl)); apply Exists.intro; apply And.intro; (focus (first|exact q|exact d)))|(refine Fv rfl ?_; apply Exists.intro; apply And.intro; (focus (simp -dsimp only [simx,zzC,zzB,tys,ite_self,A8,A2,Ax,Aq,Ao,At,Az,Ac,A5,PV.sk,Ai,Ar,As,Ap,Ay,Ab,Aj,Am,A9,Value.oneCell',Ah,Ba,Aw,A4,A1,Al,An,Ae,Ak,isZ,A6,A3,Ad,Aa,Ag,A0,Af,↓reduceIte,reduceSub,reduceEqDiff,reduceAdd,reduceMul,reduceLT,reduceLeDiff,reduceToNat,reduceLE,Int.reduceLT,reduceNeg,reduceCtorEq,zzL,if_true,if_false] <;> rfl)); apply And.intro; (focus (first|simp only [tys]|exact such_enter _)); apply Exists.intro; apply And.intro; (focus (simp -dsimp only [simx,zzC,zzB,tys,ite_self,A8,A2,Ax,Aq,Ao,At,Az,Ac,A5,PV.sk,Ai,Ar,As,Ap,Ay,Ab,Aj,Am,A9,Value.oneCell',Ah,Ba,Aw,A4,A1,Al,An,Ae,Ak,isZ,A6,A3,Ad,Aa,Ag,A0,Af,↓reduceIte,reduceSub,reduceEqDiff,reduceAdd,reduceMul,reduceLT,reduceLeDiff,reduceToNat,reduceLE,Int.reduceLT,reduceNeg,reduceCtorEq,zzL,if_true,if_false] <;> rfl)); apply Exists.intro; apply And.intro; (focus (first|exact q|exact d)))|refine Bg rfl ?_|refine Bb rfl ?_|refine ⟨(dxX (by kernel_rfl)),?_⟩|exact (dxX (by kernel_rfl))|simp -dsimp (maxSteps:=20000000) (disch:=omega) only [simx,zzC,zzB,tys,ite_self,A8,A2,Ax,Aq,Ao,At,Az,Ac,A5,PV.sk,Ai,Ar,As,Ap,Ay,Ab,Aj,Am,A9,Value.oneCell',Ah,Ba,Aw,A4,A1,Al,An,Ae,Ak,isZ,A6,A3,Ad,Aa,Ag,A0,Af,↓reduceIte,reduceSub,reduceEqDiff,reduceAdd,reduceMul,reduceLT,reduceLeDiff,reduceToNat,reduceLE,Int.reduceLT,reduceNeg,reduceCtorEq,zzR,gos,Int.reduceAdd,Int.reduceSub,Int.reduceMul,reduceEq])
theorem Aw8 (p a b:Int) (wa:W64 a) (wb:W64 b):CallsP Try.prog 51 [u64 p,u64 a,u64 b] (.tup [u64 (N6 p a b (a * b % p)).1,i64 (N6 p a b (a * b % p)).2]):=by
  have q:=Ay5 p a b wa wb
  refine Bj (n:=14) (m:=3) (rs:=[.tmp 6,.tmp 7]) Try.func51 rfl rfl rfl rfl (by decide) fun base => ?_
  repeat (first|((first|refine Bd rfl (by simp only [tys]) ?_|refine Bc rfl (by simp only [tys]) ?_); apply Exists.intro; apply And.intro; (focus (simp -dsimp only [simx,zzC,zzB,tys,ite_self,A8,A2,Ax,Aq,Ao,At,Az,Ac,A5,PV.sk,Ai,Ar,As,Ap,Ay,Ab,Aj,Am,A9,Value.oneCell',Ah,Ba,Aw,A4,A1,Al,An,Ae,Ak,isZ,A6,A3,Ad,Aa,Ag,A0,Af,↓reduceIte,reduceSub,reduceEqDiff,reduceAdd,reduceMul,reduceLT,reduceLeDiff,reduceToNat,reduceLE,Int.reduceLT,reduceNeg,reduceCtorEq,zzL,if_true,if_false] <;> rfl)); apply Exists.intro; apply And.intro; (focus (first|exact q)))|refine Bg rfl ?_|refine Bb rfl ?_|refine ⟨(dxX (by kernel_rfl)),?_⟩|exact (dxX (by kernel_rfl))|simp -dsimp (maxSteps:=20000000) (disch:=omega) only [simx,zzC,zzB,tys,ite_self,A8,A2,Ax,Aq,Ao,At,Az,Ac,A5,PV.sk,Ai,Ar,As,Ap,Ay,Ab,Aj,Am,A9,Value.oneCell',Ah,Ba,Aw,A4,A1,Al,An,Ae,Ak,isZ,A6,A3,Ad,Aa,Ag,A0,Af,↓reduceIte,reduceSub,reduceEqDiff,reduceAdd,reduceMul,reduceLT,reduceLeDiff,reduceToNat,reduceLE,Int.reduceLT,reduceNeg,reduceCtorEq,zzR,gos,Int.reduceAdd,Int.reduceSub,Int.reduceMul,reduceEq])
end Go.Proofs.Ythnfphgjfpcpbaa.TM
namespace Go.Proofs.Ythnfphgjfpcpbaa.TM
open Go Go.RowKit
attribute [local irreducible] K W Dg Effs Xg Xo Xr Xdg Xdo Xdr Xif CallsP CallR
theorem G6 (p:Int) (r c:Nat) (l x:List Int):(Ea p r c l x).length=r:=by simp [Ea]
end Go.Proofs.Ythnfphgjfpcpbaa.TM
namespace Go.Proofs.Ythnfphgjfpcpbaa.TM
open Go Go.RowKit
attribute [local irreducible] K W Dg Effs Xg Xo Xr Xdg Xdo Xdr Xif CallsP CallR
theorem S8 (p r c:Int) (l:List Int) (hl:l.length ≤ maxLen):CallsP Try.prog 20 [u64 p,C3 r c l] (bl (Ju p r c l)):=by
  have h:=Rw p l hl
  rw [B3] at hl
  unfold Ju
  by_cases a1:1 ≤ r
  · by_cases a2:r ≤ 64
    · by_cases b1:1 ≤ c
      · by_cases b2:c ≤ 64
        · rw [(J0 r).2 ⟨a1,a2⟩,(J0 c).2 ⟨b1,b2⟩]
          have m:=I5 (a:=r) (b:=c) (m:=64) (n:=64) (by omega) (by omega) a2 b2
          have e:IntKind.i64.wrap (r * c)=r * c:=Fa (by omega) (by omega)
          by_cases h3:(l.length:Int)=r * c
          · rw [decide_eq_true h3]
            refine Bj (n:=40) (m:=2) (rs:=[.tmp 4]) Try.func20 rfl rfl rfl rfl (by decide) fun base => ?_
            repeat (first|((first|refine Bd rfl (by simp only [tys]) ?_|refine Bc rfl (by simp only [tys]) ?_); apply Exists.intro; apply And.intro; (focus (simp -dsimp only [simx,zzC,zzB,tys,ite_self,A8,A2,Ax,Aq,Ao,At,Az,Ac,A5,PV.sk,Ai,Ar,As,Ap,Ay,Ab,Aj,Am,A9,Value.oneCell',Ah,Ba,Aw,A4,A1,Al,An,Ae,Ak,isZ,A6,A3,Ad,Aa,Ag,A0,Af,↓reduceIte,reduceSub,reduceEqDiff,reduceAdd,reduceMul,reduceLT,reduceLeDiff,reduceToNat,reduceLE,Int.reduceLT,reduceNeg,reduceCtorEq,zzL,if_true,if_false] <;> rfl)); apply Exists.intro; apply And.intro; (focus (first|exact h)))|refine Bg rfl ?_|refine Bb rfl ?_|refine ⟨(dxX (by kernel_rfl)),?_⟩|exact (dxX (by kernel_rfl))|simp -dsimp (maxSteps:=20000000) (disch:=omega) only [simx,zzC,zzB,tys,ite_self,A8,A2,Ax,Aq,Ao,At,Az,Ac,A5,PV.sk,Ai,Ar,As,Ap,Ay,Ab,Aj,Am,A9,Value.oneCell',Ah,Ba,Aw,A4,A1,Al,An,Ae,Ak,isZ,A6,A3,Ad,Aa,Ag,A0,Af,↓reduceIte,reduceSub,reduceEqDiff,reduceAdd,reduceMul,reduceLT,reduceLeDiff,reduceToNat,reduceLE,Int.reduceLT,reduceNeg,reduceCtorEq,zzR,gos,Int.reduceAdd,Int.reduceSub,Int.reduceMul,reduceEq,e])
          · rw [decide_eq_false h3]
            refine Bj (n:=40) (m:=2) (rs:=[.tmp 4]) Try.func20 rfl rfl rfl rfl (by decide) fun base => ?_
            repeat (first|((first|refine Bd rfl (by simp only [tys]) ?_|refine Bc rfl (by simp only [tys]) ?_); apply Exists.intro; apply And.intro; (focus (simp -dsimp only [simx,zzC,zzB,tys,ite_self,A8,A2,Ax,Aq,Ao,At,Az,Ac,A5,PV.sk,Ai,Ar,As,Ap,Ay,Ab,Aj,Am,A9,Value.oneCell',Ah,Ba,Aw,A4,A1,Al,An,Ae,Ak,isZ,A6,A3,Ad,Aa,Ag,A0,Af,↓reduceIte,reduceSub,reduceEqDiff,reduceAdd,reduceMul,reduceLT,reduceLeDiff,reduceToNat,reduceLE,Int.reduceLT,reduceNeg,reduceCtorEq,zzL,if_true,if_false] <;> rfl)); apply Exists.intro; apply And.intro; (focus (first|exact h)))|refine Bg rfl ?_|refine Bb rfl ?_|refine ⟨(dxX (by kernel_rfl)),?_⟩|exact (dxX (by kernel_rfl))|simp -dsimp (maxSteps:=20000000) (disch:=omega) only [simx,zzC,zzB,tys,ite_self,A8,A2,Ax,Aq,Ao,At,Az,Ac,A5,PV.sk,Ai,Ar,As,Ap,Ay,Ab,Aj,Am,A9,Value.oneCell',Ah,Ba,Aw,A4,A1,Al,An,Ae,Ak,isZ,A6,A3,Ad,Aa,Ag,A0,Af,↓reduceIte,reduceSub,reduceEqDiff,reduceAdd,reduceMul,reduceLT,reduceLeDiff,reduceToNat,reduceLE,Int.reduceLT,reduceNeg,reduceCtorEq,zzR,gos,Int.reduceAdd,Int.reduceSub,Int.reduceMul,reduceEq,e])
        · rw [show Fl c=false by simp [Fl,b2]]
          refine Bj (n:=40) (m:=2) (rs:=[.tmp 4]) Try.func20 rfl rfl rfl rfl (by decide) fun base => ?_
          repeat (first|refine Bg rfl ?_|refine Bb rfl ?_|refine ⟨(dxX (by kernel_rfl)),?_⟩|exact (dxX (by kernel_rfl))|simp -dsimp (maxSteps:=20000000) (disch:=omega) only [simx,zzC,zzB,tys,ite_self,A8,A2,Ax,Aq,Ao,At,Az,Ac,A5,PV.sk,Ai,Ar,As,Ap,Ay,Ab,Aj,Am,A9,Value.oneCell',Ah,Ba,Aw,A4,A1,Al,An,Ae,Ak,isZ,A6,A3,Ad,Aa,Ag,A0,Af,↓reduceIte,reduceSub,reduceEqDiff,reduceAdd,reduceMul,reduceLT,reduceLeDiff,reduceToNat,reduceLE,Int.reduceLT,reduceNeg,reduceCtorEq,zzR,gos,Int.reduceAdd,Int.reduceSub,Int.reduceMul,reduceEq])
      · rw [show Fl c=false by simp [Fl,b1]]
        refine Bj (n:=40) (m:=2) (rs:=[.tmp 4]) Try.func20 rfl rfl rfl rfl (by decide) fun base => ?_
        repeat (first|refine Bg rfl ?_|refine Bb rfl ?_|refine ⟨(dxX (by kernel_rfl)),?_⟩|exact (dxX (by kernel_rfl))|simp -dsimp (maxSteps:=20000000) (disch:=omega) only [simx,zzC,zzB,tys,ite_self,A8,A2,Ax,Aq,Ao,At,Az,Ac,A5,PV.sk,Ai,Ar,As,Ap,Ay,Ab,Aj,Am,A9,Value.oneCell',Ah,Ba,Aw,A4,A1,Al,An,Ae,Ak,isZ,A6,A3,Ad,Aa,Ag,A0,Af,↓reduceIte,reduceSub,reduceEqDiff,reduceAdd,reduceMul,reduceLT,reduceLeDiff,reduceToNat,reduceLE,Int.reduceLT,reduceNeg,reduceCtorEq,zzR,gos,Int.reduceAdd,Int.reduceSub,Int.reduceMul,reduceEq])
    · rw [show Fl r=false by simp [Fl,a2]]
      refine Bj (n:=40) (m:=2) (rs:=[.tmp 4]) Try.func20 rfl rfl rfl rfl (by decide) fun base => ?_
      repeat (first|refine Bg rfl ?_|refine Bb rfl ?_|refine ⟨(dxX (by kernel_rfl)),?_⟩|exact (dxX (by kernel_rfl))|simp -dsimp (maxSteps:=20000000) (disch:=omega) only [simx,zzC,zzB,tys,ite_self,A8,A2,Ax,Aq,Ao,At,Az,Ac,A5,PV.sk,Ai,Ar,As,Ap,Ay,Ab,Aj,Am,A9,Value.oneCell',Ah,Ba,Aw,A4,A1,Al,An,Ae,Ak,isZ,A6,A3,Ad,Aa,Ag,A0,Af,↓reduceIte,reduceSub,reduceEqDiff,reduceAdd,reduceMul,reduceLT,reduceLeDiff,reduceToNat,reduceLE,Int.reduceLT,reduceNeg,reduceCtorEq,zzR,gos,Int.reduceAdd,Int.reduceSub,Int.reduceMul,reduceEq])
  · rw [show Fl r=false by simp [Fl,a1]]
    refine Bj (n:=40) (m:=2) (rs:=[.tmp 4]) Try.func20 rfl rfl rfl rfl (by decide) fun base => ?_
    repeat (first|refine Bg rfl ?_|refine Bb rfl ?_|refine ⟨(dxX (by kernel_rfl)),?_⟩|exact (dxX (by kernel_rfl))|simp -dsimp (maxSteps:=20000000) (disch:=omega) only [simx,zzC,zzB,tys,ite_self,A8,A2,Ax,Aq,Ao,At,Az,Ac,A5,PV.sk,Ai,Ar,As,Ap,Ay,Ab,Aj,Am,A9,Value.oneCell',Ah,Ba,Aw,A4,A1,Al,An,Ae,Ak,isZ,A6,A3,Ad,Aa,Ag,A0,Af,↓reduceIte,reduceSub,reduceEqDiff,reduceAdd,reduceMul,reduceLT,reduceLeDiff,reduceToNat,reduceLE,Int.reduceLT,reduceNeg,reduceCtorEq,zzR,gos,Int.reduceAdd,Int.reduceSub,Int.reduceMul,reduceEq])
theorem Kz {r c i k:Nat} {l:List Int} (hl:l.length=r * c) (hr:r ≤ 64) (hc:c ≤ 64) (hi:i < r) (hk:k < c):CallsP Try.prog 74 [C3 r c l,i64 i,i64 k] (u64 (l.getD (i * c + k) 0)):=by
  have b1:=Fb (c:=c) hi
  have b2:=J4 hr hc
  have e1:IntKind.i64.wrap ((i:Int) * (c:Int))=((i * c:Nat):Int):=by rw [← Int.natCast_mul]; exact Fa (by omega) (by omega)
  have e2:IntKind.i64.wrap (((i * c:Nat):Int) + (k:Int))=((i * c + k:Nat):Int):=by rw [← Int.natCast_add]; exact Fa (by omega) (by omega)
  have e3:i * c + k < l.length:=by omega
  have g:l[i * c + k]?=some l[i * c + k]:=List.getElem?_eq_getElem e3
  rw [List.getD_eq_getElem?_getD,g,Option.getD_some]
  refine Bj (n:=17) (m:=3) (rs:=[.tmp 6]) Try.func74 rfl rfl rfl rfl (by decide) fun base => ?_
  repeat (first|refine Bg rfl ?_|refine Bb rfl ?_|refine ⟨(dxX (by kernel_rfl)),?_⟩|exact (dxX (by kernel_rfl))|simp -dsimp (maxSteps:=20000000) (disch:=omega) only [simx,zzC,zzB,tys,ite_self,A8,A2,Ax,Aq,Ao,At,Az,Ac,A5,PV.sk,Ai,Ar,As,Ap,Ay,Ab,Aj,Am,A9,Value.oneCell',Ah,Ba,Aw,A4,A1,Al,An,Ae,Ak,isZ,A6,A3,Ad,Aa,Ag,A0,Af,↓reduceIte,reduceSub,reduceEqDiff,reduceAdd,reduceMul,reduceLT,reduceLeDiff,reduceToNat,reduceLE,Int.reduceLT,reduceNeg,reduceCtorEq,zzR,gos,Int.reduceAdd,Int.reduceSub,Int.reduceMul,reduceEq,e1,e2,e3,g])
end Go.Proofs.Ythnfphgjfpcpbaa.TM
namespace Go.Proofs.Ythnfphgjfpcpbaa.TM
open Go Go.RowKit
attribute [local irreducible] K W Dg Effs Xg Xo Xr Xdg Xdo Xdr Xif CallsP CallR
theorem Ao8 {r c i k:Nat} {l:List Int} (hl:l.length=r * c) (hi:i < r) (hk:k < c) (h:k < (Df c l i).length):(Df c l i)[k]=l.getD (i * c + k) 0:=by
  have b1:=Fb (c:=c) hi
  have e3:i * c + k < l.length:=by omega
  have g:(Df c l i)[k]?=l[i * c + k]?:=by unfold Df; rw [List.getElem?_take,if_pos hk,List.getElem?_drop]
  rw [List.getElem?_eq_getElem h,List.getElem?_eq_getElem e3] at g
  rw [List.getD_eq_getElem?_getD,List.getElem?_eq_getElem e3]
  exact Option.some.inj g
set_option maxHeartbeats 2000000 in
theorem Us {p:Int} {R C:Nat} {l x:List Int} (M:Mt p R C l) (wl:W64s l) (hx:∀ a ∈ x,a < p) (wx:W64s x) (lx:x.length=C) :
    CallsP Try.prog 70 [u64 p,C3 R C l,lu x] (lu (Ea p R C l x)):=by
  have r1:=M.r1
  have r2:=M.r2
  have c1:=M.c1
  have c2:=M.c2
  have p1:=M.hp.1
  unfold Ea
  refine Bj (n:=41) (m:=3) (rs:=[.tmp 6]) Try.func70 rfl rfl rfl rfl (by decide) fun base => ?_
  repeat (first|refine Bg rfl ?_|refine Bb rfl ?_|refine ⟨(dxX (by kernel_rfl)),?_⟩|exact (dxX (by kernel_rfl))|simp -dsimp (maxSteps:=20000000) (disch:=omega) only [simx,zzC,zzB,tys,ite_self,A8,A2,Ax,Aq,Ao,At,Az,Ac,A5,PV.sk,Ai,Ar,As,Ap,Ay,Ab,Aj,Am,A9,Value.oneCell',Ah,Ba,Aw,A4,A1,Al,An,Ae,Ak,isZ,A6,A3,Ad,Aa,Ag,A0,Af,↓reduceIte,reduceSub,reduceEqDiff,reduceAdd,reduceMul,reduceLT,reduceLeDiff,reduceToNat,reduceLE,Int.reduceLT,reduceNeg,reduceCtorEq,gos,Int.reduceAdd,Int.reduceSub,Int.reduceMul,reduceEq])
  refine B5 [0,2,4,7,8] [(10,2)::base] (0) (R) (fun j => True) (fun j => [(7,rowP ((10,3)::base) 1 j (((List.range j).map (fun i => D5 (Df C l i) x % p)).map iu)),(8,i64 j)]) (fun j => C9 (Heap.none.put ((0,0)::base) (.var [i64 R,i64 C,lu l])) ((10,3)::base) j (((List.range j).map (fun i => D5 (Df C l i) x % p)).map iu)) ?_ ?_ ?_ ?_ ?_ (by decide) ?_
  · exact (Bv (by simp only [Heap.none_at]) (by (simp -dsimp only [zzB,tys,ite_self,A8,A2,Ax,Aq,Ao,At,Az,Ac,A5,PV.sk,Ai,Ar,As,Ap,Ay,Ab,Aj,Am,A9,Value.oneCell',Ah,Ba,Aw,A4,A1,Al,An,Ae,Ak,isZ,A6,A3,Ad,Aa,Ag,A0,Af,↓reduceIte,reduceSub,reduceEqDiff,reduceAdd,reduceMul,reduceLT,reduceLeDiff,reduceToNat,reduceLE,Int.reduceLT,reduceNeg,reduceCtorEq,Bm,Bo]) <;> simp [Bs,Bn,Be]) (by repeat (first|exact Bx _|refine Bp ?_|refine B4 ?_|refine Bt ?_|refine Bu ?_ (by simp [Bs,Bn,Be]))) (Bl))
  · ((simp -dsimp (disch:=omega) only [simx,zzB,tys,ite_self,A8,A2,Ax,Aq,Ao,At,Az,Ac,A5,PV.sk,Ai,Ar,As,Ap,Ay,Ab,Aj,Am,A9,Value.oneCell',Ah,Ba,Aw,A4,A1,Al,An,Ae,Ak,isZ,A6,A3,Ad,Aa,Ag,A0,Af,↓reduceIte,reduceSub,reduceEqDiff,reduceAdd,reduceMul,reduceLT,reduceLeDiff,reduceToNat,reduceLE,Int.reduceLT,reduceNeg,reduceCtorEq,gos,Int.reduceAdd,Int.reduceSub,Int.reduceMul,reduceEq]) <;> first|rfl|simp [rowP])
  · funext c
    simp (maxSteps:=20000000) only [Heap.drop_at,Bh,Heap.put_at,Heap.none_at,List.mem_cons,List.not_mem_nil,or_false]
    by_cases e0:c=(0,0)::base
    · subst e0; simp []
    by_cases e1:c=(10,2)::base
    · subst e1; simp []
    simp [e0,e1]
  · omega
  · trivial
  · intro j hj _
    by_cases cj:j < R
    · have rl:=Gd M.len cj
      repeat (first|refine Bg rfl ?_|refine Bb rfl ?_|refine ⟨(dxX (by kernel_rfl)),?_⟩|exact (dxX (by kernel_rfl))|simp -dsimp (maxSteps:=20000000) (disch:=omega) only [simx,zzC,zzB,tys,ite_self,A8,A2,Ax,Aq,Ao,At,Az,Ac,A5,PV.sk,Ai,Ar,As,Ap,Ay,Ab,Aj,Am,A9,Value.oneCell',Ah,Ba,Aw,A4,A1,Al,An,Ae,Ak,isZ,A6,A3,Ad,Aa,Ag,A0,Af,↓reduceIte,reduceSub,reduceEqDiff,reduceAdd,reduceMul,reduceLT,reduceLeDiff,reduceToNat,reduceLE,Int.reduceLT,reduceNeg,reduceCtorEq,gos,Int.reduceAdd,Int.reduceSub,Int.reduceMul,reduceEq,cj])
      refine B5 [0,2,4,7,8,9,10] [] (0) (C) (fun j_ => True) (fun j_ => [(9,u64 (D5 ((Df C l j).take j_) (x.take j_) % p)),(10,i64 j_)]) (fun j_ => C9 (Heap.none.put ((0,0)::base) (.var [i64 R,i64 C,lu l])) ((10,3)::base) j (((List.range j).map (fun i => D5 (Df C l i) x % p)).map iu)) ?_ ?_ ?_ ?_ ?_ (by decide) ?_
      · exact (Bl)
      · ((simp -dsimp (disch:=omega) only [simx,zzB,tys,ite_self,A8,A2,Ax,Aq,Ao,At,Az,Ac,A5,PV.sk,Ai,Ar,As,Ap,Ay,Ab,Aj,Am,A9,Value.oneCell',Ah,Ba,Aw,A4,A1,Al,An,Ae,Ak,isZ,A6,A3,Ad,Aa,Ag,A0,Af,↓reduceIte,reduceSub,reduceEqDiff,reduceAdd,reduceMul,reduceLT,reduceLeDiff,reduceToNat,reduceLE,Int.reduceLT,reduceNeg,reduceCtorEq,gos,Int.reduceAdd,Int.reduceSub,Int.reduceMul,reduceEq]) <;> first|rfl|simp [P9])
      · exact drop_nil _
      · omega
      · trivial
      · intro m hm _
        by_cases cm:m < C
        · have m1:m < (Df C l j).length:=by omega
          have m2:m < x.length:=by omega
          have g2:x[m]?=some x[m]:=List.getElem?_eq_getElem m2
          have d1:=Kz M.len M.r2 M.c2 cj cm
          rw [← Ao8 M.len cj cm m1] at d1
          have i1:=Pz M.has wl (Hc (List.getElem_mem m1))
          have i2:=Pz hx wx (List.getElem_mem m2)
          have d2:=Ru p _ M.hp i1 x[m].toNat x[m] i2.1 (by have:=i2.2; have:=M.hp.2; omega) (Nat.le_refl _)
          have i3:=E8 (p:=p) ((Df C l j)[m] * x[m]) (by omega)
          have i4:=E8 (p:=p) (D5 ((Df C l j).take m) (x.take m)) (by omega)
          have d3:=Ik p _ _ M.hp i4 i3
          have e:(D5 ((Df C l j).take m) (x.take m) % p + (Df C l j)[m] * x[m] % p) % p=D5 ((Df C l j).take (m + 1)) (x.take (m + 1)) % p:=by rw [Nb m1 m2,Yx,Bc2]
          rw [e] at d3
          clear i1 i2 i3 i4 e
          repeat (first|((first|refine Bd rfl (by simp only [tys]) ?_|refine Bc rfl (by simp only [tys]) ?_); apply Exists.intro; apply And.intro; (focus (simp -dsimp only [simx,zzC,zzB,tys,ite_self,A8,A2,Ax,Aq,Ao,At,Az,Ac,A5,PV.sk,Ai,Ar,As,Ap,Ay,Ab,Aj,Am,A9,Value.oneCell',Ah,Ba,Aw,A4,A1,Al,An,Ae,Ak,isZ,A6,A3,Ad,Aa,Ag,A0,Af,↓reduceIte,reduceSub,reduceEqDiff,reduceAdd,reduceMul,reduceLT,reduceLeDiff,reduceToNat,reduceLE,Int.reduceLT,reduceNeg,reduceCtorEq,zzL,if_true,if_false] <;> rfl)); apply Exists.intro; apply And.intro; (focus (first|exact d1|exact d2|exact d3)))|refine Bg rfl ?_|refine Bb rfl ?_|refine ⟨(dxX (by kernel_rfl)),?_⟩|exact (dxX (by kernel_rfl))|simp -dsimp (maxSteps:=20000000) (disch:=omega) only [simx,zzC,zzB,tys,ite_self,A8,A2,Ax,Aq,Ao,At,Az,Ac,A5,PV.sk,Ai,Ar,As,Ap,Ay,Ab,Aj,Am,A9,Value.oneCell',Ah,Ba,Aw,A4,A1,Al,An,Ae,Ak,isZ,A6,A3,Ad,Aa,Ag,A0,Af,↓reduceIte,reduceSub,reduceEqDiff,reduceAdd,reduceMul,reduceLT,reduceLeDiff,reduceToNat,reduceLE,Int.reduceLT,reduceNeg,reduceCtorEq,gos,Int.reduceAdd,Int.reduceSub,Int.reduceMul,reduceEq,cm,m2,g2])
          exact ⟨cm,(Bl),rfl,drop_nil _⟩
        · have hm:m=C:=by omega
          subst hm
          have t1:(Df m l j).take m=Df m l j:=List.take_of_length_le (by omega)
          have t2:x.take m=x:=List.take_of_length_le (by omega)
          have tk:=Nl (p:=p) (c:=m) (l:=l) (x:=x) cj
          repeat (first|refine Bg rfl ?_|refine Bb rfl ?_|refine ⟨(dxX (by kernel_rfl)),?_⟩|exact (dxX (by kernel_rfl))|simp -dsimp (maxSteps:=20000000) (disch:=omega) only [simx,zzC,zzB,tys,ite_self,A8,A2,Ax,Aq,Ao,At,Az,Ac,A5,PV.sk,Ai,Ar,As,Ap,Ay,Ab,Aj,Am,A9,Value.oneCell',Ah,Ba,Aw,A4,A1,Al,An,Ae,Ak,isZ,A6,A3,Ad,Aa,Ag,A0,Af,↓reduceIte,reduceSub,reduceEqDiff,reduceAdd,reduceMul,reduceLT,reduceLeDiff,reduceToNat,reduceLE,Int.reduceLT,reduceNeg,reduceCtorEq,gos,Int.reduceAdd,Int.reduceSub,Int.reduceMul,reduceEq,t1,t2])
          refine C4 22 [.int .u64 0] [iu (D5 (Df m l j) x % p)] (by simp only [tys]) (by simp only [tys]) rfl (by decide) (by simp) (by simp [Heap.put_at,Heap.none_at,Bh]) (by simp [Heap.put_at]; rfl) rfl (by simp only [tys]; omega) (by rw [B3]; omega) ?_
          repeat (first|refine Bg rfl ?_|refine Bb rfl ?_|refine ⟨(dxX (by kernel_rfl)),?_⟩|exact (dxX (by kernel_rfl))|simp -dsimp (maxSteps:=20000000) (disch:=omega) only [simx,zzC,zzB,tys,ite_self,A8,A2,Ax,Aq,Ao,At,Az,Ac,A5,PV.sk,Ai,Ar,As,Ap,Ay,Ab,Aj,Am,A9,Value.oneCell',Ah,Ba,Aw,A4,A1,Al,An,Ae,Ak,isZ,A6,A3,Ad,Aa,Ag,A0,Af,↓reduceIte,reduceSub,reduceEqDiff,reduceAdd,reduceMul,reduceLT,reduceLeDiff,reduceToNat,reduceLE,Int.reduceLT,reduceNeg,reduceCtorEq,gos,Int.reduceAdd,Int.reduceSub,Int.reduceMul,reduceEq,cj])
          refine ⟨cj,(Bv (by simp only [Heap.none_at]) (by (simp -dsimp only [zzB,tys,ite_self,A8,A2,Ax,Aq,Ao,At,Az,Ac,A5,PV.sk,Ai,Ar,As,Ap,Ay,Ab,Aj,Am,A9,Value.oneCell',Ah,Ba,Aw,A4,A1,Al,An,Ae,Ak,isZ,A6,A3,Ad,Aa,Ag,A0,Af,↓reduceIte,reduceSub,reduceEqDiff,reduceAdd,reduceMul,reduceLT,reduceLeDiff,reduceToNat,reduceLE,Int.reduceLT,reduceNeg,reduceCtorEq,Bm,Bo]) <;> simp [Bs,Bn,Be]) (by repeat (first|exact Bx _|refine Bp ?_|refine B4 ?_|refine Bt ?_|refine Bu ?_ (by simp [Bs,Bn,Be]))) (Bl)),⟨?_,rfl⟩,?_⟩
          · rw [tk]; simp
          · funext c
            simp (maxSteps:=20000000) only [Heap.drop_at,Bh,Heap.put_at,Heap.none_at,List.mem_cons,List.not_mem_nil,or_false]
            by_cases e0:c=(0,0)::base
            · subst e0; simp [tk]
            by_cases e1:c=(10,2)::base
            · subst e1; simp [tk]
            by_cases e2:c=(10,3)::base
            · subst e2; simp [tk]
            simp [e0,e1,e2,tk]
    · have hj:j=R:=by omega
      subst hj
      obtain ⟨s,rfl⟩:∃ s,j=s + 1:=⟨j - 1,by omega⟩
      have e2:(((List.range (s + 1)).map (fun i => D5 (Df C l i) x % p)).map iu).take (s + 1)=((List.range (s + 1)).map (fun i => D5 (Df C l i) x % p)).map iu:=List.take_of_length_le (by simp)
      repeat (first|refine Bg rfl ?_|refine Bb rfl ?_|refine ⟨(dxX (by kernel_rfl)),?_⟩|exact (dxX (by kernel_rfl))|simp -dsimp (maxSteps:=20000000) (disch:=omega) only [simx,zzC,zzB,tys,ite_self,A8,A2,Ax,Aq,Ao,At,Az,Ac,A5,PV.sk,Ai,Ar,As,Ap,Ay,Ab,Aj,Am,A9,Value.oneCell',Ah,Ba,Aw,A4,A1,Al,An,Ae,Ak,isZ,A6,A3,Ad,Aa,Ag,A0,Af,↓reduceIte,reduceSub,reduceEqDiff,reduceAdd,reduceMul,reduceLT,reduceLeDiff,reduceToNat,reduceLE,Int.reduceLT,reduceNeg,reduceCtorEq,zzR,gos,Int.reduceAdd,Int.reduceSub,Int.reduceMul,reduceEq,Bi,De,List.length_map,List.length_range,e2,lu])
end Go.Proofs.Ythnfphgjfpcpbaa.TM
namespace Go.Proofs.Ythnfphgjfpcpbaa.TM
open Go Go.RowKit
attribute [local irreducible] K W Dg Effs Xg Xo Xr Xdg Xdo Xdr Xif CallsP CallR
def Ku (C:Nat) (l cols:List Int) (i:Int):List Int:=cols.map fun c => cl C l i.toNat c.toNat
def Ap8 (C:Nat) (l rows cols:List Int):List Int:=rows.flatMap (Ku C l cols)
end Go.Proofs.Ythnfphgjfpcpbaa.TM
namespace Go.Proofs.Ythnfphgjfpcpbaa.TM
open Go Go.RowKit
theorem O0 {p:Int} {r c:Nat} {l x:List Int} (hl:l.length=r * c) (hx:x.length=c) {i:Nat} (hi:i < r):(Ea p r c l x).getD i 0=B8 c (fun k => cl c l i k * x.getD k 0) % p:=by
  rw [W3 hl hx,Ct _ hi]
def Z4 (p:Int) (x:List Int) (r c:Nat) (l:List Int):List Int:=Ea p c r (Ee r c l) x
theorem Ah7 (p:Int) (x:List Int) (r c:Nat) (l:List Int):(Z4 p x r c l).length=c:=G6 ..
theorem Ah8 {p:Int} {r c:Nat} {l x:List Int} (hx:x.length=r) {k:Nat} (hk:k < c):(Z4 p x r c l).getD k 0=B8 r (fun i => x.getD i 0 * cl c l i k) % p:=by
  unfold Z4
  rw [O0 (Gx r c l) hx hk]
  congr 1
  apply By
  intro i hi
  rw [Of l hi hk,Int.mul_comm]
where pick_cell' (C:Nat) (l cols:List Int) {m:Nat} (hm:m < cols.length):∀ (rows:List Int) (j:Nat),j < rows.length → (Ap8 C l rows cols).getD (j * cols.length + m) 0=cl C l (rows.getD j 0).toNat (cols.getD m 0).toNat
  | [],j,h => by simp at h
  | i::rows,0,_ => by
    unfold Ap8
    rw [List.flatMap_cons,List.getD_eq_getElem?_getD,List.getElem?_append_left (by simp [Ku]; omega)]
    simp [Ku,List.getElem?_eq_getElem hm]
  | i::rows,j + 1,h => by
    have ih:=pick_cell' C l cols hm rows j (by simpa using h)
    unfold Ap8 at ih ⊢
    rw [List.flatMap_cons,List.getD_eq_getElem?_getD,List.getElem?_append_right (by simp [Ku,Nat.succ_mul]; omega)]
    rw [List.getD_eq_getElem?_getD] at ih
    rw [show (j + 1) * cols.length + m - (Ku C l cols i).length=j * cols.length + m by simp [Ku,Nat.succ_mul]; omega,ih]
    simp
end Go.Proofs.Ythnfphgjfpcpbaa.TM
namespace Go.Proofs.Ythnfphgjfpcpbaa.TM
open Go Go.RowKit
attribute [local irreducible] K W Dg Effs Xg Xo Xr Xdg Xdo Xdr Xif CallsP CallR
theorem Ms {l:List Int} {q:Nat} (h:q < l.length):l.take (q + 1)=l.take q ++ [l.getD q 0]:=by
  rw [List.take_succ_eq_append_getElem h,List.getD_eq_getElem?_getD,List.getElem?_eq_getElem h]; rfl
set_option maxHeartbeats 8000000 in
set_option maxRecDepth 100000 in
theorem Xd {p:Int} {R C:Nat} {l:List Int} (M:Mt p R C l):CallsP Try.prog 75 [C3 R C l] (C3 C R (Ee R C l)):=by
  have r1:=M.r1
  have r2:=M.r2
  have c1:=M.c1
  have c2:=M.c2
  have bd:=J4 c2 r2
  have lm:=Gx R C l
  have cell:∀ k i,k < C → i < R → (Ee R C l).getD (k * R + i) 0=l.getD (i * C + k) 0:=fun k i hk hi => Of l hi hk
  generalize Ee R C l=o at lm cell ⊢
  refine Bj (n:=33) (m:=1) (rs:=[.cell 2 25]) Try.func75 rfl rfl rfl rfl (by decide) fun base => ?_
  repeat (first|refine Bg rfl ?_|refine Bb rfl ?_|refine ⟨(dxX (by kernel_rfl)),?_⟩|exact (dxX (by kernel_rfl))|simp -dsimp (maxSteps:=20000000) (disch:=omega) only [simx,zzC,zzB,tys,ite_self,A8,A2,Ax,Aq,Ao,At,Az,Ac,A5,PV.sk,Ai,Ar,As,Ap,Ay,Ab,Aj,Am,A9,Value.oneCell',Ah,Ba,Aw,A4,A1,Al,An,Ae,Ak,isZ,A6,A3,Ad,Aa,Ag,A0,Af,↓reduceIte,reduceSub,reduceEqDiff,reduceAdd,reduceMul,reduceLT,reduceLeDiff,reduceToNat,reduceLE,Int.reduceLT,reduceNeg,reduceCtorEq,gos,Int.reduceAdd,Int.reduceSub,Int.reduceMul,reduceEq])
  refine B5 [1,2,3,4] [] (0) (C) (fun j => True) (fun j => [(4,i64 j)]) (fun j => C9 (((Heap.none.put ((0,0)::base) (.var [i64 R,i64 C,lu l])).put ((0,1)::base) (.var [i64 0,i64 0,Dk])).put ((1,5)::base) (.var [i64 C,i64 R,rowP ((8,7)::base) 1 (j * R) ((o.take (j * R)).map iu)])) ((8,7)::base) (j * R) ((o.take (j * R)).map iu)) ?_ ?_ ?_ ?_ ?_ (by decide) ?_
  · exact (Bl)
  · ((simp -dsimp (disch:=omega) only [simx,zzB,tys,ite_self,A8,A2,Ax,Aq,Ao,At,Az,Ac,A5,PV.sk,Ai,Ar,As,Ap,Ay,Ab,Aj,Am,A9,Value.oneCell',Ah,Ba,Aw,A4,A1,Al,An,Ae,Ak,isZ,A6,A3,Ad,Aa,Ag,A0,Af,↓reduceIte,reduceSub,reduceEqDiff,reduceAdd,reduceMul,reduceLT,reduceLeDiff,reduceToNat,reduceLE,Int.reduceLT,reduceNeg,reduceCtorEq,gos,Int.reduceAdd,Int.reduceSub,Int.reduceMul,reduceEq]) <;> first|rfl|simp)
  · funext c
    simp (maxSteps:=20000000) only [Heap.drop_at,Bh,Heap.put_at,Heap.none_at,List.mem_cons,List.not_mem_nil,or_false]
    by_cases e0:c=(0,0)::base
    · subst e0; simp [rowP]
    by_cases e1:c=(0,1)::base
    · subst e1; simp [rowP]
    by_cases e2:c=(1,5)::base
    · subst e2; simp [rowP]
    simp [e0,e1,e2,rowP]
  · omega
  · trivial
  · intro j hj _
    by_cases cj:j < C
    · have jd:=Fb (c:=R) cj
      repeat (first|refine Bg rfl ?_|refine Bb rfl ?_|refine ⟨(dxX (by kernel_rfl)),?_⟩|exact (dxX (by kernel_rfl))|simp -dsimp (maxSteps:=20000000) (disch:=omega) only [simx,zzC,zzB,tys,ite_self,A8,A2,Ax,Aq,Ao,At,Az,Ac,A5,PV.sk,Ai,Ar,As,Ap,Ay,Ab,Aj,Am,A9,Value.oneCell',Ah,Ba,Aw,A4,A1,Al,An,Ae,Ak,isZ,A6,A3,Ad,Aa,Ag,A0,Af,↓reduceIte,reduceSub,reduceEqDiff,reduceAdd,reduceMul,reduceLT,reduceLeDiff,reduceToNat,reduceLE,Int.reduceLT,reduceNeg,reduceCtorEq,gos,Int.reduceAdd,Int.reduceSub,Int.reduceMul,reduceEq,cj])
      refine B5 [1,2,3,4,5] [(8,6)::base] (0) (R) (fun j_ => True) (fun j_ => [(5,i64 j_)]) (fun j_ => C9 (((Heap.none.put ((0,0)::base) (.var [i64 R,i64 C,lu l])).put ((0,1)::base) (.var [i64 0,i64 0,Dk])).put ((1,5)::base) (.var [i64 C,i64 R,rowP ((8,7)::base) 1 (j * R + j_) ((o.take (j * R + j_)).map iu)])) ((8,7)::base) (j * R + j_) ((o.take (j * R + j_)).map iu)) ?_ ?_ ?_ ?_ ?_ (by decide) ?_
      · exact (Bv (by simp only [Heap.none_at]) (by (simp -dsimp only [zzB,tys,ite_self,A8,A2,Ax,Aq,Ao,At,Az,Ac,A5,PV.sk,Ai,Ar,As,Ap,Ay,Ab,Aj,Am,A9,Value.oneCell',Ah,Ba,Aw,A4,A1,Al,An,Ae,Ak,isZ,A6,A3,Ad,Aa,Ag,A0,Af,↓reduceIte,reduceSub,reduceEqDiff,reduceAdd,reduceMul,reduceLT,reduceLeDiff,reduceToNat,reduceLE,Int.reduceLT,reduceNeg,reduceCtorEq,Bm,Bo]) <;> simp [Bs,Bn,Be]) (by repeat (first|exact Bx _|refine Bp ?_|refine B4 ?_|refine Bt ?_|refine Bu ?_ (by simp [Bs,Bn,Be]))) (Bl))
      · ((simp -dsimp (disch:=omega) only [simx,zzB,tys,ite_self,A8,A2,Ax,Aq,Ao,At,Az,Ac,A5,PV.sk,Ai,Ar,As,Ap,Ay,Ab,Aj,Am,A9,Value.oneCell',Ah,Ba,Aw,A4,A1,Al,An,Ae,Ak,isZ,A6,A3,Ad,Aa,Ag,A0,Af,↓reduceIte,reduceSub,reduceEqDiff,reduceAdd,reduceMul,reduceLT,reduceLeDiff,reduceToNat,reduceLE,Int.reduceLT,reduceNeg,reduceCtorEq,gos,Int.reduceAdd,Int.reduceSub,Int.reduceMul,reduceEq]) <;> first|rfl|simp)
      · funext c
        simp (maxSteps:=20000000) only [Heap.drop_at,Bh,Heap.put_at,Heap.none_at,List.mem_cons,List.not_mem_nil,or_false]
        by_cases e0:c=(0,0)::base
        · subst e0; simp []
        by_cases e1:c=(0,1)::base
        · subst e1; simp []
        by_cases e2:c=(1,5)::base
        · subst e2; simp []
        by_cases e3:c=(8,6)::base
        · subst e3; simp []
        simp [e0,e1,e2,e3]
      · omega
      · trivial
      · intro k hk _
        by_cases ck:k < R
        · have ce:=cell j k cj ck
          have tk:=Ms (l:=o) (q:=j * R + k) (by omega)
          rw [ce] at tk
          have a1:=Kz M.len M.r2 M.c2 ck cj
          generalize l.getD (k * C + j) 0=v at tk a1
          have tl:((o.take (j * R + k)).map iu).length=(j * R + k) * 1:=by rw [List.length_map,List.length_take]; omega
          have nle:j * R + k ≤ 4096:=by omega
          generalize o.take (j * R + k)=acc at tk tl ⊢
          generalize hq:j * R + k=q at tk tl nle ⊢
          cases q with
          | zero =>
            obtain rfl:acc=[]:=by cases acc; rfl; simp at tl
            repeat (first|((first|refine Bd rfl (by simp only [tys]) ?_|refine Bc rfl (by simp only [tys]) ?_); apply Exists.intro; apply And.intro; (focus (simp -dsimp only [simx,zzC,zzB,tys,ite_self,A8,A2,Ax,Aq,Ao,At,Az,Ac,A5,PV.sk,Ai,Ar,As,Ap,Ay,Ab,Aj,Am,A9,Value.oneCell',Ah,Ba,Aw,A4,A1,Al,An,Ae,Ak,isZ,A6,A3,Ad,Aa,Ag,A0,Af,↓reduceIte,reduceSub,reduceEqDiff,reduceAdd,reduceMul,reduceLT,reduceLeDiff,reduceToNat,reduceLE,Int.reduceLT,reduceNeg,reduceCtorEq,zzL,if_true,if_false] <;> rfl)); apply Exists.intro; apply And.intro; (focus (first|exact a1)))|refine Bg rfl ?_|refine Bb rfl ?_|refine ⟨(dxX (by kernel_rfl)),?_⟩|exact (dxX (by kernel_rfl))|simp -dsimp (maxSteps:=20000000) (disch:=omega) only [simx,zzC,zzB,tys,ite_self,A8,A2,Ax,Aq,Ao,At,Az,Ac,A5,PV.sk,Ai,Ar,As,Ap,Ay,Ab,Aj,Am,A9,Value.oneCell',Ah,Ba,Aw,A4,A1,Al,An,Ae,Ak,isZ,A6,A3,Ad,Aa,Ag,A0,Af,↓reduceIte,reduceSub,reduceEqDiff,reduceAdd,reduceMul,reduceLT,reduceLeDiff,reduceToNat,reduceLE,Int.reduceLT,reduceNeg,reduceCtorEq,gos,Int.reduceAdd,Int.reduceSub,Int.reduceMul,reduceEq,ck,Co,Cn])
            refine Cg 22 [.int .u64 0] [iu v] (by simp only [tys]) (by simp only [tys]) rfl (by decide) (by simp) (by simp [Heap.put_at,Heap.none_at,Bh]) (by simp [Heap.put_at]; rfl) rfl (by simp only [tys]; omega) (by rw [B3]; omega) ?_
            repeat (first|refine Bg rfl ?_|refine Bb rfl ?_|refine ⟨(dxX (by kernel_rfl)),?_⟩|exact (dxX (by kernel_rfl))|simp -dsimp (maxSteps:=20000000) (disch:=omega) only [simx,zzC,zzB,tys,ite_self,A8,A2,Ax,Aq,Ao,At,Az,Ac,A5,PV.sk,Ai,Ar,As,Ap,Ay,Ab,Aj,Am,A9,Value.oneCell',Ah,Ba,Aw,A4,A1,Al,An,Ae,Ak,isZ,A6,A3,Ad,Aa,Ag,A0,Af,↓reduceIte,reduceSub,reduceEqDiff,reduceAdd,reduceMul,reduceLT,reduceLeDiff,reduceToNat,reduceLE,Int.reduceLT,reduceNeg,reduceCtorEq,gos,Int.reduceAdd,Int.reduceSub,Int.reduceMul,reduceEq,ck,Co,Cn,Bi])
            refine ⟨ck,(Bv (by simp only [Heap.none_at]) (by (simp -dsimp only [zzB,tys,ite_self,A8,A2,Ax,Aq,Ao,At,Az,Ac,A5,PV.sk,Ai,Ar,As,Ap,Ay,Ab,Aj,Am,A9,Value.oneCell',Ah,Ba,Aw,A4,A1,Al,An,Ae,Ak,isZ,A6,A3,Ad,Aa,Ag,A0,Af,↓reduceIte,reduceSub,reduceEqDiff,reduceAdd,reduceMul,reduceLT,reduceLeDiff,reduceToNat,reduceLE,Int.reduceLT,reduceNeg,reduceCtorEq,Bm,Bo]) <;> simp [Bs,Bn,Be]) (by repeat (first|exact Bx _|refine Bp ?_|refine B4 ?_|refine Bt ?_|refine Bu ?_ (by simp [Bs,Bn,Be]))) (Bl)),rfl,?_⟩
            rw [← Nat.add_assoc,hq,tk]
            funext c
            simp (maxSteps:=20000000) only [Heap.drop_at,Bh,Heap.put_at,Heap.none_at,List.mem_cons,List.not_mem_nil,or_false]
            by_cases e0:c=(0,0)::base
            · subst e0; simp [rowP]
            by_cases e1:c=(0,1)::base
            · subst e1; simp [rowP]
            by_cases e2:c=(1,5)::base
            · subst e2; simp [rowP]
            by_cases e3:c=(8,6)::base
            · subst e3; simp [rowP]
            by_cases e4:c=(8,7)::base
            · subst e4; simp [rowP]
            simp [e0,e1,e2,e3,e4,rowP]
          | succ q =>
            repeat (first|((first|refine Bd rfl (by simp only [tys]) ?_|refine Bc rfl (by simp only [tys]) ?_); apply Exists.intro; apply And.intro; (focus (simp -dsimp only [simx,zzC,zzB,tys,ite_self,A8,A2,Ax,Aq,Ao,At,Az,Ac,A5,PV.sk,Ai,Ar,As,Ap,Ay,Ab,Aj,Am,A9,Value.oneCell',Ah,Ba,Aw,A4,A1,Al,An,Ae,Ak,isZ,A6,A3,Ad,Aa,Ag,A0,Af,↓reduceIte,reduceSub,reduceEqDiff,reduceAdd,reduceMul,reduceLT,reduceLeDiff,reduceToNat,reduceLE,Int.reduceLT,reduceNeg,reduceCtorEq,zzL,if_true,if_false] <;> rfl)); apply Exists.intro; apply And.intro; (focus (first|exact a1)))|refine Bg rfl ?_|refine Bb rfl ?_|refine ⟨(dxX (by kernel_rfl)),?_⟩|exact (dxX (by kernel_rfl))|simp -dsimp (maxSteps:=20000000) (disch:=omega) only [simx,zzC,zzB,tys,ite_self,A8,A2,Ax,Aq,Ao,At,Az,Ac,A5,PV.sk,Ai,Ar,As,Ap,Ay,Ab,Aj,Am,A9,Value.oneCell',Ah,Ba,Aw,A4,A1,Al,An,Ae,Ak,isZ,A6,A3,Ad,Aa,Ag,A0,Af,↓reduceIte,reduceSub,reduceEqDiff,reduceAdd,reduceMul,reduceLT,reduceLeDiff,reduceToNat,reduceLE,Int.reduceLT,reduceNeg,reduceCtorEq,gos,Int.reduceAdd,Int.reduceSub,Int.reduceMul,reduceEq,ck,Co,Cn])
            refine Cg 22 [.int .u64 0] [iu v] (by simp only [tys]) (by simp only [tys]) rfl (by decide) tl (by simp [Heap.put_at,Heap.none_at,Bh]) (by simp [Heap.put_at]; rfl) rfl (by simp only [tys]; omega) (by rw [B3]; omega) ?_
            repeat (first|refine Bg rfl ?_|refine Bb rfl ?_|refine ⟨(dxX (by kernel_rfl)),?_⟩|exact (dxX (by kernel_rfl))|simp -dsimp (maxSteps:=20000000) (disch:=omega) only [simx,zzC,zzB,tys,ite_self,A8,A2,Ax,Aq,Ao,At,Az,Ac,A5,PV.sk,Ai,Ar,As,Ap,Ay,Ab,Aj,Am,A9,Value.oneCell',Ah,Ba,Aw,A4,A1,Al,An,Ae,Ak,isZ,A6,A3,Ad,Aa,Ag,A0,Af,↓reduceIte,reduceSub,reduceEqDiff,reduceAdd,reduceMul,reduceLT,reduceLeDiff,reduceToNat,reduceLE,Int.reduceLT,reduceNeg,reduceCtorEq,gos,Int.reduceAdd,Int.reduceSub,Int.reduceMul,reduceEq,ck,Co,Cn,Bi])
            refine ⟨ck,(Bv (by simp only [Heap.none_at]) (by (simp -dsimp only [zzB,tys,ite_self,A8,A2,Ax,Aq,Ao,At,Az,Ac,A5,PV.sk,Ai,Ar,As,Ap,Ay,Ab,Aj,Am,A9,Value.oneCell',Ah,Ba,Aw,A4,A1,Al,An,Ae,Ak,isZ,A6,A3,Ad,Aa,Ag,A0,Af,↓reduceIte,reduceSub,reduceEqDiff,reduceAdd,reduceMul,reduceLT,reduceLeDiff,reduceToNat,reduceLE,Int.reduceLT,reduceNeg,reduceCtorEq,Bm,Bo]) <;> simp [Bs,Bn,Be]) (by repeat (first|exact Bx _|refine Bp ?_|refine B4 ?_|refine Bt ?_|refine Bu ?_ (by simp [Bs,Bn,Be]))) (Bl)),rfl,?_⟩
            rw [← Nat.add_assoc,hq,tk]
            funext c
            simp (maxSteps:=20000000) only [Heap.drop_at,Bh,Heap.put_at,Heap.none_at,List.mem_cons,List.not_mem_nil,or_false]
            by_cases e0:c=(0,0)::base
            · subst e0; simp [rowP]
            by_cases e1:c=(0,1)::base
            · subst e1; simp [rowP]
            by_cases e2:c=(1,5)::base
            · subst e2; simp [rowP]
            by_cases e3:c=(8,6)::base
            · subst e3; simp [rowP]
            by_cases e4:c=(8,7)::base
            · subst e4; simp [rowP]
            simp [e0,e1,e2,e3,e4,rowP]
        · obtain rfl:R=k:=by omega
          repeat (first|refine Bg rfl ?_|refine Bb rfl ?_|refine ⟨(dxX (by kernel_rfl)),?_⟩|exact (dxX (by kernel_rfl))|simp -dsimp (maxSteps:=20000000) (disch:=omega) only [simx,zzC,zzB,tys,ite_self,A8,A2,Ax,Aq,Ao,At,Az,Ac,A5,PV.sk,Ai,Ar,As,Ap,Ay,Ab,Aj,Am,A9,Value.oneCell',Ah,Ba,Aw,A4,A1,Al,An,Ae,Ak,isZ,A6,A3,Ad,Aa,Ag,A0,Af,↓reduceIte,reduceSub,reduceEqDiff,reduceAdd,reduceMul,reduceLT,reduceLeDiff,reduceToNat,reduceLE,Int.reduceLT,reduceNeg,reduceCtorEq,gos,Int.reduceAdd,Int.reduceSub,Int.reduceMul,reduceEq])
          refine ⟨cj,(Bl),rfl,?_⟩
          rw [Nat.succ_mul]
          exact drop_nil _
    · obtain rfl:C=j:=by omega
      have e1:o.take (C * R)=o:=List.take_of_length_le (by omega)
      have rp:=fun s z cs => Hb s z cs (show 0 < C * R from Nat.mul_pos c1 r1)
      have rh:=fun h s cs => Ge h s cs (show 0 < C * R from Nat.mul_pos c1 r1)
      have e2:(o.map iu).take (C * R)=o.map iu:=List.take_of_length_le (by rw [List.length_map]; omega)
      repeat (first|refine Bg rfl ?_|refine Bb rfl ?_|refine ⟨(dxX (by kernel_rfl)),?_⟩|exact (dxX (by kernel_rfl))|simp -dsimp (maxSteps:=20000000) (disch:=omega) only [simx,zzC,zzB,tys,ite_self,A8,A2,Ax,Aq,Ao,At,Az,Ac,A5,PV.sk,Ai,Ar,As,Ap,Ay,Ab,Aj,Am,A9,Value.oneCell',Ah,Ba,Aw,A4,A1,Al,An,Ae,Ak,isZ,A6,A3,Ad,Aa,Ag,A0,Af,↓reduceIte,reduceSub,reduceEqDiff,reduceAdd,reduceMul,reduceLT,reduceLeDiff,reduceToNat,reduceLE,Int.reduceLT,reduceNeg,reduceCtorEq,zzR,gos,Int.reduceAdd,Int.reduceSub,Int.reduceMul,reduceEq,e1,rp,rh,List.length_map,lm,e2,lu])
      rw [← lm]
end Go.Proofs.Ythnfphgjfpcpbaa.TM
namespace Go.Proofs.Ythnfphgjfpcpbaa.TM
open Go Go.RowKit
attribute [local irreducible] K W Dg Effs Xg Xo Xr Xdg Xdo Xdr Xif CallsP CallR
theorem Az3 {p a b:Int} (ha:In p a) (hb:In p b) (h:b ≤ a):(a - b) % p=a - b:=Int.emod_eq_of_lt (by omega) (by have:=ha.2; have:=hb.1; omega)
theorem Az2 {p a b:Int} (ha:In p a) (hb:In p b) (h:¬ b ≤ a):(a - b) % p=a + (p - b):=by
  rw [show a - b=a + (p - b) + p * (-1) by omega,Int.add_mul_emod_self_left]
  exact Int.emod_eq_of_lt (by have:=ha.1; have:=hb.2; omega) (by omega)
theorem An7 (p a b:Int) (hp:Md p) (ha:In p a) (hb:In p b):CallsP Try.prog 97 [u64 p,u64 a,u64 b] (u64 ((a - b) % p)):=by
  have p1:=hp.1; have p2:=hp.2
  have a1:=ha.1; have a2:=ha.2; have b1:=hb.1; have b2:=hb.2
  by_cases c:b ≤ a
  · rw [Az3 ha hb c]
    refine Bj (n:=18) (m:=3) (rs:=[.tmp 6]) Try.func97 rfl rfl rfl rfl (by decide) fun base => ?_
    repeat (first|refine Bg rfl ?_|refine Bb rfl ?_|refine ⟨(dxX (by kernel_rfl)),?_⟩|exact (dxX (by kernel_rfl))|simp -dsimp (maxSteps:=20000000) (disch:=omega) only [simx,zzC,zzB,tys,ite_self,A8,A2,Ax,Aq,Ao,At,Az,Ac,A5,PV.sk,Ai,Ar,As,Ap,Ay,Ab,Aj,Am,A9,Value.oneCell',Ah,Ba,Aw,A4,A1,Al,An,Ae,Ak,isZ,A6,A3,Ad,Aa,Ag,A0,Af,↓reduceIte,reduceSub,reduceEqDiff,reduceAdd,reduceMul,reduceLT,reduceLeDiff,reduceToNat,reduceLE,Int.reduceLT,reduceNeg,reduceCtorEq,zzR,gos,Int.reduceAdd,Int.reduceSub,Int.reduceMul,reduceEq])
  · rw [Az2 ha hb c]
    refine Bj (n:=18) (m:=3) (rs:=[.tmp 6]) Try.func97 rfl rfl rfl rfl (by decide) fun base => ?_
    repeat (first|refine Bg rfl ?_|refine Bb rfl ?_|refine ⟨(dxX (by kernel_rfl)),?_⟩|exact (dxX (by kernel_rfl))|simp -dsimp (maxSteps:=20000000) (disch:=omega) only [simx,zzC,zzB,tys,ite_self,A8,A2,Ax,Aq,Ao,At,Az,Ac,A5,PV.sk,Ai,Ar,As,Ap,Ay,Ab,Aj,Am,A9,Value.oneCell',Ah,Ba,Aw,A4,A1,Al,An,Ae,Ak,isZ,A6,A3,Ad,Aa,Ag,A0,Af,↓reduceIte,reduceSub,reduceEqDiff,reduceAdd,reduceMul,reduceLT,reduceLeDiff,reduceToNat,reduceLE,Int.reduceLT,reduceNeg,reduceCtorEq,zzR,gos,Int.reduceAdd,Int.reduceSub,Int.reduceMul,reduceEq])
theorem Ay4 (p a b:Int) (wa:W64 a) (wb:W64 b):CallsP Try.prog 78 [u64 p,u64 a,u64 b,fnc 97] (.tup [u64 (N6 p a b ((a - b) % p)).1,i64 (N6 p a b ((a - b) % p)).2]):=by
  have h:=Gg p [a,b] (by rw [B3]; simp)
  unfold N6
  cases c:Fe p [a,b] with
  | false =>
    rw [c] at h
    refine Bj (n:=21) (m:=4) (rs:=[.tmp 8,.tmp 9]) Try.func78 rfl rfl rfl rfl (by decide) fun base => ?_
    repeat (first|((first|refine Bd rfl (by simp only [tys]) ?_|refine Bc rfl (by simp only [tys]) ?_); apply Exists.intro; apply And.intro; (focus (simp -dsimp only [simx,zzC,zzB,tys,ite_self,A8,A2,Ax,Aq,Ao,At,Az,Ac,A5,PV.sk,Ai,Ar,As,Ap,Ay,Ab,Aj,Am,A9,Value.oneCell',Ah,Ba,Aw,A4,A1,Al,An,Ae,Ak,isZ,A6,A3,Ad,Aa,Ag,A0,Af,↓reduceIte,reduceSub,reduceEqDiff,reduceAdd,reduceMul,reduceLT,reduceLeDiff,reduceToNat,reduceLE,Int.reduceLT,reduceNeg,reduceCtorEq,zzL,if_true,if_false] <;> rfl)); apply Exists.intro; apply And.intro; (focus (first|exact h)))|(refine Fv rfl ?_; apply Exists.intro; apply And.intro; (focus (simp -dsimp only [simx,zzC,zzB,tys,ite_self,A8,A2,Ax,Aq,Ao,At,Az,Ac,A5,PV.sk,Ai,Ar,As,Ap,Ay,Ab,Aj,Am,A9,Value.oneCell',Ah,Ba,Aw,A4,A1,Al,An,Ae,Ak,isZ,A6,A3,Ad,Aa,Ag,A0,Af,↓reduceIte,reduceSub,reduceEqDiff,reduceAdd,reduceMul,reduceLT,reduceLeDiff,reduceToNat,reduceLE,Int.reduceLT,reduceNeg,reduceCtorEq,zzL,if_true,if_false] <;> rfl)); apply And.intro; (focus (first|simp only [tys]|exact such_enter _)); apply Exists.intro; apply And.intro; (focus (simp -dsimp only [simx,zzC,zzB,tys,ite_self,A8,A2,Ax,Aq,Ao,At,Az,Ac,A5,PV.sk,Ai,Ar,As,Ap,Ay,Ab,Aj,Am,A9,Value.oneCell',Ah,Ba,Aw,A4,A1,Al,An,Ae,Ak,isZ,A6,A3,Ad,Aa,Ag,A0,Af,↓reduceIte,reduceSub,reduceEqDiff,reduceAdd,reduceMul,reduceLT,reduceLeDiff,reduceToNat,reduceLE,Int.reduceLT,reduceNeg,reduceCtorEq,zzL,if_true,if_false] <;> rfl)); apply Exists.intro; apply And.intro; (focus (first|exact h)))|refine Bg rfl ?_|refine Bb rfl ?_|refine ⟨(dxX (by kernel_rfl)),?_⟩|exact (dxX (by kernel_rfl))|simp -dsimp (maxSteps:=20000000) (disch:=omega) only [simx,zzC,zzB,tys,ite_self,A8,A2,Ax,Aq,Ao,At,Az,Ac,A5,PV.sk,Ai,Ar,As,Ap,Ay,Ab,Aj,Am,A9,Value.oneCell',Ah,Ba,Aw,A4,A1,Al,An,Ae,Ak,isZ,A6,A3,Ad,Aa,Ag,A0,Af,↓reduceIte,reduceSub,reduceEqDiff,reduceAdd,reduceMul,reduceLT,reduceLeDiff,reduceToNat,reduceLE,Int.reduceLT,reduceNeg,reduceCtorEq,zzR,gos,Int.reduceAdd,Int.reduceSub,Int.reduceMul,reduceEq])
  | true =>
    rw [c] at h
    obtain ⟨hp,ha,hb⟩:=has2 c wa wb
    have d:=An7 p a b hp ha hb
    refine Bj (n:=21) (m:=4) (rs:=[.tmp 8,.tmp 9]) Try.func78 rfl rfl rfl rfl (by decide) fun base => ?_
    repeat (first|((first|refine Bd rfl (by simp only [tys]) ?_|refine Bc rfl (by simp only [tys]) ?_); apply Exists.intro; apply And.intro; (focus (simp -dsimp only [simx,zzC,zzB,tys,ite_self,A8,A2,Ax,Aq,Ao,At,Az,Ac,A5,PV.sk,Ai,Ar,As,Ap,Ay,Ab,Aj,Am,A9,Value.oneCell',Ah,Ba,Aw,A4,A1,Al,An,Ae,Ak,isZ,A6,A3,Ad,Aa,Ag,A0,Af,↓reduceIte,reduceSub,reduceEqDiff,reduceAdd,reduceMul,reduceLT,reduceLeDiff,reduceToNat,reduceLE,Int.reduceLT,reduceNeg,reduceCtorEq,zzL,if_true,if_false] <;> rfl)); apply Exists.intro; apply And.intro; (focus (first|exact h|exact d)))|(refine Fv rfl ?_; apply Exists.intro; apply And.intro; (focus (simp -dsimp only [simx,zzC,zzB,tys,ite_self,A8,A2,Ax,Aq,Ao,At,Az,Ac,A5,PV.sk,Ai,Ar,As,Ap,Ay,Ab,Aj,Am,A9,Value.oneCell',Ah,Ba,Aw,A4,A1,Al,An,Ae,Ak,isZ,A6,A3,Ad,Aa,Ag,A0,Af,↓reduceIte,reduceSub,reduceEqDiff,reduceAdd,reduceMul,reduceLT,reduceLeDiff,reduceToNat,reduceLE,Int.reduceLT,reduceNeg,reduceCtorEq,zzL,if_true,if_false] <;> rfl)); apply And.intro; (focus (first|simp only [tys]|exact such_enter _)); apply Exists.intro; apply And.intro; (focus (simp -dsimp only [simx,zzC,zzB,tys,ite_self,A8,A2,Ax,Aq,Ao,At,Az,Ac,A5,PV.sk,Ai,Ar,As,Ap,Ay,Ab,Aj,Am,A9,Value.oneCell',Ah,Ba,Aw,A4,A1,Al,An,Ae,Ak,isZ,A6,A3,Ad,Aa,Ag,A0,Af,↓reduceIte,reduceSub,reduceEqDiff,reduceAdd,reduceMul,reduceLT,reduceLeDiff,reduceToNat,reduceLE,Int.reduceLT,reduceNeg,reduceCtorEq,zzL,if_true,if_false] <;> rfl)); apply Exists.intro; apply And.intro; (focus (first|exact h|exact d)))|refine Bg rfl ?_|refine Bb rfl ?_|refine ⟨(dxX (by kernel_rfl)),?_⟩|exact (dxX (by kernel_rfl))|simp -dsimp (maxSteps:=20000000) (disch:=omega) only [simx,zzC,zzB,tys,ite_self,A8,A2,Ax,Aq,Ao,At,Az,Ac,A5,PV.sk,Ai,Ar,As,Ap,Ay,Ab,Aj,Am,A9,Value.oneCell',Ah,Ba,Aw,A4,A1,Al,An,Ae,Ak,isZ,A6,A3,Ad,Aa,Ag,A0,Af,↓reduceIte,reduceSub,reduceEqDiff,reduceAdd,reduceMul,reduceLT,reduceLeDiff,reduceToNat,reduceLE,Int.reduceLT,reduceNeg,reduceCtorEq,zzR,gos,Int.reduceAdd,Int.reduceSub,Int.reduceMul,reduceEq])
theorem Aw5 (p a b:Int) (wa:W64 a) (wb:W64 b):CallsP Try.prog 54 [u64 p,u64 a,u64 b] (.tup [u64 (N6 p a b ((a - b) % p)).1,i64 (N6 p a b ((a - b) % p)).2]):=by
  have d:=Ay4 p a b wa wb
  refine Bj (n:=14) (m:=3) (rs:=[.tmp 6,.tmp 7]) Try.func54 rfl rfl rfl rfl (by decide) fun base => ?_
  repeat (first|((first|refine Bd rfl (by simp only [tys]) ?_|refine Bc rfl (by simp only [tys]) ?_); apply Exists.intro; apply And.intro; (focus (simp -dsimp only [simx,zzC,zzB,tys,ite_self,A8,A2,Ax,Aq,Ao,At,Az,Ac,A5,PV.sk,Ai,Ar,As,Ap,Ay,Ab,Aj,Am,A9,Value.oneCell',Ah,Ba,Aw,A4,A1,Al,An,Ae,Ak,isZ,A6,A3,Ad,Aa,Ag,A0,Af,↓reduceIte,reduceSub,reduceEqDiff,reduceAdd,reduceMul,reduceLT,reduceLeDiff,reduceToNat,reduceLE,Int.reduceLT,reduceNeg,reduceCtorEq,zzL,if_true,if_false] <;> rfl)); apply Exists.intro; apply And.intro; (focus (first|exact d)))|refine Bg rfl ?_|refine Bb rfl ?_|refine ⟨(dxX (by kernel_rfl)),?_⟩|exact (dxX (by kernel_rfl))|simp -dsimp (maxSteps:=20000000) (disch:=omega) only [simx,zzC,zzB,tys,ite_self,A8,A2,Ax,Aq,Ao,At,Az,Ac,A5,PV.sk,Ai,Ar,As,Ap,Ay,Ab,Aj,Am,A9,Value.oneCell',Ah,Ba,Aw,A4,A1,Al,An,Ae,Ak,isZ,A6,A3,Ad,Aa,Ag,A0,Af,↓reduceIte,reduceSub,reduceEqDiff,reduceAdd,reduceMul,reduceLT,reduceLeDiff,reduceToNat,reduceLE,Int.reduceLT,reduceNeg,reduceCtorEq,zzR,gos,Int.reduceAdd,Int.reduceSub,Int.reduceMul,reduceEq])
theorem As6 (p a:Int) (hp:Md p) (ha:In p a):∃ v,CallsP Try.prog 82 [u64 p,u64 a] (.tup [u64 v,bl (decide (Int.gcd p a=1))]) ∧ (Int.gcd p a=1 → v=finv p a):=by
  have p1:=hp.1; have p2:=hp.2
  have a1:=ha.1; have a2:=ha.2
  obtain ⟨N,g1,g2⟩:=At4 p2 p1 ha
  obtain ⟨E,_⟩:=g2 N (Nat.le_refl _)
  rw [g1] at E
  obtain ⟨k1,k2⟩:=At5 p1 E
  have hx2:=E.hx2
  refine ⟨if (itJ euT N (p,a,0,1)).2.2.1 < 0 then (itJ euT N (p,a,0,1)).2.2.1 + p else (itJ euT N (p,a,0,1)).2.2.1,?_,fun h => (Iq (k2 h).1 (k2 h).2).symm⟩
  clear k2
  rw [← k1]
  refine Bj (n:=42) (m:=2) (rs:=[.tmp 4,.tmp 5]) Try.func82 rfl rfl rfl rfl (by decide) fun base => ?_
  repeat (first|refine Bg rfl ?_|refine Bb rfl ?_|refine ⟨(dxX (by kernel_rfl)),?_⟩|exact (dxX (by kernel_rfl))|simp -dsimp (maxSteps:=20000000) (disch:=omega) only [simx,zzC,zzB,tys,ite_self,A8,A2,Ax,Aq,Ao,At,Az,Ac,A5,PV.sk,Ai,Ar,As,Ap,Ay,Ab,Aj,Am,A9,Value.oneCell',Ah,Ba,Aw,A4,A1,Al,An,Ae,Ak,isZ,A6,A3,Ad,Aa,Ag,A0,Af,↓reduceIte,reduceSub,reduceEqDiff,reduceAdd,reduceMul,reduceLT,reduceLeDiff,reduceToNat,reduceLE,Int.reduceLT,reduceNeg,reduceCtorEq,gos,Int.reduceAdd,Int.reduceSub,Int.reduceMul,reduceEq])
  refine B5 [0,6,7,8,9] [] (0) (N) (fun j => True) (fun j => [(6,i64 (itJ euT j (p,a,0,1)).1),(7,i64 (itJ euT j (p,a,0,1)).2.1),(8,i64 (itJ euT j (p,a,0,1)).2.2.1),(9,i64 (itJ euT j (p,a,0,1)).2.2.2)]) (fun j => Heap.none) ?_ ?_ ?_ ?_ ?_ (by decide) ?_
  · exact (Bl)
  · ((simp -dsimp (disch:=omega) only [simx,zzB,tys,ite_self,A8,A2,Ax,Aq,Ao,At,Az,Ac,A5,PV.sk,Ai,Ar,As,Ap,Ay,Ab,Aj,Am,A9,Value.oneCell',Ah,Ba,Aw,A4,A1,Al,An,Ae,Ak,isZ,A6,A3,Ad,Aa,Ag,A0,Af,↓reduceIte,reduceSub,reduceEqDiff,reduceAdd,reduceMul,reduceLT,reduceLeDiff,reduceToNat,reduceLE,Int.reduceLT,reduceNeg,reduceCtorEq,gos,Int.reduceAdd,Int.reduceSub,Int.reduceMul,reduceEq]) <;> first|rfl|simp [itJ])
  · exact drop_nil _
  · omega
  · trivial
  · intro j hj _
    by_cases cj:j < N
    · obtain ⟨E,hs⟩:=g2 j hj
      replace hs:=hs cj
      obtain ⟨r,s,x,y,ht⟩:∃ r s x y,itJ euT j (p,a,0,1)=(r,s,x,y):=⟨_,_,_,_,rfl⟩
      have nx:itJ euT (j + 1) (p,a,0,1)=(s,r - r / s * s,y,x - r / s * y):=by rw [itJ,ht]; rfl
      rw [ht] at E hs ⊢
      clear g1 g2 k1 hx2 ht
      simp only at E hs ⊢
      obtain ⟨E2,bd,h3,h4,h5,h6⟩:=Aa4 E p2 hs
      have b2:=bd _ rfl
      have hs0:=E.hs0; have hsr:=E.hsr; have hrp:=E.hrp
      clear bd E2
      have w1:IntKind.i64.wrap (r / s)=r / s:=Fa (by omega) (by omega)
      have w2:IntKind.i64.wrap (r / s * s)=r / s * s:=Fa (by omega) (by omega)
      have w3:IntKind.i64.wrap (r - r / s * s)=r - r / s * s:=Fa (by omega) (by omega)
      have w4:IntKind.i64.wrap (r / s * y)=r / s * y:=Fa b2.1 b2.2.1
      have w5:IntKind.i64.wrap (x - r / s * y)=x - r / s * y:=Fa b2.2.2.1 b2.2.2.2
      have w6:Int.tdiv r s=r / s:=Sw (by omega)
      repeat (first|refine Bg rfl ?_|refine Bb rfl ?_|refine ⟨(dxX (by kernel_rfl)),?_⟩|exact (dxX (by kernel_rfl))|simp -dsimp (maxSteps:=20000000) (disch:=omega) only [simx,zzC,zzB,tys,ite_self,A8,A2,Ax,Aq,Ao,At,Az,Ac,A5,PV.sk,Ai,Ar,As,Ap,Ay,Ab,Aj,Am,A9,Value.oneCell',Ah,Ba,Aw,A4,A1,Al,An,Ae,Ak,isZ,A6,A3,Ad,Aa,Ag,A0,Af,↓reduceIte,reduceSub,reduceEqDiff,reduceAdd,reduceMul,reduceLT,reduceLeDiff,reduceToNat,reduceLE,Int.reduceLT,reduceNeg,reduceCtorEq,gos,Int.reduceAdd,Int.reduceSub,Int.reduceMul,reduceEq,w1,w2,w3,w4,w5,w6,hs])
      refine ⟨cj,(Bl),?_,drop_nil _⟩
      rw [nx]
      repeat' first|rfl|apply And.intro
    · obtain rfl:N=j:=by omega
      clear g2 k1
      have r0:=E.hsr
      have r1:=E.hrp
      clear E
      generalize itJ euT N (p,a,0,1)=t at g1 hx2 r0 r1 ⊢
      obtain ⟨r,s,x,y⟩:=t
      simp only at g1 hx2 r0 r1 ⊢
      subst g1
      by_cases cx:x < 0
      · rw [if_pos cx]
        repeat (first|refine Bg rfl ?_|refine Bb rfl ?_|refine ⟨(dxX (by kernel_rfl)),?_⟩|exact (dxX (by kernel_rfl))|simp -dsimp (maxSteps:=20000000) (disch:=omega) only [simx,zzC,zzB,tys,ite_self,A8,A2,Ax,Aq,Ao,At,Az,Ac,A5,PV.sk,Ai,Ar,As,Ap,Ay,Ab,Aj,Am,A9,Value.oneCell',Ah,Ba,Aw,A4,A1,Al,An,Ae,Ak,isZ,A6,A3,Ad,Aa,Ag,A0,Af,↓reduceIte,reduceSub,reduceEqDiff,reduceAdd,reduceMul,reduceLT,reduceLeDiff,reduceToNat,reduceLE,Int.reduceLT,reduceNeg,reduceCtorEq,zzR,gos,Int.reduceAdd,Int.reduceSub,Int.reduceMul,reduceEq])
      · rw [if_neg cx]
        repeat (first|refine Bg rfl ?_|refine Bb rfl ?_|refine ⟨(dxX (by kernel_rfl)),?_⟩|exact (dxX (by kernel_rfl))|simp -dsimp (maxSteps:=20000000) (disch:=omega) only [simx,zzC,zzB,tys,ite_self,A8,A2,Ax,Aq,Ao,At,Az,Ac,A5,PV.sk,Ai,Ar,As,Ap,Ay,Ab,Aj,Am,A9,Value.oneCell',Ah,Ba,Aw,A4,A1,Al,An,Ae,Ak,isZ,A6,A3,Ad,Aa,Ag,A0,Af,↓reduceIte,reduceSub,reduceEqDiff,reduceAdd,reduceMul,reduceLT,reduceLeDiff,reduceToNat,reduceLE,Int.reduceLT,reduceNeg,reduceCtorEq,zzR,gos,Int.reduceAdd,Int.reduceSub,Int.reduceMul,reduceEq])
theorem Ax9 (p a:Int) (wa:W64 a):∃ r:Int × Int,r=(if Fe p [a] then Ai9 p a else (0,1)) ∧ CallsP Try.prog 40 [u64 p,u64 a] (.tup [u64 r.1,i64 r.2]):=by
  refine ⟨_,rfl,?_⟩
  have h:=Gg p [a] (by rw [B3]; simp)
  cases c:Fe p [a] with
  | false =>
    rw [c] at h
    refine Bj (n:=22) (m:=2) (rs:=[.tmp 4,.tmp 5]) Try.func40 rfl rfl rfl rfl (by decide) fun base => ?_
    repeat (first|((first|refine Bd rfl (by simp only [tys]) ?_|refine Bc rfl (by simp only [tys]) ?_); apply Exists.intro; apply And.intro; (focus (simp -dsimp only [simx,zzC,zzB,tys,ite_self,A8,A2,Ax,Aq,Ao,At,Az,Ac,A5,PV.sk,Ai,Ar,As,Ap,Ay,Ab,Aj,Am,A9,Value.oneCell',Ah,Ba,Aw,A4,A1,Al,An,Ae,Ak,isZ,A6,A3,Ad,Aa,Ag,A0,Af,↓reduceIte,reduceSub,reduceEqDiff,reduceAdd,reduceMul,reduceLT,reduceLeDiff,reduceToNat,reduceLE,Int.reduceLT,reduceNeg,reduceCtorEq,zzL,if_true,if_false] <;> rfl)); apply Exists.intro; apply And.intro; (focus (first|exact h)))|refine Bg rfl ?_|refine Bb rfl ?_|refine ⟨(dxX (by kernel_rfl)),?_⟩|exact (dxX (by kernel_rfl))|simp -dsimp (maxSteps:=20000000) (disch:=omega) only [simx,zzC,zzB,tys,ite_self,A8,A2,Ax,Aq,Ao,At,Az,Ac,A5,PV.sk,Ai,Ar,As,Ap,Ay,Ab,Aj,Am,A9,Value.oneCell',Ah,Ba,Aw,A4,A1,Al,An,Ae,Ak,isZ,A6,A3,Ad,Aa,Ag,A0,Af,↓reduceIte,reduceSub,reduceEqDiff,reduceAdd,reduceMul,reduceLT,reduceLeDiff,reduceToNat,reduceLE,Int.reduceLT,reduceNeg,reduceCtorEq,zzR,gos,Int.reduceAdd,Int.reduceSub,Int.reduceMul,reduceEq])
  | true =>
    rw [c] at h
    obtain ⟨c1,c2,c3⟩:=(Ei _ _).1 c
    have ha:In p a:=⟨wa.1,c1 a (by simp)⟩
    obtain ⟨v,d,e⟩:=As6 p a ⟨c2,c3⟩ ha
    rw [if_pos rfl]
    unfold Ai9
    by_cases g:Int.gcd p a=1
    · rw [if_pos g,← e g]
      rw [decide_eq_true g] at d
      refine Bj (n:=22) (m:=2) (rs:=[.tmp 4,.tmp 5]) Try.func40 rfl rfl rfl rfl (by decide) fun base => ?_
      repeat (first|((first|refine Bd rfl (by simp only [tys]) ?_|refine Bc rfl (by simp only [tys]) ?_); apply Exists.intro; apply And.intro; (focus (simp -dsimp only [simx,zzC,zzB,tys,ite_self,A8,A2,Ax,Aq,Ao,At,Az,Ac,A5,PV.sk,Ai,Ar,As,Ap,Ay,Ab,Aj,Am,A9,Value.oneCell',Ah,Ba,Aw,A4,A1,Al,An,Ae,Ak,isZ,A6,A3,Ad,Aa,Ag,A0,Af,↓reduceIte,reduceSub,reduceEqDiff,reduceAdd,reduceMul,reduceLT,reduceLeDiff,reduceToNat,reduceLE,Int.reduceLT,reduceNeg,reduceCtorEq,zzL,if_true,if_false] <;> rfl)); apply Exists.intro; apply And.intro; (focus (first|exact h|exact d)))|refine Bg rfl ?_|refine Bb rfl ?_|refine ⟨(dxX (by kernel_rfl)),?_⟩|exact (dxX (by kernel_rfl))|simp -dsimp (maxSteps:=20000000) (disch:=omega) only [simx,zzC,zzB,tys,ite_self,A8,A2,Ax,Aq,Ao,At,Az,Ac,A5,PV.sk,Ai,Ar,As,Ap,Ay,Ab,Aj,Am,A9,Value.oneCell',Ah,Ba,Aw,A4,A1,Al,An,Ae,Ak,isZ,A6,A3,Ad,Aa,Ag,A0,Af,↓reduceIte,reduceSub,reduceEqDiff,reduceAdd,reduceMul,reduceLT,reduceLeDiff,reduceToNat,reduceLE,Int.reduceLT,reduceNeg,reduceCtorEq,zzR,gos,Int.reduceAdd,Int.reduceSub,Int.reduceMul,reduceEq])
    · rw [if_neg g]
      rw [decide_eq_false g] at d
      refine Bj (n:=22) (m:=2) (rs:=[.tmp 4,.tmp 5]) Try.func40 rfl rfl rfl rfl (by decide) fun base => ?_
      repeat (first|((first|refine Bd rfl (by simp only [tys]) ?_|refine Bc rfl (by simp only [tys]) ?_); apply Exists.intro; apply And.intro; (focus (simp -dsimp only [simx,zzC,zzB,tys,ite_self,A8,A2,Ax,Aq,Ao,At,Az,Ac,A5,PV.sk,Ai,Ar,As,Ap,Ay,Ab,Aj,Am,A9,Value.oneCell',Ah,Ba,Aw,A4,A1,Al,An,Ae,Ak,isZ,A6,A3,Ad,Aa,Ag,A0,Af,↓reduceIte,reduceSub,reduceEqDiff,reduceAdd,reduceMul,reduceLT,reduceLeDiff,reduceToNat,reduceLE,Int.reduceLT,reduceNeg,reduceCtorEq,zzL,if_true,if_false] <;> rfl)); apply Exists.intro; apply And.intro; (focus (first|exact h|exact d)))|refine Bg rfl ?_|refine Bb rfl ?_|refine ⟨(dxX (by kernel_rfl)),?_⟩|exact (dxX (by kernel_rfl))|simp -dsimp (maxSteps:=20000000) (disch:=omega) only [simx,zzC,zzB,tys,ite_self,A8,A2,Ax,Aq,Ao,At,Az,Ac,A5,PV.sk,Ai,Ar,As,Ap,Ay,Ab,Aj,Am,A9,Value.oneCell',Ah,Ba,Aw,A4,A1,Al,An,Ae,Ak,isZ,A6,A3,Ad,Aa,Ag,A0,Af,↓reduceIte,reduceSub,reduceEqDiff,reduceAdd,reduceMul,reduceLT,reduceLeDiff,reduceToNat,reduceLE,Int.reduceLT,reduceNeg,reduceCtorEq,zzR,gos,Int.reduceAdd,Int.reduceSub,Int.reduceMul,reduceEq])
end Go.Proofs.Ythnfphgjfpcpbaa.TM
namespace Go.Proofs.Ythnfphgjfpcpbaa.TM
open Go Go.RowKit
attribute [local irreducible] K W Dg Effs Xg Xo Xr Xdg Xdo Xdr Xif CallsP CallR
theorem Ii (p a b:Int) (hp:Md p) (ha:In p a) (hb:In p b):CallsP Try.prog 73 [u64 p,u64 a,u64 b] (u64 ((a - b) % p)):=by
  have p1:=hp.1; have p2:=hp.2
  have a1:=ha.1; have a2:=ha.2; have b1:=hb.1; have b2:=hb.2
  have e:(a + p - b) % p=(a - b) % p:=by rw [show a + p - b=a - b + p * 1 by omega,Int.add_mul_emod_self_left]
  rw [← e]
  refine Bj (n:=14) (m:=3) (rs:=[.tmp 6]) Try.func73 rfl rfl rfl rfl (by decide) fun base => ?_
  repeat (first|refine Bg rfl ?_|refine Bb rfl ?_|refine ⟨(dxX (by kernel_rfl)),?_⟩|exact (dxX (by kernel_rfl))|simp -dsimp (maxSteps:=20000000) (disch:=omega) only [simx,zzC,zzB,tys,ite_self,A8,A2,Ax,Aq,Ao,At,Az,Ac,A5,PV.sk,Ai,Ar,As,Ap,Ay,Ab,Aj,Am,A9,Value.oneCell',Ah,Ba,Aw,A4,A1,Al,An,Ae,Ak,isZ,A6,A3,Ad,Aa,Ag,A0,Af,↓reduceIte,reduceSub,reduceEqDiff,reduceAdd,reduceMul,reduceLT,reduceLeDiff,reduceToNat,reduceLE,Int.reduceLT,reduceNeg,reduceCtorEq,zzR,gos,Int.reduceAdd,Int.reduceSub,Int.reduceMul,reduceEq])
theorem F3 (p a b:Int) (hp:Md p) (ha:In p a) (hb:W64 b):CallsP Try.prog 83 [u64 p,u64 a,u64 b] (u64 (a * b % p)):=Ru p a hp ha b.toNat b hb.1 hb.2 (Nat.le_refl _)
theorem Ae1 (a b:Int) (wa:W64 a) (wb:W64 b):CallsP Try.prog 117 [u64 a,u64 b] (u64 (Int.gcd a b:Int)):=by
  obtain ⟨N,g1,g0,g2⟩:=gc_run wa.1 wb.1
  rw [← g0]
  refine Bj (n:=12) (m:=2) (rs:=[.tmp 4]) Try.func117 rfl rfl rfl rfl (by decide) fun base => ?_
  repeat (first|refine Bg rfl ?_|refine Bb rfl ?_|refine ⟨(dxX (by kernel_rfl)),?_⟩|exact (dxX (by kernel_rfl))|simp -dsimp (maxSteps:=20000000) (disch:=omega) only [simx,zzC,zzB,tys,ite_self,A8,A2,Ax,Aq,Ao,At,Az,Ac,A5,PV.sk,Ai,Ar,As,Ap,Ay,Ab,Aj,Am,A9,Value.oneCell',Ah,Ba,Aw,A4,A1,Al,An,Ae,Ak,isZ,A6,A3,Ad,Aa,Ag,A0,Af,↓reduceIte,reduceSub,reduceEqDiff,reduceAdd,reduceMul,reduceLT,reduceLeDiff,reduceToNat,reduceLE,Int.reduceLT,reduceNeg,reduceCtorEq,gos,Int.reduceAdd,Int.reduceSub,Int.reduceMul,reduceEq])
  refine B5 [0,1] [] (0) (N) (fun j => True) (fun j => [(0,u64 (itJ gcT j (a,b)).1),(1,u64 (itJ gcT j (a,b)).2)]) (fun j => Heap.none) ?_ ?_ ?_ ?_ ?_ (by decide) ?_
  · exact (Bl)
  · ((simp -dsimp (disch:=omega) only [simx,zzB,tys,ite_self,A8,A2,Ax,Aq,Ao,At,Az,Ac,A5,PV.sk,Ai,Ar,As,Ap,Ay,Ab,Aj,Am,A9,Value.oneCell',Ah,Ba,Aw,A4,A1,Al,An,Ae,Ak,isZ,A6,A3,Ad,Aa,Ag,A0,Af,↓reduceIte,reduceSub,reduceEqDiff,reduceAdd,reduceMul,reduceLT,reduceLeDiff,reduceToNat,reduceLE,Int.reduceLT,reduceNeg,reduceCtorEq,gos,Int.reduceAdd,Int.reduceSub,Int.reduceMul,reduceEq]) <;> first|rfl|simp [itJ])
  · exact drop_nil _
  · omega
  · trivial
  · intro j hj _
    by_cases cj:j < N
    · obtain ⟨⟨i1,i2⟩,hs⟩:=g2 j hj
      replace hs:=hs cj
      obtain ⟨x,y,ht⟩:∃ x y,itJ gcT j (a,b)=(x,y):=⟨_,_,rfl⟩
      have nx:itJ gcT (j + 1) (a,b)=(y,x % y):=by rw [itJ,ht]; rfl
      rw [ht] at i1 i2 hs ⊢
      clear g1 g2 g0 ht
      simp only at i1 i2 hs ⊢
      repeat (first|refine Bg rfl ?_|refine Bb rfl ?_|refine ⟨(dxX (by kernel_rfl)),?_⟩|exact (dxX (by kernel_rfl))|simp -dsimp (maxSteps:=20000000) (disch:=omega) only [simx,zzC,zzB,tys,ite_self,A8,A2,Ax,Aq,Ao,At,Az,Ac,A5,PV.sk,Ai,Ar,As,Ap,Ay,Ab,Aj,Am,A9,Value.oneCell',Ah,Ba,Aw,A4,A1,Al,An,Ae,Ak,isZ,A6,A3,Ad,Aa,Ag,A0,Af,↓reduceIte,reduceSub,reduceEqDiff,reduceAdd,reduceMul,reduceLT,reduceLeDiff,reduceToNat,reduceLE,Int.reduceLT,reduceNeg,reduceCtorEq,gos,Int.reduceAdd,Int.reduceSub,Int.reduceMul,reduceEq,hs])
      refine ⟨cj,(Bl),?_,drop_nil _⟩
      rw [nx]
      repeat' first|rfl|apply And.intro
    · obtain rfl:N=j:=by omega
      clear g2
      generalize itJ gcT N (a,b)=t at g1 g0 ⊢
      obtain ⟨x,y⟩:=t
      simp only at g1 ⊢
      subst g1
      repeat (first|refine Bg rfl ?_|refine Bb rfl ?_|refine ⟨(dxX (by kernel_rfl)),?_⟩|exact (dxX (by kernel_rfl))|simp -dsimp (maxSteps:=20000000) (disch:=omega) only [simx,zzC,zzB,tys,ite_self,A8,A2,Ax,Aq,Ao,At,Az,Ac,A5,PV.sk,Ai,Ar,As,Ap,Ay,Ab,Aj,Am,A9,Value.oneCell',Ah,Ba,Aw,A4,A1,Al,An,Ae,Ak,isZ,A6,A3,Ad,Aa,Ag,A0,Af,↓reduceIte,reduceSub,reduceEqDiff,reduceAdd,reduceMul,reduceLT,reduceLeDiff,reduceToNat,reduceLE,Int.reduceLT,reduceNeg,reduceCtorEq,zzR,gos,Int.reduceAdd,Int.reduceSub,Int.reduceMul,reduceEq])
theorem Ae0 (p a:Int) (hp:Md p) (ha:In p a):∃ r:Int × Int,r=Ai9 p a ∧ CallsP Try.prog 102 [u64 p,u64 a] (.tup [u64 r.1,i64 r.2]):=by
  refine ⟨_,rfl,?_⟩
  have p1:=hp.1; have p2:=hp.2
  have g:=Ae1 p a ⟨by omega,by omega⟩ (ha.w64 (by omega))
  unfold Ai9
  by_cases c:Int.gcd p a=1
  · obtain ⟨N,g1,g2⟩:=em_run p1 ha
    obtain ⟨E,_⟩:=g2 N (Nat.le_refl _)
    rw [g1] at E
    rw [if_pos c,em_end p1 E c]
    have c':(Int.gcd p a:Int)=1:=by omega
    rw [c'] at g
    clear c c' E
    refine Bj (n:=39) (m:=2) (rs:=[.tmp 4,.tmp 5]) Try.func102 rfl rfl rfl rfl (by decide) fun base => ?_
    repeat (first|((first|refine Bd rfl (by simp only [tys]) ?_|refine Bc rfl (by simp only [tys]) ?_); apply Exists.intro; apply And.intro; (focus (simp -dsimp only [simx,zzC,zzB,tys,ite_self,A8,A2,Ax,Aq,Ao,At,Az,Ac,A5,PV.sk,Ai,Ar,As,Ap,Ay,Ab,Aj,Am,A9,Value.oneCell',Ah,Ba,Aw,A4,A1,Al,An,Ae,Ak,isZ,A6,A3,Ad,Aa,Ag,A0,Af,↓reduceIte,reduceSub,reduceEqDiff,reduceAdd,reduceMul,reduceLT,reduceLeDiff,reduceToNat,reduceLE,Int.reduceLT,reduceNeg,reduceCtorEq,zzL,if_true,if_false] <;> rfl)); apply Exists.intro; apply And.intro; (focus (first|exact g)))|refine Bg rfl ?_|refine Bb rfl ?_|refine ⟨(dxX (by kernel_rfl)),?_⟩|exact (dxX (by kernel_rfl))|simp -dsimp (maxSteps:=20000000) (disch:=omega) only [simx,zzC,zzB,tys,ite_self,A8,A2,Ax,Aq,Ao,At,Az,Ac,A5,PV.sk,Ai,Ar,As,Ap,Ay,Ab,Aj,Am,A9,Value.oneCell',Ah,Ba,Aw,A4,A1,Al,An,Ae,Ak,isZ,A6,A3,Ad,Aa,Ag,A0,Af,↓reduceIte,reduceSub,reduceEqDiff,reduceAdd,reduceMul,reduceLT,reduceLeDiff,reduceToNat,reduceLE,Int.reduceLT,reduceNeg,reduceCtorEq,gos,Int.reduceAdd,Int.reduceSub,Int.reduceMul,reduceEq])
    clear g
    refine B5 [0,6,7,8,9] [] (0) (N) (fun j => True) (fun j => [(6,u64 (itJ (emT p) j (p,a,0,1)).1),(7,u64 (itJ (emT p) j (p,a,0,1)).2.1),(8,u64 (itJ (emT p) j (p,a,0,1)).2.2.1),(9,u64 (itJ (emT p) j (p,a,0,1)).2.2.2)]) (fun j => Heap.none) ?_ ?_ ?_ ?_ ?_ (by decide) ?_
    · exact (Bl)
    · ((simp -dsimp (disch:=omega) only [simx,zzB,tys,ite_self,A8,A2,Ax,Aq,Ao,At,Az,Ac,A5,PV.sk,Ai,Ar,As,Ap,Ay,Ab,Aj,Am,A9,Value.oneCell',Ah,Ba,Aw,A4,A1,Al,An,Ae,Ak,isZ,A6,A3,Ad,Aa,Ag,A0,Af,↓reduceIte,reduceSub,reduceEqDiff,reduceAdd,reduceMul,reduceLT,reduceLeDiff,reduceToNat,reduceLE,Int.reduceLT,reduceNeg,reduceCtorEq,gos,Int.reduceAdd,Int.reduceSub,Int.reduceMul,reduceEq]) <;> first|rfl|simp [itJ])
    · exact drop_nil _
    · omega
    · trivial
    · intro j hj _
      by_cases cj:j < N
      · obtain ⟨E,hs⟩:=g2 j hj
        replace hs:=hs cj
        obtain ⟨r,s,x,y,ht⟩:∃ r s x y,itJ (emT p) j (p,a,0,1)=(r,s,x,y):=⟨_,_,_,_,rfl⟩
        have nx:itJ (emT p) (j + 1) (p,a,0,1)=(s,r - r / s * s,y,(x - r / s % p * y % p) % p):=by rw [itJ,ht]; rfl
        rw [ht] at E hs ⊢
        clear g1 g2 ht
        simp only at E hs ⊢
        have hs0:=E.hs0; have hsr:=E.hsr; have hrp:=E.hrp
        have hq:=Int.emod_add_mul_ediv r s
        have hqc:s * (r / s)=r / s * s:=Int.mul_comm _ _
        have hm0:=Int.emod_nonneg r hs
        have hq0:0 ≤ r / s:=Int.ediv_nonneg (by omega) hs0
        have hqr:r / s ≤ r:=Int.ediv_le_self _ (by omega)
        have hqs0:0 ≤ r / s * s:=Int.mul_nonneg hq0 hs0
        have iq:=E8 (r / s) (show 0 < p by omega)
        have im:=E8 (r / s % p * y) (show 0 < p by omega)
        have d1:=F3 p _ y hp iq (E.iy.w64 (by omega))
        have d2:=Ii p x _ hp E.ix im
        have w1:IntKind.u64.wrap (r / s)=r / s:=D6 (by omega) (by omega)
        have w2:IntKind.u64.wrap (r / s * s)=r / s * s:=D6 (by omega) (by omega)
        have w3:IntKind.u64.wrap (r - r / s * s)=r - r / s * s:=D6 (by omega) (by omega)
        clear iq im hq hqc hm0
        repeat (first|((first|refine Bd rfl (by simp only [tys]) ?_|refine Bc rfl (by simp only [tys]) ?_); apply Exists.intro; apply And.intro; (focus (simp -dsimp only [simx,zzC,zzB,tys,ite_self,A8,A2,Ax,Aq,Ao,At,Az,Ac,A5,PV.sk,Ai,Ar,As,Ap,Ay,Ab,Aj,Am,A9,Value.oneCell',Ah,Ba,Aw,A4,A1,Al,An,Ae,Ak,isZ,A6,A3,Ad,Aa,Ag,A0,Af,↓reduceIte,reduceSub,reduceEqDiff,reduceAdd,reduceMul,reduceLT,reduceLeDiff,reduceToNat,reduceLE,Int.reduceLT,reduceNeg,reduceCtorEq,zzL,if_true,if_false] <;> rfl)); apply Exists.intro; apply And.intro; (focus (first|exact d1|exact d2)))|refine Bg rfl ?_|refine Bb rfl ?_|refine ⟨(dxX (by kernel_rfl)),?_⟩|exact (dxX (by kernel_rfl))|simp -dsimp (maxSteps:=20000000) (disch:=omega) only [simx,zzC,zzB,tys,ite_self,A8,A2,Ax,Aq,Ao,At,Az,Ac,A5,PV.sk,Ai,Ar,As,Ap,Ay,Ab,Aj,Am,A9,Value.oneCell',Ah,Ba,Aw,A4,A1,Al,An,Ae,Ak,isZ,A6,A3,Ad,Aa,Ag,A0,Af,↓reduceIte,reduceSub,reduceEqDiff,reduceAdd,reduceMul,reduceLT,reduceLeDiff,reduceToNat,reduceLE,Int.reduceLT,reduceNeg,reduceCtorEq,gos,Int.reduceAdd,Int.reduceSub,Int.reduceMul,reduceEq,w1,w2,w3,hs])
        refine ⟨cj,(Bl),?_,drop_nil _⟩
        rw [nx]
        repeat' first|rfl|apply And.intro
      · obtain rfl:N=j:=by omega
        clear g2
        generalize itJ (emT p) N (p,a,0,1)=t at g1 ⊢
        obtain ⟨r,s,x,y⟩:=t
        simp only at g1 ⊢
        subst g1
        repeat (first|refine Bg rfl ?_|refine Bb rfl ?_|refine ⟨(dxX (by kernel_rfl)),?_⟩|exact (dxX (by kernel_rfl))|simp -dsimp (maxSteps:=20000000) (disch:=omega) only [simx,zzC,zzB,tys,ite_self,A8,A2,Ax,Aq,Ao,At,Az,Ac,A5,PV.sk,Ai,Ar,As,Ap,Ay,Ab,Aj,Am,A9,Value.oneCell',Ah,Ba,Aw,A4,A1,Al,An,Ae,Ak,isZ,A6,A3,Ad,Aa,Ag,A0,Af,↓reduceIte,reduceSub,reduceEqDiff,reduceAdd,reduceMul,reduceLT,reduceLeDiff,reduceToNat,reduceLE,Int.reduceLT,reduceNeg,reduceCtorEq,zzR,gos,Int.reduceAdd,Int.reduceSub,Int.reduceMul,reduceEq])
  · have c':¬ (Int.gcd p a:Int)=1:=by omega
    rw [if_neg c]
    generalize (Int.gcd p a:Int)=gg at g c'
    refine Bj (n:=39) (m:=2) (rs:=[.tmp 4,.tmp 5]) Try.func102 rfl rfl rfl rfl (by decide) fun base => ?_
    repeat (first|((first|refine Bd rfl (by simp only [tys]) ?_|refine Bc rfl (by simp only [tys]) ?_); apply Exists.intro; apply And.intro; (focus (simp -dsimp only [simx,zzC,zzB,tys,ite_self,A8,A2,Ax,Aq,Ao,At,Az,Ac,A5,PV.sk,Ai,Ar,As,Ap,Ay,Ab,Aj,Am,A9,Value.oneCell',Ah,Ba,Aw,A4,A1,Al,An,Ae,Ak,isZ,A6,A3,Ad,Aa,Ag,A0,Af,↓reduceIte,reduceSub,reduceEqDiff,reduceAdd,reduceMul,reduceLT,reduceLeDiff,reduceToNat,reduceLE,Int.reduceLT,reduceNeg,reduceCtorEq,zzL,if_true,if_false] <;> rfl)); apply Exists.intro; apply And.intro; (focus (first|exact g)))|refine Bg rfl ?_|refine Bb rfl ?_|refine ⟨(dxX (by kernel_rfl)),?_⟩|exact (dxX (by kernel_rfl))|simp -dsimp (maxSteps:=20000000) (disch:=omega) only [simx,zzC,zzB,tys,ite_self,A8,A2,Ax,Aq,Ao,At,Az,Ac,A5,PV.sk,Ai,Ar,As,Ap,Ay,Ab,Aj,Am,A9,Value.oneCell',Ah,Ba,Aw,A4,A1,Al,An,Ae,Ak,isZ,A6,A3,Ad,Aa,Ag,A0,Af,↓reduceIte,reduceSub,reduceEqDiff,reduceAdd,reduceMul,reduceLT,reduceLeDiff,reduceToNat,reduceLE,Int.reduceLT,reduceNeg,reduceCtorEq,zzR,gos,Int.reduceAdd,Int.reduceSub,Int.reduceMul,reduceEq])
theorem Ae3 {p:Int} (hp:Md p) {a b:List Int} (ha:∀ x ∈ a,In p x) (hb:∀ x ∈ b,In p x) (hl:a.length=b.length) (hm:a.length ≤ maxLen):CallsP Try.prog 71 [u64 p,lu a,lu b] (u64 (D5 a b % p)):=by
  have p1:=hp.1; have p2:=hp.2
  rw [B3] at hm
  refine Bj (n:=29) (m:=3) (rs:=[.tmp 6]) Try.func71 rfl rfl rfl rfl (by decide) fun base => ?_
  repeat (first|refine Bg rfl ?_|refine Bb rfl ?_|refine ⟨(dxX (by kernel_rfl)),?_⟩|exact (dxX (by kernel_rfl))|simp -dsimp (maxSteps:=20000000) (disch:=omega) only [simx,zzC,zzB,tys,ite_self,A8,A2,Ax,Aq,Ao,At,Az,Ac,A5,PV.sk,Ai,Ar,As,Ap,Ay,Ab,Aj,Am,A9,Value.oneCell',Ah,Ba,Aw,A4,A1,Al,An,Ae,Ak,isZ,A6,A3,Ad,Aa,Ag,A0,Af,↓reduceIte,reduceSub,reduceEqDiff,reduceAdd,reduceMul,reduceLT,reduceLeDiff,reduceToNat,reduceLE,Int.reduceLT,reduceNeg,reduceCtorEq,gos,Int.reduceAdd,Int.reduceSub,Int.reduceMul,reduceEq])
  refine B5 [0,1,2,7,8] [] (0) (a.length) (fun j => True) (fun j => [(7,u64 (D5 (a.take j) (b.take j) % p)),(8,i64 j)]) (fun j => Heap.none) ?_ ?_ ?_ ?_ ?_ (by decide) ?_
  · exact (Bl)
  · ((simp -dsimp (disch:=omega) only [simx,zzB,tys,ite_self,A8,A2,Ax,Aq,Ao,At,Az,Ac,A5,PV.sk,Ai,Ar,As,Ap,Ay,Ab,Aj,Am,A9,Value.oneCell',Ah,Ba,Aw,A4,A1,Al,An,Ae,Ak,isZ,A6,A3,Ad,Aa,Ag,A0,Af,↓reduceIte,reduceSub,reduceEqDiff,reduceAdd,reduceMul,reduceLT,reduceLeDiff,reduceToNat,reduceLE,Int.reduceLT,reduceNeg,reduceCtorEq,gos,Int.reduceAdd,Int.reduceSub,Int.reduceMul,reduceEq]) <;> first|rfl|simp [P9])
  · exact drop_nil _
  · omega
  · trivial
  · intro j hj _
    by_cases c:j < a.length
    · have c':j < b.length:=by omega
      have g1:a[j]?=some a[j]:=List.getElem?_eq_getElem c
      have g2:b[j]?=some b[j]:=List.getElem?_eq_getElem c'
      have i1:=ha _ (List.getElem_mem c)
      have i2:=hb _ (List.getElem_mem c')
      have i3:=E8 (p:=p) (a[j] * b[j]) (by omega)
      have i4:=E8 (p:=p) (D5 (a.take j) (b.take j)) (by omega)
      have d1:=F3 p _ _ hp i1 (i2.w64 (by omega))
      have d2:=Ik p _ _ hp i4 i3
      have e:(D5 (a.take j) (b.take j) % p + a[j] * b[j] % p) % p=D5 (a.take (j + 1)) (b.take (j + 1)) % p:=by rw [Nb c c',Yx,Bc2]
      rw [e] at d2
      clear i1 i2 i3 i4
      repeat (first|((first|refine Bd rfl (by simp only [tys]) ?_|refine Bc rfl (by simp only [tys]) ?_); apply Exists.intro; apply And.intro; (focus (simp -dsimp only [simx,zzC,zzB,tys,ite_self,A8,A2,Ax,Aq,Ao,At,Az,Ac,A5,PV.sk,Ai,Ar,As,Ap,Ay,Ab,Aj,Am,A9,Value.oneCell',Ah,Ba,Aw,A4,A1,Al,An,Ae,Ak,isZ,A6,A3,Ad,Aa,Ag,A0,Af,↓reduceIte,reduceSub,reduceEqDiff,reduceAdd,reduceMul,reduceLT,reduceLeDiff,reduceToNat,reduceLE,Int.reduceLT,reduceNeg,reduceCtorEq,zzL,if_true,if_false] <;> rfl)); apply Exists.intro; apply And.intro; (focus (first|exact d1|exact d2)))|refine Bg rfl ?_|refine Bb rfl ?_|refine ⟨(dxX (by kernel_rfl)),?_⟩|exact (dxX (by kernel_rfl))|simp -dsimp (maxSteps:=20000000) (disch:=omega) only [simx,zzC,zzB,tys,ite_self,A8,A2,Ax,Aq,Ao,At,Az,Ac,A5,PV.sk,Ai,Ar,As,Ap,Ay,Ab,Aj,Am,A9,Value.oneCell',Ah,Ba,Aw,A4,A1,Al,An,Ae,Ak,isZ,A6,A3,Ad,Aa,Ag,A0,Af,↓reduceIte,reduceSub,reduceEqDiff,reduceAdd,reduceMul,reduceLT,reduceLeDiff,reduceToNat,reduceLE,Int.reduceLT,reduceNeg,reduceCtorEq,gos,Int.reduceAdd,Int.reduceSub,Int.reduceMul,reduceEq,c,c',g1,g2])
      exact ⟨c,(Bl),rfl,drop_nil _⟩
    · have hj:j=a.length:=by omega
      subst hj
      have e1:b.take a.length=b:=by rw [hl]; exact List.take_length
      repeat (first|refine Bg rfl ?_|refine Bb rfl ?_|refine ⟨(dxX (by kernel_rfl)),?_⟩|exact (dxX (by kernel_rfl))|simp -dsimp (maxSteps:=20000000) (disch:=omega) only [simx,zzC,zzB,tys,ite_self,A8,A2,Ax,Aq,Ao,At,Az,Ac,A5,PV.sk,Ai,Ar,As,Ap,Ay,Ab,Aj,Am,A9,Value.oneCell',Ah,Ba,Aw,A4,A1,Al,An,Ae,Ak,isZ,A6,A3,Ad,Aa,Ag,A0,Af,↓reduceIte,reduceSub,reduceEqDiff,reduceAdd,reduceMul,reduceLT,reduceLeDiff,reduceToNat,reduceLE,Int.reduceLT,reduceNeg,reduceCtorEq,zzR,gos,Int.reduceAdd,Int.reduceSub,Int.reduceMul,reduceEq,List.take_length,e1])
end Go.Proofs.Ythnfphgjfpcpbaa.TM
namespace Go.Proofs.Ythnfphgjfpcpbaa.TM
open Go Go.RowKit
attribute [local irreducible] K W Dg Effs Xg Xo Xr Xdg Xdo Xdr Xif CallsP CallR
theorem Y5 {p a b:Int} (hp:Md p) (ha:In p a) (hb:In p b):CallsP Try.prog 51 [u64 p,u64 a,u64 b] (.tup [u64 (a * b % p),i64 0]):=by
  have h:=Aw8 p a b ⟨ha.1,by have:=ha.2; have:=hp.2; omega⟩ ⟨hb.1,by have:=hb.2; have:=hp.2; omega⟩
  rw [N6,if_pos ((Ei p _).2 ⟨fun x hx => by simp at hx; rcases hx with rfl|rfl; exact ha.2; exact hb.2,hp.1,hp.2⟩)] at h
  exact h
theorem Aw6 {p a b:Int} (hp:Md p) (ha:In p a) (hb:In p b):CallsP Try.prog 54 [u64 p,u64 a,u64 b] (.tup [u64 ((a - b) % p),i64 0]):=by
  have h:=Aw5 p a b ⟨ha.1,by have:=ha.2; have:=hp.2; omega⟩ ⟨hb.1,by have:=hb.2; have:=hp.2; omega⟩
  rw [N6,if_pos ((Ei p _).2 ⟨fun x hx => by simp at hx; rcases hx with rfl|rfl; exact ha.2; exact hb.2,hp.1,hp.2⟩)] at h
  exact h
theorem Dl {p:Int} (hp:Md p) (a:Int):In p (a % p):=⟨Int.emod_nonneg _ (by have:=hp.1; omega),Int.emod_lt_of_pos _ (by have:=hp.1; omega)⟩
def J8 (p c:Int) (x y:List Int) (j:Nat):List Int:=tbl x.length (fun i => if i < j then (x.getD i 0 - c * y.getD i 0 % p) % p else x.getD i 0)
def Nv (p c:Int) (x y:List Int):List Int:=tbl x.length (fun i => (x.getD i 0 - c * y.getD i 0 % p) % p)
theorem Ag4 (p c:Int) (x y:List Int):(Nv p c x y).length=x.length:=Ca ..
theorem Ag5 (p c:Int) (x y:List Int) {i:Nat} (h:i < x.length):(Nv p c x y).getD i 0=(x.getD i 0 - c * y.getD i 0 % p) % p:=Ct _ h
theorem As1 {p:Int} (hp:Md p) (c:Int) (x y:List Int):∀ a ∈ Nv p c x y,In p a:=fun a ha => by
  obtain ⟨i,hi,rfl⟩:=Dh ha
  exact Dl hp _
theorem X1 (p c:Int) (x y:List Int):J8 p c x y 0=x:=by
  unfold J8
  simp only [Nat.not_lt_zero,if_false]
  exact (Mr rfl).symm
theorem Ag7 (p c:Int) (x y:List Int):J8 p c x y x.length=Nv p c x y:=F2 fun i hi => if_pos hi
theorem X2 {p c:Int} {x y:List Int} {j n:Nat} (hl:x.length=n) (hj:j < n):((J8 p c x y j).map iu).take j ++ [iu ((x.getD j 0 - c * y.getD j 0 % p) % p)] ++ ((J8 p c x y j).map iu).drop (j + 1)=(J8 p c x y (j + 1)).map iu:=by
  subst hl
  rw [J8,Du (fun i => if i < j then (x.getD i 0 - c * y.getD i 0 % p) % p else x.getD i 0) ((x.getD j 0 - c * y.getD j 0 % p) % p) hj]
  congr 1
  apply F2
  intro i _
  by_cases e:i=j
  · subst e; rw [if_pos rfl,if_pos (by omega)]
  · rw [if_neg e]
    by_cases d:i < j
    · rw [if_pos d,if_pos (by omega)]
    · rw [if_neg d,if_neg (by omega)]
theorem Ag6 (p c:Int) (x y:List Int) (j:Nat):(J8 p c x y j).length=x.length:=Ca ..
theorem As2 {p c:Int} {x y:List Int} {j n:Nat} (hl:x.length=n) (hj:j < n):((J8 p c x y j).map iu)[j]?=some (iu (x.getD j 0)):=by
  rw [List.getElem?_map,J8,G7 _ (by omega),if_neg (by omega)]; rfl
theorem getD_some {l:List Int} {i n:Nat} (hl:l.length=n) (h:i < n):l[i]?=some (l.getD i 0):=by rw [List.getD_eq_getElem?_getD,List.getElem?_eq_getElem (by omega)]; rfl
theorem Ce {p:Int} {l:List Int} (hi:∀ a ∈ l,In p a) {i:Nat} (h:i < l.length):In p (l.getD i 0):=by
  rw [List.getD_eq_getElem?_getD,List.getElem?_eq_getElem h]; exact hi _ (List.getElem_mem h)
set_option maxHeartbeats 1000000 in
theorem Yt {h : Heap} {base bT bX : Name} {a0 a1 a2 a3 a5 : PV} {p c : Int} {x y : List Int} {n : Nat} (hp : Md p) (hc : In p c) (hx : ∀ a ∈ x, In p a) (hy : ∀ a ∈ y, In p a) (hl : x.length = n) (hl2 : y.length = n) (hn : n ≤ 64)
    (hT:h ((3,2)::bT)=some (.var [a0,a1,a2,a3,u64 p,a5])) (hX:h ((1,1)::bX)=some (.row false (x.map iu))) :
    CallR Try.prog base 105 [.ref ((3,2)::bT) 0 6,.view ((1,1)::bX) 0 1 n n,u64 c,.i (.l n (y.map iu))] h (.tup []) (h.put ((1,1)::bX) (.row false ((Nv p c x y).map iu))):=by
  refine Kl (n:=46) (m:=4) (rs:=[]) Try.func105 rfl rfl rfl rfl (by decide) ?_
  repeat (first|refine Bg rfl ?_|refine Bb rfl ?_|refine ⟨(dxX (by kernel_rfl)),?_⟩|exact (dxX (by kernel_rfl))|simp -dsimp (maxSteps:=20000000) (disch:=omega) only [simx,zzC,zzB,tys,ite_self,A8,A2,Ax,Aq,Ao,At,Az,Ac,A5,PV.sk,Ai,Ar,As,Ap,Ay,Ab,Aj,Am,A9,Value.oneCell',Ah,Ba,Aw,A4,A1,Al,An,Ae,Ak,isZ,A6,A3,Ad,Aa,Ag,A0,Af,↓reduceIte,reduceSub,reduceEqDiff,reduceAdd,reduceMul,reduceLT,reduceLeDiff,reduceToNat,reduceLE,Int.reduceLT,reduceNeg,reduceCtorEq,gos,Int.reduceAdd,Int.reduceSub,Int.reduceMul,reduceEq])
  refine B5 [0,1,2,12,13,14] [] (0) (n) (fun j => True) (fun j => [(0,.ref ((3,2)::bT) 0 6),(1,.view ((1,1)::bX) 0 1 n n),(2,u64 c),(12,.i (.l n (y.map iu))),(13,i64 n),(14,i64 j)]) (fun j => h.put ((1,1)::bX) (.row false ((J8 p c x y j).map iu))) ?_ ?_ ?_ ?_ ?_ (by decide) ?_
  · exact (Bl)
  · ((simp -dsimp (disch:=omega) only [simx,zzB,tys,ite_self,A8,A2,Ax,Aq,Ao,At,Az,Ac,A5,PV.sk,Ai,Ar,As,Ap,Ay,Ab,Aj,Am,A9,Value.oneCell',Ah,Ba,Aw,A4,A1,Al,An,Ae,Ak,isZ,A6,A3,Ad,Aa,Ag,A0,Af,↓reduceIte,reduceSub,reduceEqDiff,reduceAdd,reduceMul,reduceLT,reduceLeDiff,reduceToNat,reduceLE,Int.reduceLT,reduceNeg,reduceCtorEq,gos,Int.reduceAdd,Int.reduceSub,Int.reduceMul,reduceEq]) <;> first|rfl|simp)
  · rw [drop_nil,X1]
    funext b
    rw [Heap.put_at]
    split
    · rename_i e; rw [e,hX]
    · rfl
  · omega
  · trivial
  · intro j hj _
    by_cases cj:j < n
    · have g1:=As2 (p:=p) (c:=c) (y:=y) hl cj
      have g2:=getD_some hl2 cj
      have g3:=Ag6 p c x y j
      have ix:=Ce hx (i:=j) (by omega)
      have iy:=Ce hy (i:=j) (by omega)
      have m1:=Y5 hp hc iy
      have m2:=Aw6 hp ix (Dl hp (c * y.getD j 0))
      have nx:=X2 (p:=p) (c:=c) (y:=y) hl cj
      rw [hl] at g3
      have cj1:j + 1 ≤ n:=by omega
      clear hx hy
      repeat (first|((first|refine Bd rfl (by simp only [tys]) ?_|refine Bc rfl (by simp only [tys]) ?_); apply Exists.intro; apply And.intro; (focus (simp -dsimp only [simx,zzC,zzB,tys,ite_self,A8,A2,Ax,Aq,Ao,At,Az,Ac,A5,PV.sk,Ai,Ar,As,Ap,Ay,Ab,Aj,Am,A9,Value.oneCell',Ah,Ba,Aw,A4,A1,Al,An,Ae,Ak,isZ,A6,A3,Ad,Aa,Ag,A0,Af,↓reduceIte,reduceSub,reduceEqDiff,reduceAdd,reduceMul,reduceLT,reduceLeDiff,reduceToNat,reduceLE,Int.reduceLT,reduceNeg,reduceCtorEq,zzL,if_true,if_false] <;> rfl)); apply Exists.intro; apply And.intro; (focus (first|exact m1|exact m2)))|refine Bg rfl ?_|refine Bb rfl ?_|refine ⟨(dxX (by kernel_rfl)),?_⟩|exact (dxX (by kernel_rfl))|simp -dsimp (maxSteps:=20000000) (disch:=omega) only [simx,zzC,zzB,tys,ite_self,A8,A2,Ax,Aq,Ao,At,Az,Ac,A5,PV.sk,Ai,Ar,As,Ap,Ay,Ab,Aj,Am,A9,Value.oneCell',Ah,Ba,Aw,A4,A1,Al,An,Ae,Ak,isZ,A6,A3,Ad,Aa,Ag,A0,Af,↓reduceIte,reduceSub,reduceEqDiff,reduceAdd,reduceMul,reduceLT,reduceLeDiff,reduceToNat,reduceLE,Int.reduceLT,reduceNeg,reduceCtorEq,gos,Int.reduceAdd,Int.reduceSub,Int.reduceMul,reduceEq,cj,cj1,hT,hX,g1,g2,g3,List.length_map])
      refine ⟨cj,(Bl),rfl,?_⟩
      rw [drop_nil,nx]
      funext b
      simp only [Heap.put_at]
      split <;> rfl
    · have:j=n:=by omega
      subst this
      rw [← hl,Ag7]
      repeat (first|refine Bg rfl ?_|refine Bb rfl ?_|refine ⟨(dxX (by kernel_rfl)),?_⟩|exact (dxX (by kernel_rfl))|simp -dsimp (maxSteps:=20000000) (disch:=omega) only [simx,zzC,zzB,tys,ite_self,A8,A2,Ax,Aq,Ao,At,Az,Ac,A5,PV.sk,Ai,Ar,As,Ap,Ay,Ab,Aj,Am,A9,Value.oneCell',Ah,Ba,Aw,A4,A1,Al,An,Ae,Ak,isZ,A6,A3,Ad,Aa,Ag,A0,Af,↓reduceIte,reduceSub,reduceEqDiff,reduceAdd,reduceMul,reduceLT,reduceLeDiff,reduceToNat,reduceLE,Int.reduceLT,reduceNeg,reduceCtorEq,zzR,gos,Int.reduceAdd,Int.reduceSub,Int.reduceMul,reduceEq])
      rfl
end Go.Proofs.Ythnfphgjfpcpbaa.TM
