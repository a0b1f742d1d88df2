/- What is proved of functions, and plain facts, part 2. Conditions: none. -/
import Derived.Test.YthnfphgjfpcpbaaSSolveRight1
import Derived.LoopN
import Derived.RangeFuncFrom
import Derived.RangeFuncLeaves
import Derived.OrdersIn
import Derived.TacticsIn
import Derived.LoopNIn
set_option linter.defProp false
set_option linter.unusedSectionVars false
set_option linter.unusedSimpArgs false
set_option linter.unusedVariables false
namespace Go.Proofs.Ythnfphgjfpcpbaa.TM
open Go
variable {P:Program} {β:Pl} {h:Heap} {w:World}
structure Src1 (P:Program) (w:World) (z:Nat) (y:Value) (m:Nat) (news:List Value):Prop where
  len:∀ w',(Builtin.lenOf y).run P w'=.ok m w'
  cells:(Builtin.firstCells z m y).run P w=.ok news.toArray w
  cells':(Builtin.firstCells z m y).run P w.drew=.ok news.toArray w.drew
  size:news.length=m * z
theorem src_of (H:HInv β h w) {y:PV} {k:SK} (hk:y.sk=some k) {z:Nat} {xs:List IV} (hc:k.cells h z=some xs) {v:Value} (hy:Rep β h w y v) :
    ∃ news,Src1 P w z v k.len news ∧ news.length=xs.length ∧ (∀ u ∈ news,u.oneCell'=true) ∧ ∀ j x,xs[j]?=some x → RepI (Rd β h w) x (news.getD j undef):=by
  obtain ⟨hlen,hcase⟩:=O3 H hk hc hy
  rcases hcase with ⟨hnil,cap,rfl⟩|⟨a,cap,rfl,f,hf,h1,hr⟩
  · subst hnil
    refine ⟨[],⟨fun w' => rfl,?_,?_,hlen⟩,rfl,fun u hu => by simp at hu,fun j x hj => by simp at hj⟩ <;> simp [Builtin.firstCells]
  · have hcl:∀ (j:Nat) v,((List.range xs.length).map f)[j]?=some v → w.cell? (a.add j)=some v:=fun j v hj => by
      rw [List.getElem?_map] at hj
      by_cases hlt:j < xs.length
      · rw [List.getElem?_range hlt] at hj
        simp at hj; rw [← hj]; exact hf j hlt
      · rw [List.getElem?_eq_none (by simpa using hlt)] at hj; simp at hj
    refine ⟨(List.range xs.length).map f,⟨fun w' => rfl,?_,?_,by simpa using hlen⟩,by simp,fun u hu => ?_,fun j x hj => ?_⟩
    · exact run_firstCells_some (P:=P) w z k.len a k.len cap _ (by simpa using hlen) hcl
    · exact run_firstCells_some (P:=P) w.drew z k.len a k.len cap _ (by simpa using hlen) (by simpa using hcl)
    · obtain ⟨j,hj,rfl⟩:=List.mem_map.1 hu
      exact h1 j (by simpa using hj)
    · have hlt:=(List.getElem?_eq_some_iff.1 hj).1
      have:((List.range xs.length).map f).getD j undef=f j:=by simp [hlt]
      rw [this]
      exact hr j x hj
section
variable {t t' e:TypeId} {i:TypeInfo} {z:Value} (ht:P.underlying t=some (.slice e)) {e':TypeId} (ht':P.underlying t'=some (.slice e')) (hi:P.info? e=some i) (hz:i.zero=some z)
include ht ht' hi hz
theorem Mm (ty : TypeId) (b : Option Addr) (sLen sCap : Nat) (y : Value) (m : Nat) (olds news : List Value) (hs : Src1 P w i.size y m news)
    (holds:(Builtin.firstCells i.size sLen (.slice b sLen sCap)).run P w.drew=.ok olds.toArray w.drew)
    (hg:sCap < sLen + m) (h63:((sLen + m:Nat):Int) ≤ 9223372036854775807) (hfit:Builtin.nextslicecap (sLen + m) sCap * i.bytes ≤ 281474976710656) :
    (Builtin.append_ #[t,t'] ty #[.slice b sLen sCap,y]).run P w =
      .ok (.slice (some ⟨w.heap.size,0,none⟩) (sLen + m) (grownCap w (sLen + m) sCap e))
        (w.drew.alloc (.cells (olds.toArray ++ news.toArray ++ Builtin.zeroCells z.cells (grownCap w (sLen + m) sCap e - (sLen + m))) e)):=by
  have hn:¬ (sLen + m ≤ sCap):=by omega
  have h63':¬ (9223372036854775807 < ((sLen:Int) + (m:Int))):=by omega
  have h48':¬ (281474976710656 < Builtin.nextslicecap (sLen + m) sCap * i.bytes):=by omega
  have hl:=hs.len
  have hc:=hs.cells'
  simp [Builtin.append_,run_underlying ht,run_underlying ht',sizeOf,typeInfo,zeroValue,hi,hz,hl,hn,h63',h48',Question.forced,hc,holds,newRow,grownCap]
  congr 2
  apply Array.ext'
  simp [List.append_assoc]
theorem Wj (ty : TypeId) (g sLen sCap : Nat) (e0 : TypeId) (cur : Array Value) (hg : w.heap[g]? = some (.cells cur e0 (0, 0))) (y : Value) (m : Nat) (news : List Value) (hs : Src1 P w i.size y m news)
    (h1:∀ u ∈ news,u.oneCell'=true) (hroom:sLen + m ≤ sCap) (hfit:sLen * i.size + news.length ≤ cur.size) :
    (Builtin.append_ #[t,t'] ty #[.slice (some ⟨g,0,none⟩) sLen sCap,y]).run P w =
      .ok (.slice (some ⟨g,0,none⟩) (sLen + m) sCap) (w.setRow g (cur.toList.take (sLen * i.size) ++ news ++ cur.toList.drop (sLen * i.size + news.length)).toArray):=by
  have hst:=run_storeCells_at P g (sLen * i.size) e0 news 0 cur w hg (by simpa using hfit) h1
  simp only [Nat.add_zero] at hst
  have hl:=hs.len
  have hc:=hs.cells
  simp [Builtin.append_,run_underlying ht,run_underlying ht',sizeOf,typeInfo,hi,hl,hroom,hc,Addr.add_lit,hst]
theorem Ak2 (ty : TypeId) (g off sLen sCap : Nat) (e0 : TypeId) (cur : Array Value) (hg : w.heap[g]? = some (.cells cur e0 (0, 0))) (y : Value) (m : Nat) (news : List Value) (hs : Src1 P w i.size y m news)
    (h1:∀ u ∈ news,u.oneCell'=true) (hroom:sLen + m ≤ sCap) (hfit:off + sLen * i.size + news.length ≤ cur.size) :
    (Builtin.append_ #[t,t'] ty #[.slice (some ⟨g,off,none⟩) sLen sCap,y]).run P w =
      .ok (.slice (some ⟨g,off,none⟩) (sLen + m) sCap) (w.setRow g (cur.toList.take (off + sLen * i.size) ++ news ++ cur.toList.drop (off + sLen * i.size + news.length)).toArray):=by
  have hst:=run_storeCells_at P g (off + sLen * i.size) e0 news 0 cur w hg (by simpa using hfit) h1
  simp only [Nat.add_zero] at hst
  have hl:=hs.len
  have hc:=hs.cells
  simp [Builtin.append_,run_underlying ht,run_underlying ht',sizeOf,typeInfo,hi,hl,hroom,hc,Addr.add_lit,hst]
theorem Wk (ty:TypeId) (b:Option Addr) (sLen sCap:Nat) (hle:sLen ≤ sCap) (y:Value) (hs:Src1 P w i.size y 0 []) :
    (Builtin.append_ #[t,t'] ty #[.slice b sLen sCap,y]).run P w=.ok (.slice b sLen sCap) w:=by
  have hl:=hs.len
  have hc:=hs.cells
  cases b <;> simp [Builtin.append_,run_underlying ht,run_underlying ht',sizeOf,typeInfo,hi,hl,hle,hc,storeCells]
end
theorem Je {z:Array Value} {olds news:List Value} {n m cap:Nat} (ho:olds.length=n * z.size) (hn:news.length=m * z.size) (hc:n + m ≤ cap) :
    (olds.toArray ++ news.toArray ++ Builtin.zeroCells z (cap - (n + m))).size=cap * z.size:=by
  simp only [Array.size_append,List.size_toArray,size_zeroCells,ho,hn,← Nat.add_mul]
  congr 1
  omega
theorem Jf {z:Array Value} {olds news:List Value} {k:Nat} (j:Nat) (hj:j < olds.length + news.length) :
    (olds.toArray ++ news.toArray ++ Builtin.zeroCells z k).getD j undef=if j < olds.length then olds.getD j undef else news.getD (j - olds.length) undef:=by
  rw [Array.getD_eq_getD_getElem?,Array.getElem?_append_left (by simpa using hj)]
  by_cases h1:j < olds.length
  · rw [if_pos h1,Array.getElem?_append_left (by simpa using h1)]
    simp
  · rw [if_neg h1,Array.getElem?_append_right (by simpa using h1)]
    simp
theorem Ak3 {t t' e : TypeId} {i : TypeInfo} {z : Value} (ht : P.underlying t = some (.slice e)) (ht' : P.underlying t' = some (.int .i64)) (hi : P.info? e = some i) (hz : i.zero = some z) (ty : TypeId) (n : Int)
    (h0:0 < n) (hn:n ≤ 140737488355328) (hpos:0 < i.size) (hby:n.toNat * i.bytes ≤ 140737488355328) :
    (Builtin.append_ #[t,t'] ty #[.slice none 0 0,.int .i64 n]).run P w =
      .ok (.slice (some ⟨w.heap.size,0,none⟩) n.toNat (grownCap w n.toNat 0 e)) (w.drew.alloc (.cells (Builtin.zeroCells z.cells n.toNat ++ Builtin.zeroCells z.cells (grownCap w n.toNat 0 e - n.toNat)) e)):=by
  obtain ⟨m,rfl⟩:=Int.eq_ofNat_of_zero_le (Int.le_of_lt h0)
  simp only [Int.toNat_natCast] at *
  have hw:IntKind.i64.wrap (m:Int)=m:=by rw [IntKind.wrap_i64]; omega
  have h1:¬ ((m:Int) < 0):=by omega
  have h2:¬ (281474976710656 < (m:Int) * (i.bytes:Int)):=by
    have:((m * i.bytes:Nat):Int) ≤ 140737488355328:=by omega
    rw [Int.natCast_mul] at this
    omega
  have h3:¬ (0 + m ≤ 0):=by omega
  have h3':¬ m=0:=by omega
  have h4:¬ (9223372036854775807 < (m:Int)):=by omega
  have h5:¬ (m * i.size=0):=Nat.ne_of_gt (Nat.mul_pos (by omega) hpos)
  have h6:¬ (281474976710656 < Builtin.nextslicecap m 0 * i.bytes):=by
    have:Builtin.nextslicecap m 0=m:=by unfold Builtin.nextslicecap; rw [if_pos (by omega)]
    rw [this]; omega
  have h7:¬ i.size=0:=by omega
  simp [Builtin.append_,run_underlying ht,run_underlying ht',sizeOf,typeInfo,zeroValue,hi,hz,asInt,asIntOf,hw,h1,h2,h3,h3',h4,h5,h6,h7,Question.forced,newRow,grownCap,Builtin.firstCells]
theorem Q2 (H:HInv β h w) {t t' ty:TypeId} {s:Name} {x y:PV} {v u:Value} (hx:Rep β h w x v) (hy:Rep β h w y u) {o:Out} (ho:Ad P h s t t' x y=some o) :
    Does P β h w (Builtin.append_ #[t,t'] ty #[v,u]) o.ups fun β h w r => Rep β h w o.val r:=by
  unfold Ad at ho
  split at ho
  case h_2 => cases ho
  rename_i e n ht' he
  have hu:=Ed he
  obtain ⟨d,hd,hdk⟩:=G5 ht'
  have hd':d=.int .i64:=by
    cases d <;> simp_all
  subst hd'
  split at ho
  case h_2 => cases ho
  rename_i zs hz
  obtain ⟨i,z,hi,hzz,hsz,rfl,hlen⟩:=Ez hz
  split at ho
  case isFalse => cases ho
  rename_i hcc
  obtain ⟨hall,h0,hby,hmx,hpos⟩:=hcc
  obtain ⟨hs,rfl⟩:=Dp ho
  have hv:=Cj hx
  have huv:=Cj hy
  subst hv; subst huv
  have hbi:P.bytesOf e=i.bytes:=by simp [Program.bytesOf,hi]
  rw [hbi] at hby
  have hpos':0 < z.cells.size:=by simpa using hpos
  have hrun:=Ak3 (P:=P) (w:=w) hu hd hi hzz ty n h0 hmx (by omega) hby
  have hge:=grownCap_ge w n.toNat 0 e
  simp only [Array.length_toList] at *
  obtain ⟨H1,E1,_,R1⟩:=Kv (cs:=(Cc z.cells.toList n.toNat).map .v) (c:=Builtin.zeroCells z.cells n.toNat ++ Builtin.zeroCells z.cells (grownCap w n.toNat 0 e - n.toNat)) (w:=w.drew) H.drew hs e
    (by simp [C8,size_zeroCells]) (fun j x hj => by
      rw [List.getElem?_map,Gb _ (by simpa using hpos)] at hj
      simp only [Array.length_toList] at hj
      by_cases hlt:j < n.toNat * z.cells.size
      · rw [if_pos hlt] at hj
        have hg:(Builtin.zeroCells z.cells n.toNat ++ Builtin.zeroCells z.cells (grownCap w n.toNat 0 e - n.toNat)).getD j undef=z.cells.toList[j % z.cells.size]'(by simp; exact Nat.mod_lt _ hpos'):=by
          rw [Array.getD_eq_getD_getElem?,Array.getElem?_append_left (by rw [size_zeroCells]; exact hlt)]
          unfold Builtin.zeroCells
          simp [hlt,Nat.mod_lt _ hpos']
        rw [hg]
        rw [List.getElem?_eq_getElem (by simp; exact Nat.mod_lt _ hpos')] at hj
        simp only [Option.map_some,Option.some.injEq] at hj
        subst hj
        exact ⟨List.all_eq_true.1 hall _ (List.getElem_mem _),.v _⟩
      · rw [if_neg hlt] at hj; simp at hj)
  have R2:=R1 z.cells.size n.toNat (grownCap w n.toNat 0 e) hge (by
    rw [Array.size_append,size_zeroCells,size_zeroCells,← Nat.add_mul]
    exact Nat.mul_le_mul_right _ (by omega))
  simp only [List.length_map,C8,Array.length_toList] at R2
  unfold Does
  simp only [List.nil_append,Heap.ups_cons,Heap.ups_nil]
  exact ⟨_,_,_,hrun,H1,(Ext.drew β h w).trans E1,R2 (Nat.mul_le_mul_right _ hge)⟩
theorem T3 (H:HInv β h w) {t t' ty:TypeId} {e':TypeId} (ht':P.underlying t'=some (.slice e')) {s:Name} {x y:PV} {v u:Value} (hx:Rep β h w x v) (hy:Rep β h w y u) {o:Out} (ho:Do P h s t x y=some o) :
    Does P β h w (Builtin.append_ #[t,t'] ty #[v,u]) o.ups fun β h w r => Rep β h w o.val r:=by
  unfold Do at ho
  split at ho
  case h_2 => cases ho
  rename_i e he
  have hu:=Ed he
  split at ho
  case h_2 => cases ho
  rename_i zs hz
  obtain ⟨i,z,hi,hzz,hsz,rfl,hlen⟩:=Ez hz
  split at ho
  case h_2 => cases ho
  rename_i k k2 hk hk2
  split at ho
  case h_2 => cases ho
  rename_i xs hxs
  split at ho
  case isFalse => cases ho
  rename_i hc
  obtain ⟨hpos,hby,hmx⟩:=hc
  simp only [Array.length_toList] at *
  rw [hsz] at hxs hpos
  have hbi:P.bytesOf e=i.bytes:=by simp [Program.bytesOf,hi]
  rw [hbi] at hby
  obtain ⟨news,hsrc,hnl,hn1,hnr⟩:=src_of (P:=P) H hk2 hxs hy
  obtain ⟨a,cap,rfl,hkc,hanone⟩:=Jz hk hx
  have hxsl:xs.length=k2.len * i.size:=by rw [← hnl]; exact hsrc.size
  generalize hk2len:k2.len=m at *
  split at ho
  · rename_i hm
    have hnews:news=[]:=List.eq_nil_of_length_eq_zero (by rw [hsrc.size,hm,Nat.zero_mul])
    subst hnews
    rw [hm] at hsrc
    have hrun:=Wk hu ht' hi hzz ty a k.len cap hkc u hsrc
    have hR:∀ o',some (⟨x,[]⟩:Out)=some o' → Does P β h w (Builtin.append_ #[t,t'] ty #[.slice a k.len cap,u]) o'.ups fun β h w r => Rep β h w o'.val r:=fun o' ho' => by
      cases ho'
      exact ⟨β,w,_,hrun,H,Ext.refl _ _ _,hx⟩
    cases k with
    | nil => exact hR o ho
    | zip => exact hR o ho
    | own b off z' n top => exact hR o ho
    | imm n cs => cases ho
  · rename_i hm
    have h63:((k.len + m:Nat):Int) ≤ 9223372036854775807:=by simp only [maxLen] at hmx; omega
    have hmpos:0 < m:=Nat.pos_of_ne_zero hm
    have hxpos:0 < xs.length:=by rw [hxsl]; exact Nat.mul_pos hmpos hpos
    have fresh:∀ (a:Option Addr) (o:Out),Ec h s (.row false xs) (.view s 0 z.cells.size m xs.length) []=some o → 0 + m=m → (m * i.bytes ≤ 140737488355328) → ((0 + m:Nat):Int) ≤ 9223372036854775807 →
        Does P β h w (Builtin.append_ #[t,t'] ty #[.slice a 0 0,u]) o.ups fun β h w r => Rep β h w o.val r:=by
      intro a o ho _ hby h63
      obtain ⟨hs,rfl⟩:=Dp ho
      have hrun:=Mm hu ht' hi hzz ty a 0 0 u m [] news hsrc (by cases a <;> simp [Builtin.firstCells,loadCells,loadCellsFrom]) (by omega) h63 (growslice_fits (by omega) (by rw [Nat.zero_add]; exact hby))
      have hge:=grownCap_ge w (0 + m) 0 e
      obtain ⟨H1,E1,_,R1⟩:=Kv (cs:=xs) (s:=s) (β:=β) (w:=w.drew) H.drew hs e (c:=([]:List Value).toArray ++ news.toArray ++ Builtin.zeroCells z.cells (grownCap w (0 + m) 0 e - (0 + m))) (by simp; omega) (fun j x hj => by
        have hlt:=(List.getElem?_eq_some_iff.1 hj).1
        rw [Jf j (by simp; omega)]
        simp only [List.length_nil,Nat.not_lt_zero,if_false,Nat.sub_zero]
        refine ⟨hn1 _ ?_,(hnr j x hj).mono fun a v => Rd.mono (Ext.drew β h w)⟩
        rw [List.getD_eq_getElem?_getD,List.getElem?_eq_getElem (by omega)]
        simp)
      have R2:=R1 i.size (0 + m) (grownCap w (0 + m) 0 e) hge (by rw [Je (n:=0) (by simp) (by rw [hsrc.size,hsz]) hge,hsz]; exact Nat.le_refl _) (by rw [hxsl]; exact Nat.mul_le_mul_right _ (by omega))
      unfold Does
      simp only [List.nil_append,Heap.ups_cons,Heap.ups_nil]
      refine ⟨_,_,_,hrun,H1,(Ext.drew β h w).trans E1,?_⟩
      rw [hsz]
      simpa using R2
    cases k with
    | nil =>
      have:=Gk hk; subst this
      have hv:=Cj hx
      cases hv
      simp only [SK.len,Nat.zero_add] at hby h63
      exact fresh _ o ho (Nat.zero_add _) hby (by simpa using h63)
    | zip =>
      have:=Gk hk; subst this
      cases hx with
      | zip a =>
        simp only [SK.len,Nat.zero_add] at hby h63
        exact fresh _ o ho (Nat.zero_add _) hby (by simpa using h63)
    | imm n cs => cases ho
    | own b off z' n top =>
      simp only at ho
      have:=Gk hk; subst this
      simp only [SK.len] at *
      cases hx with
      | view b off z' n top x a cap hb hrow ht hn ha hva =>
        rw [hb] at ho
        cases x with
        | var _ => simp at ho
        | map => simp at ho
        | row fz cs =>
          cases fz with
          | true => simp at ho
          | false =>
            simp only at ho
            split at ho
            case isFalse =>
              split at ho
              case isFalse => cases ho
              rename_i hcc
              obtain ⟨hc1,hc3,hc4⟩:=hcc
              cases ho
              subst hc3
              obtain ⟨c,e0,hcg,hr,hcell⟩:=Ek H hb
              have hmz:n * z.cells.size + m * z.cells.size=(n + m) * z.cells.size:=(Nat.add_mul _ _ _).symm
              have hxz:xs.length=m * z.cells.size:=by rw [hxsl,hsz]
              rcases hva hc1 with ⟨h0,h00,h01⟩|⟨h0,h00,h01⟩
              · omega
              · subst h0
                have hroom:n + m ≤ cap:=by
                  refine Nat.le_of_mul_le_mul_right (c:=z.cells.size) ?_ (by omega)
                  omega
                have hszc:szW w (β b)=c.size:=by unfold szW; rw [hcg]
                rw [hszc] at h00
                have hfit:off + n * z.cells.size + news.length ≤ c.size:=by rw [hsrc.size,← hsz]; omega
                have hrun:=Ak2 hu ht' hi hzz ty (β b) off n cap e0 c hcg u m news hsrc hn1 hroom (by rw [← hsz]; exact hfit)
                rw [← hsz,show (c.toList.take (off + n * z.cells.size) ++ news ++ c.toList.drop (off + n * z.cells.size + news.length))=Cf c.toList (off + n * z.cells.size) news from rfl] at hrun
                have hsp:(Cf c.toList (off + n * z.cells.size) news).toArray.size=c.size:=by simp [C6 (cs:=c.toList) (vs:=news) (off:=off + n * z.cells.size) (by simpa using hfit)]
                have hl2:(Cf cs (off + n * z.cells.size) xs).length=cs.length:=C6 (by omega)
                have hle:(Box.row false cs).len ≤ (Box.row false (Cf cs (off + n * z.cells.size) xs)).len:=by simp [Box.len,hl2]
                have E:=Ext.write (x':=.row false (Cf cs (off + n * z.cells.size) xs)) H hb rfl rfl hcg hsp rfl hle
                refine ⟨β,_,_,hrun,HInv.write H hb rfl rfl hcg hsp rfl hle ⟨?_,fun j y hj => ?_⟩,E,?_⟩
                · rw [hsp,hl2]; exact hr.1
                · rw [Fo (by omega)] at hj
                  rw [E4 hfit,hnl]
                  split at hj
                  · rename_i hin
                    rw [if_pos hin]
                    refine ⟨hn1 _ ?_,(hnr _ y hj).mono fun a v => Rd.mono E⟩
                    rw [List.getD_eq_getElem?_getD,List.getElem?_eq_getElem (by omega)]
                    simp
                  · rename_i hin
                    rw [if_neg hin]
                    exact ⟨(hr.2 j y hj).1,(hr.2 j y hj).2.mono fun a v => Rd.mono E⟩
                · refine .view _ _ _ _ _ (.row false (Cf cs (off + n * z.cells.size) xs)) _ _ (Heap.put_same _ _ _) rfl (by simp only [Box.len,hl2]; exact Nat.le_of_eq hc1.symm) hroom (fun he => by cases he) fun _ => .inr ⟨rfl,?_,h01⟩
                  rw [I1 w _ c _ e0 hcg hsp,hszc]
                  exact h00
            rename_i hcc
            obtain ⟨hc1,hc2,hc3,hc4⟩:=hcc
            cases ho
            subst hc2
            subst hc3
            obtain ⟨c,e0,hcg,hr,hcell⟩:=Ek H hb
            have hlt:(Box.row false cs).len < (Box.row false (cs ++ xs)).len:=by simp [Box.len]; omega
            have grow:∀ olds:List Value,olds.length=n * i.size → (∀ j x,cs[j]?=some x → (olds.getD j undef).oneCell'=true ∧ RepI (Rd β h w) x (olds.getD j undef)) → cap < n + m →
                (Builtin.firstCells i.size n (.slice a n cap)).run P w.drew=.ok olds.toArray w.drew →
                Does P β h w (Builtin.append_ #[t,t'] ty #[.slice a n cap,u]) [(b,.row false (cs ++ xs))] fun β h w r => Rep β h w (.view b 0 z.cells.size (n + m) (cs ++ xs).length) r:=by
              intro olds hol hor hg hfirst
              have hrun:=Mm hu ht' hi hzz ty a n cap u m olds news hsrc hfirst hg h63 (growslice_fits hg hby)
              have hge:=grownCap_ge w (n + m) cap e
              have hcsz:=Je (z:=z.cells) (olds:=olds) (news:=news) (n:=n) (m:=m) (cap:=grownCap w (n + m) cap e) (by rw [hol,hsz]) (by rw [hsrc.size,hsz]) hge
              have E0:=Ext.drew β h w
              have E1:=Ext.move (β:=β) (w:=w.drew) (x':=.row false (cs ++ xs)) H.drew hb (.cells (olds.toArray ++ news.toArray ++ Builtin.zeroCells z.cells (grownCap w (n + m) cap e - (n + m))) e) rfl hlt
              have hcsl:cs.length=olds.length:=by rw [hc4,hol,hsz]
              refine ⟨_,_,_,hrun,?_,E0.trans E1,?_⟩
              · refine HInv.move (β:=β) (w:=w.drew) H.drew hb _ e rfl hlt ⟨?_,fun j y hj => ?_⟩
                · simp; omega
                · have hjl:=(List.getElem?_eq_some_iff.1 hj).1
                  simp only [List.length_append] at hjl
                  rw [Jf j (by omega)]
                  rw [List.getElem?_append] at hj
                  split
                  · rename_i hlo
                    rw [if_pos (by omega)] at hj
                    exact ⟨(hor j y hj).1,((hor j y hj).2.mono fun a v => Rd.mono E0).mono fun a v => Rd.mono E1⟩
                  · rename_i hlo
                    rw [if_neg (by omega),hcsl] at hj
                    refine ⟨hn1 _ ?_,((hnr _ y hj).mono fun a v => Rd.mono E0).mono fun a v => Rd.mono E1⟩
                    rw [List.getD_eq_getElem?_getD,List.getElem?_eq_getElem (by omega)]
                    simp
              · refine .view _ _ _ _ _ (.row false (cs ++ xs)) _ _ (Heap.put_same _ _ _) rfl (Nat.le_refl _) hge (fun he => by cases he) fun _ => .inr ⟨?_,?_,?_⟩
                · rw [Cu]; rfl
                · rw [Cu]
                  unfold szW
                  rw [show w.drew.heap.size=w.drew.heap.size from rfl,heap_alloc_new]
                  simp only [hcsz]
                  omega
                · have:=Nat.mul_le_mul_right z.cells.size hge
                  rw [Nat.add_mul] at this
                  simp only [List.length_append]
                  rw [hc4,hxsl,← hsz]
                  omega
            by_cases hroom:n + m ≤ cap
            · rcases hva hc1 with ⟨h0,h00,h0t⟩|⟨h0,h00,h0t⟩
              · omega
              · subst h0
                have hszc:szW w (β b)=c.size:=by unfold szW; rw [hcg]
                rw [hszc] at h00
                have hfit:n * i.size + news.length ≤ c.size:=by
                  rw [hsrc.size,← Nat.add_mul]
                  have:=Nat.mul_le_mul_right i.size hroom
                  rw [hsz] at h00
                  omega
                have hrun:=Wj hu ht' hi hzz ty (β b) n cap e0 c hcg u m news hsrc hn1 hroom hfit
                rw [show (c.toList.take (n * i.size) ++ news ++ c.toList.drop (n * i.size + news.length))=Cf c.toList (n * i.size) news from rfl] at hrun
                have hsp:(Cf c.toList (n * i.size) news).toArray.size=c.size:=by simp [C6 (cs:=c.toList) (vs:=news) (off:=n * i.size) (by simpa using hfit)]
                have E:=Ext.write (x':=.row false (cs ++ xs)) H hb rfl rfl hcg hsp rfl (Nat.le_of_lt hlt)
                have hcsl:cs.length=n * i.size:=by rw [hc4,hsz]
                refine ⟨β,_,_,hrun,HInv.write H hb rfl rfl hcg hsp rfl (Nat.le_of_lt hlt) ⟨?_,fun j y hj => ?_⟩,E,?_⟩
                · rw [hsp]; simp; omega
                · have hjl:=(List.getElem?_eq_some_iff.1 hj).1
                  simp only [List.length_append] at hjl
                  rw [E4 hfit]
                  rw [List.getElem?_append] at hj
                  split
                  · rename_i hin
                    rw [if_neg (by omega),hcsl] at hj
                    refine ⟨hn1 _ ?_,(hnr _ y hj).mono fun a v => Rd.mono E⟩
                    rw [List.getD_eq_getElem?_getD,List.getElem?_eq_getElem (by omega)]
                    simp
                  · rename_i hin
                    rw [if_pos (by omega)] at hj
                    exact ⟨(hr.2 j y hj).1,(hr.2 j y hj).2.mono fun a v => Rd.mono E⟩
                · refine .view _ _ _ _ _ (.row false (cs ++ xs)) _ _ (Heap.put_same _ _ _) rfl (Nat.le_refl _) hroom (fun he => by cases he) fun _ => .inr ⟨rfl,?_,?_⟩
                  · rw [I1 w _ c _ e0 hcg hsp,hszc]
                    omega
                  · have:=Nat.mul_le_mul_right z.cells.size hroom
                    rw [Nat.add_mul] at this
                    simp only [List.length_append]
                    rw [hc4,hxsl,← hsz]
                    omega
            · rcases hva hc1 with ⟨h0,h00,h0t⟩|⟨h0,h00,h0t⟩
              · subst h0
                have hcs0:cs=[]:=List.eq_nil_of_length_eq_zero (by rw [hc4,Nat.zero_mul])
                refine grow [] (by simp) (fun j x hj => by simp [hcs0] at hj) (by omega) ?_
                cases a <;> simp [Builtin.firstCells,loadCells,loadCellsFrom]
              · subst h0
                have hcsl:cs.length=n * i.size:=by rw [hc4,hsz]
                refine grow ((List.range (n * i.size)).map fun j => c.getD j undef) (by simp) (fun j x hj => ?_) (by omega) ?_
                · have hlt':=(List.getElem?_eq_some_iff.1 hj).1
                  have:((List.range (n * i.size)).map fun j => c.getD j undef).getD j undef=c.getD j undef:=by
                    rw [List.getD_eq_getElem?_getD,List.getElem?_map,List.getElem?_range (by omega)]; rfl
                  rw [this]
                  exact hr.2 j x hj
                · simp only [Builtin.firstCells]
                  refine Ga (w:=w.drew) _ _ _ fun j hj => ?_
                  rw [add_lit,Nat.zero_add]
                  exact hcell j (by have:=hr.1; omega)
end Go.Proofs.Ythnfphgjfpcpbaa.TM
namespace Go.Proofs.Ythnfphgjfpcpbaa.TM
open Go
variable {P:Program} {β:Pl} {h:Heap} {w:World}
theorem Yr (H:HInv β h w) {t t' ty:TypeId} {x y:PV} {v u:Value} (hx:Rep β h w x v) (hy:Rep β h w y u) {o:Out} (ho:M2 P h t x y=some o) :
    Does P β h w (Builtin.copy_ #[t,t'] ty #[v,u]) o.ups fun β h w r => Rep β h w o.val r:=by
  unfold M2 at ho
  split at ho
  case h_2 => cases ho
  rename_i e he
  have hu:=Ed he
  split at ho
  case h_2 => cases ho
  rename_i b off z n top k2 hk hk2
  split at ho
  case h_2 => cases ho
  rename_i xs cs hxs hb
  split at ho
  case isFalse => cases ho
  rename_i hc
  obtain ⟨hz,hpos,hinfo,htop,hfit⟩:=hc
  obtain ⟨i,hi⟩:=Ft hinfo
  have hzi:z=i.size:=by rw [hz]; simp [B2,Program.cellsOf,hi]
  cases ho
  obtain ⟨hlen,hcase⟩:=O3 H hk2 hxs hy
  have:=Gk hk; subst this
  obtain ⟨a2,cap2,rfl,_,_⟩:=Jz hk2 hy
  have hmin:Nat.min k2.len n=min k2.len n:=rfl
  -- the cells that are read
  obtain ⟨news,hnl,hn1,hnr,hrd⟩:∃ news:List Value,news.length=min k2.len n * z ∧ (∀ q ∈ news,q.oneCell'=true) ∧ (∀ j x,(xs.take (min k2.len n * z))[j]?=some x → RepI (Rd β h w) x (news.getD j undef)) ∧
      (Builtin.firstCells z (min k2.len n) (.slice a2 k2.len cap2)).run P w=.ok news.toArray w:=by
    rcases hcase with ⟨hnil,cap,he⟩|⟨a,cap,he,f,hf,h1,hr⟩
    · cases he
      subst hnil
      have h0:min k2.len n * z=0:=by
        have:k2.len * z=0:=by simpa using hlen.symm
        have:=Nat.mul_le_mul_right z (Nat.min_le_left k2.len n)
        omega
      refine ⟨[],by simp [h0],fun q hq => by simp at hq,fun j x hj => by simp at hj,by simp [Builtin.firstCells]⟩
    · cases he
      have hle:min k2.len n * z ≤ xs.length:=by rw [hlen]; exact Nat.mul_le_mul_right z (Nat.min_le_left _ _)
      refine ⟨(List.range (min k2.len n * z)).map f,by simp,fun q hq => ?_,fun j x hj => ?_,?_⟩
      · obtain ⟨j,hj,rfl⟩:=List.mem_map.1 hq
        exact h1 j (by have:=List.mem_range.1 hj; omega)
      · have hlt:=(List.getElem?_eq_some_iff.1 hj).1
        simp at hlt
        have:((List.range (min k2.len n * z)).map f).getD j undef=f j:=by
          rw [List.getD_eq_getElem?_getD,List.getElem?_map,List.getElem?_range (by omega)]; rfl
        rw [this]
        rw [List.getElem?_take,if_pos (by omega)] at hj
        exact hr j x hj
      · exact Ga (w:=w) a _ f fun j hj => hf j (by omega)
  obtain ⟨c,e0,hcg,hr,hcell⟩:=Ek H hb
  have htake:(xs.take (min k2.len n * z)).length=news.length:=by
    rw [hnl,List.length_take]
    have:min k2.len n * z ≤ xs.length:=by rw [hlen]; exact Nat.mul_le_mul_right z (Nat.min_le_left _ _)
    omega
  have hfit2:off + news.length ≤ cs.length:=by
    have:=Nat.mul_le_mul_right z (Nat.min_le_right k2.len n)
    omega
  have hfit3:off + news.length ≤ c.size:=by have:=hr.1; omega
  cases hx with
  | view b off z n top x a cap hb' hrow ht hn ha hva =>
    rw [hb] at hb'; cases hb'
    have hrunG:∀ (sto:Result Unit) (w':World),(match a with|some a => (storeCells a news).run P w|none => .ok () w)=.ok () w' → (Builtin.copy_ #[t,t'] ty #[.slice a n cap,.slice a2 k2.len cap2]).run P w=.ok (.int .i64 (min k2.len n:Nat)) w':=by
      intro _ w' hs
      rw [hzi] at hrd
      cases a <;> simp_all [Builtin.copy_,run_underlying hu,sizeOf,typeInfo,Builtin.lenOf,goInt]
    rcases hva htop with ⟨h0,h00,_⟩|⟨h0,h00,_⟩
    · subst h0
      have hn0:news=[]:=List.eq_nil_of_length_eq_zero (by rw [hnl]; simp)
      subst hn0
      have hrun:=hrunG (.ok () w) w (by cases a <;> simp [storeCells])
      have hsame:Cf cs off (xs.take (min k2.len 0 * z))=cs:=by simp [Cf]
      rw [hsame]
      have hhb:h.ups [(b,.row false cs)]=h:=by
        funext q
        rw [Heap.ups_cons,Heap.ups_nil]
        by_cases hq:q=b
        · subst hq; rw [Heap.put_same,hb]
        · rw [Heap.put_ne _ _ hq]
      unfold Does
      rw [hhb]
      exact ⟨β,w,_,hrun,H,Ext.refl _ _ _,.i _ _ (.v _)⟩
    · subst h0
      have hst:=run_storeCells_at P (β b) off e0 news 0 c w hcg (by simpa using hfit3) hn1
      simp only [Nat.add_zero] at hst
      have hrun:=hrunG (.ok () w) _ hst
      rw [show (c.toList.take off ++ news ++ c.toList.drop (off + news.length))=Cf c.toList off news from rfl] at hrun
      have hsp:(Cf c.toList off news).toArray.size=c.size:=by simp [C6 (cs:=c.toList) (vs:=news) (off:=off) (by simpa using hfit3)]
      have hx':(Box.row false (Cf cs off (xs.take (min k2.len n * z)))).len=(Box.row false cs).len:=by
        simp only [Box.len]; rw [C6 (by rw [htake]; exact hfit2)]
      have E:=Ext.write (x':=.row false (Cf cs off (xs.take (min k2.len n * z)))) H hb rfl rfl hcg hsp rfl (Nat.le_of_eq hx'.symm)
      refine ⟨β,_,_,hrun,HInv.write H hb rfl rfl hcg hsp rfl (Nat.le_of_eq hx'.symm) ⟨?_,fun j y hj => ?_⟩,E,.i _ _ (.v _)⟩
      · rw [hsp,C6 (by rw [htake]; exact hfit2)]; exact hr.1
      · rw [E4 hfit3]
        rw [Fo (by rw [htake]; exact hfit2),htake] at hj
        split at hj
        · rename_i hin
          rw [if_pos hin]
          refine ⟨hn1 _ ?_,(hnr _ y hj).mono fun a v => Rd.mono E⟩
          rw [List.getD_eq_getElem?_getD,List.getElem?_eq_getElem (by omega)]
          simp
        · rename_i hin
          rw [if_neg hin]
          exact ⟨(hr.2 j y hj).1,(hr.2 j y hj).2.mono fun a v => Rd.mono E⟩
end Go.Proofs.Ythnfphgjfpcpbaa.TM
namespace Go.Proofs.Ythnfphgjfpcpbaa.TM
open Go
variable {P:Program} {β:Pl} {h:Heap} {w:World}
def Ran (P:Program) (β:Pl) (h:Heap) (w:World) (s:Sem Next) (o:Out):Prop :=
  ∃ β' w' v,(s.run P w=.ok (.value v) w' ∨ (s.run P w=.ok .skip w' ∧ v=undef)) ∧ HInv β' (h.ups o.ups) w' ∧ Ext β h w β' (h.ups o.ups) w' ∧ Rep β' (h.ups o.ups) w' o.val v
theorem Ran.of_just (H:HInv β h w) {s:Sem Value} {p:PV} (hs:∃ u,s.run P w=.ok u w ∧ Rep β h w p u) {o:Out} (ho:o=⟨p,[]⟩):Ran P β h w (do pure (.value (← s))) o:=by
  subst ho
  obtain ⟨u,hu,hr⟩:=hs
  exact ⟨β,w,u,.inl (by rw [Sem.run_bind,hu]; rfl),H,Ext.refl _ _ _,hr⟩
theorem Ran.of_does {s:Sem Value} {o:Out} (hs:Does P β h w s o.ups fun β h w u => Rep β h w o.val u):Ran P β h w (do pure (.value (← s))) o:=by
  obtain ⟨β',w',v,hr,H',E,hv⟩:=hs
  exact ⟨β',w',v,.inl (by rw [Sem.run_bind,hr]; rfl),H',E,hv⟩
theorem Cs {p:Option PV} {o:Out} (h:just p=some o):∃ q,p=some q ∧ o=⟨q,[]⟩:=by
  unfold just at h
  cases p with
  | none => cases h
  | some q => cases h; exact ⟨q,rfl,rfl⟩
theorem Ae8 (v:Value):Rep β h w (Az v) v:=by
  unfold Az
  split
  · rename_i cs
    refine .agg _ _ (by simp) fun j x hj => ?_
    rw [List.getElem?_map] at hj
    cases hg:cs.toList[j]? with
    | none => simp [hg] at hj
    | some u =>
      simp [hg] at hj; subst hj
      have h2:cs[j]?=some u:=by simpa using hg
      have:cs.getD j undef=u:=by simp [h2]
      rw [this]
      exact .i _ _ (.v u)
  · exact .i _ _ (.v _)
theorem Gw:Rep β h w Cr undef:=.tup [] #[] rfl fun j x hj => by simp at hj
theorem R4 {t e:TypeId} {k:IntKind} (hm:Vo P t=some (k,e)):∃ kt,P.underlying t=some (.map kt e) ∧ P.underlying kt=some (.int k):=by
  unfold Vo at hm
  split at hm
  case h_2 => cases hm
  rename_i kt e' hu
  split at hm
  · rename_i kd hk
    cases hm
    exact ⟨kt,hu,hk⟩
  · cases hm
theorem Ui {t:TypeId} {z:Value} (hz:Mo P t=some z):(zeroValue t).run P w=.ok z w ∧ z.oneCell'=true:=by
  unfold Mo at hz
  split at hz
  case h_2 => cases hz
  rename_i i hi
  split at hz
  case h_2 => cases hz
  rename_i z' hzz
  split at hz
  case isFalse => cases hz
  rename_i h1
  cases hz
  exact ⟨by simp [zeroValue,typeInfo,hi,hzz],h1⟩
theorem Pu {x:PV} {k:IntKind} {es:List (Int × Value)} (hm:A0 h x=some (k,es)):∃ b,x=.mref b ∧ h b=some (.map k es):=by
  unfold A0 at hm
  split at hm
  case h_2 => cases hm
  rename_i b
  split at hm
  · rename_i k' es' hb
    cases hm
    exact ⟨b,rfl,hb⟩
  · cases hm
theorem Vl {b:Name} {v:Value} (hp:Rep β h w (.mref b) v):v=.map (some (β b)):=by cases hp; rfl
theorem Z2 (H:HInv β h w) {b:Name} {k:IntKind} {es:List (Int × Value)} (hb:h b=some (.map k es)):∃ ar clock,w.heap[β b]?=some (.map ar clock) ∧ ar.toList.map Gr=es.map fun q => (Value.int k q.1,q.2):=by
  obtain ⟨o,ho,ar,clock,rfl,he⟩:=H.box b _ hb
  exact ⟨ar,clock,ho,he⟩
theorem Qv (H:HInv β h w) {t:TypeId} {s:Name} {o:Out} (ho:Aa P h s t=some o):Does P β h w (Instr.makeMap t none) o.ups fun β h w u => Rep β h w o.val u:=by
  unfold Aa at ho
  split at ho
  case h_2 => cases ho
  rename_i k e hm
  obtain ⟨hs,rfl⟩:=Dp ho
  have E:=Ext.new (β:=β) (w:=w) hs (.map k []) (.map #[] 0)
  refine ⟨_,w.alloc (.map #[] 0),.map (some w.heap.size),?_,HInv.newMap H hs k,E,?_⟩
  · simp [Instr.makeMap,newObj,Sem.run]
  · have:=RepP.mref (β:=setβ β s w.heap.size) (R:=Rd (setβ β s w.heap.size) (h.put s (.map k [])) (w.alloc (.map #[] 0))) (S:=szW (w.alloc (.map #[] 0))) s (.map k []) (Heap.put_same h s _) rfl
    rw [Cu] at this
    exact this
def Gp (n:Int):List (Int × Value) → Nat → Option (Nat × Value)
  | [],_ => none
  | q::es,i => if n=q.1 then some (i,q.2) else Gp n es (i + 1)
theorem P4 (k:IntKind) (n:Int):∀ (ar:List MapEntry) (es:List (Int × Value)) (i:Nat),ar.map Gr=es.map (fun q => (Value.int k q.1,q.2)) → Instr.findNow (.int k) (.int k n) ar i=some (Gp n es i)
  | [],[],i,_ => rfl
  | [],_::_,i,he => by simp at he
  | _::_,[],i,he => by simp at he
  | a::ar,q::es,i,he => by
    simp only [List.map_cons,List.cons.injEq] at he
    obtain ⟨h1,h2⟩:=he
    have hk:a.key=.int k q.1:=congrArg Prod.fst h1
    have hv:a.val=q.2:=congrArg Prod.snd h1
    unfold Instr.findNow Gp
    simp only [hk,hv,Instr.sameNow,if_true]
    by_cases hn:n=q.1
    · simp [hn]
    · rw [if_neg hn,beq_eq_false_iff_ne.2 hn]
      exact P4 k n ar es (i + 1) h2
theorem Sb (n:Int):∀ (es:List (Int × Value)) (i:Nat),(Gp n es i).map (·.2)=At2 n es
  | [],i => rfl
  | q::es,i => by
    unfold Gp At2
    by_cases hn:n=q.1
    · rw [if_pos hn,if_pos hn]; rfl
    · rw [if_neg hn,if_neg hn]; exact Sb n es (i + 1)
theorem Jn (b:Bool) {kt:TypeId} {k:IntKind} (hk:P.underlying kt=some (.int k)) (n:Int) (w:World):(Instr.checkKey b 10000 kt (.int k n)).run P w=.ok () w:=by
  unfold Instr.checkKey
  simp [run_underlying hk]
theorem Kd {kt:TypeId} {k:IntKind} (hk:P.underlying kt=some (.int k)) (n:Int) {ar:List MapEntry} {es:List (Int × Value)} (he:ar.map Gr=es.map fun q => (Value.int k q.1,q.2)) (w:World) :
    (Instr.findKey kt (.int k n) ar).run P w=.ok (Gp n es 0) w:=by
  unfold Instr.findKey
  simp [run_underlying hk,P4 k n ar es 0 he]
theorem Tn (H:HInv β h w) {t:TypeId} {x ix p:PV} {v iv:Value} (hx:Rep β h w x v) (hi:Rep β h w ix iv) (hp:Ag P h t x ix=some p):∃ u,(Instr.lookup t v iv false).run P w=.ok u w ∧ Rep β h w p u:=by
  unfold Ag at hp
  split at hp
  case h_2 => cases hp
  rename_i k e k' es k'' n hm hmb
  split at hp
  case h_2 => cases hp
  rename_i z hz
  split at hp
  case isFalse => cases hp
  rename_i hk
  obtain ⟨rfl,rfl⟩:=hk
  cases hp
  obtain ⟨kt,hu,hkt⟩:=R4 hm
  obtain ⟨b,rfl,hb⟩:=Pu hmb
  obtain ⟨ar,clock,hheap,hent⟩:=Z2 H hb
  rw [Cj hi,Vl hx]
  obtain ⟨hzr,_⟩:=Ui (w:=w) hz
  have hg:(getObj (β b)).run P w=.ok (.map ar clock) w:=by simp [getObj,Sem.run,hheap]
  refine ⟨(At2 n es).getD z,?_,.i _ _ (.v _)⟩
  simp only [Instr.lookup,Sem.run_bind,run_underlying hu,Result.andThen_ok,hg,Sem.run_pure,Jn _ hkt,Kd hkt n hent]
  have hf:=Sb n es 0
  cases hfi:Gp n es 0 with
  | none => rw [hfi] at hf; rw [← hf]; simp [hzr]
  | some q => rw [hfi] at hf; rw [← hf]; simp
theorem Ke (n:Int):∀ (es:List (Int × Value)) (i:Nat),Gp n es (i + 1)=(Gp n es i).map fun q => (q.1 + 1,q.2)
  | [],i => rfl
  | q::es,i => by
    unfold Gp
    by_cases hn:n=q.1
    · rw [if_pos hn,if_pos hn]; rfl
    · rw [if_neg hn,if_neg hn]; exact Ke n es (i + 1)
theorem U6 (n:Int) (u:Value):∀ es:List (Int × Value),Gp n es 0=none → Tb n u es=es ++ [(n,u)]
  | [],_ => rfl
  | q::es,hf => by
    unfold Gp at hf
    by_cases hn:n=q.1
    · rw [if_pos hn] at hf; cases hf
    · rw [if_neg hn,Ke,Option.map_eq_none_iff] at hf
      unfold Tb
      rw [if_neg hn,U6 n u es hf]; rfl
theorem U5 (n:Int) (u:Value):∀ (es:List (Int × Value)) (i:Nat) (x:Value),Gp n es 0=some (i,x) → i < es.length ∧ (es[i]?).map (·.1)=some n ∧ Tb n u es=es.set i (n,u)
  | [],i,x,hf => by cases hf
  | q::es,i,x,hf => by
    unfold Gp at hf
    by_cases hn:n=q.1
    · rw [if_pos hn] at hf; cases hf
      unfold Tb
      rw [if_pos hn]
      exact ⟨by simp,by simp [hn],rfl⟩
    · rw [if_neg hn,Ke] at hf
      cases hq:Gp n es 0 with
      | none => rw [hq] at hf; cases hf
      | some y =>
        rw [hq] at hf
        simp only [Option.map_some,Option.some.injEq,Prod.mk.injEq] at hf
        obtain ⟨hi,hx⟩:=hf
        obtain ⟨h1,h2,h3⟩:=U5 n u es y.1 y.2 hq
        unfold Tb
        rw [if_neg hn,h3,← hi]
        exact ⟨by simpa using h1,by simpa using h2,rfl⟩
theorem Sr (H:HInv β h w) {t:TypeId} {x ix y:PV} {v iv yv:Value} (hx:Rep β h w x v) (hi:Rep β h w ix iv) (hy:Rep β h w y yv) {us:List (Name × Box)} (hp:Af P h t x ix y=some us) :
    Does P β h w (Instr.mapUpdate t v iv yv) us fun _ _ _ _ => True:=by
  unfold Af at hp
  split at hp
  case h_2 => cases hp
  rename_i b k e k' es k'' n u hm hmb
  split at hp
  case isFalse => cases hp
  rename_i hk
  obtain ⟨rfl,rfl⟩:=hk
  cases hp
  obtain ⟨kt,hu,hkt⟩:=R4 hm
  obtain ⟨b',hbb,hb⟩:=Pu hmb
  cases hbb
  obtain ⟨ar,clock,hheap,hent⟩:=Z2 H hb
  rw [Cj hi,Vl hx,Cj hy]
  have hg:(getObj (β b)).run P w=.ok (.map ar clock) w:=by simp [getObj,Sem.run,hheap]
  have hset:∀ (ar':Array MapEntry) (c':Nat),(Go.setObj (β b) (.map ar' c')).run P w=.ok () (setObj w (β b) (.map ar' c')):=fun ar' c' => by simp [Go.setObj,Sem.run,hheap,setObj]
  have fin:∀ (ar':Array MapEntry) (c':Nat),(Instr.mapUpdate t (.map (some (β b))) (.int k n) u).run P w=.ok () (setObj w (β b) (.map ar' c')) → ar'.toList.map Gr=(Tb n u es).map (fun q => (Value.int k q.1,q.2)) →
      Does P β h w (Instr.mapUpdate t (.map (some (β b))) (.int k n) u) [(b,.map k (Tb n u es))] fun _ _ _ _ => True:=fun ar' c' hrun he =>
    ⟨β,_,(),hrun,HInv.setMap H hb hheap he,Ext.setMap H hb hheap,trivial⟩
  cases hf:Gp n es 0 with
  | none =>
    refine fin (ar.push { key:=.int k n,val:=u,born:=clock }) (clock + 1) ?_ ?_
    · simp only [Instr.mapUpdate,Sem.run_bind,run_underlying hu,Result.andThen_ok,hg,Jn _ hkt,Kd hkt n hent,hf]
      exact hset _ _
    · rw [U6 n u es hf]
      simp [hent,Gr]
  | some q =>
    obtain ⟨i,x0⟩:=q
    obtain ⟨h1,h2,h3⟩:=U5 n u es i x0 hf
    have hlen:ar.size=es.length:=by have:=congrArg List.length hent; simpa using this
    have hi2:i < ar.size:=by omega
    have hkey:(ar[i]?).map (·.key)=some (.int k n):=by
      have:=congrArg (·[i]?) hent
      simp only [List.getElem?_map] at this
      rw [List.getElem?_eq_getElem h1] at this h2
      simp only [Option.map_some,Option.some.injEq] at this h2
      rw [Array.getElem?_eq_getElem hi2]
      rw [Array.getElem?_toList,Array.getElem?_eq_getElem hi2] at this
      simp only [Option.map_some,Option.some.injEq] at this ⊢
      have h4:=congrArg Prod.fst this
      simp only [Gr] at h4
      rw [h4,h2]
    have hst:(Instr.keyThatStays (((ar[i]?).map (·.key)).getD (.int k n)) (.int k n)).run P w=.ok (.int k n) w:=by
      rw [hkey]
      simp [Instr.keyThatStays,Instr.sameBits]
    refine fin (ar.modify i fun e => { e with key:=.int k n,val:=u }) clock ?_ ?_
    · simp only [Instr.mapUpdate,Sem.run_bind,run_underlying hu,Result.andThen_ok,hg,Jn _ hkt,Kd hkt n hent,hf,hst]
      exact hset _ _
    · rw [h3]
      apply List.ext_getElem?
      intro j
      have hj:=congrArg (·[j]?) hent
      simp only [List.getElem?_map] at hj ⊢
      rw [List.getElem?_set]
      by_cases hij:i=j
      · subst hij
        rw [if_pos rfl,if_pos h1]
        simp [hi2,Gr]
      · rw [if_neg hij,← hj]
        simp [Array.getElem?_modify,hij]
structure TInv (β:Pl) (h:Heap) (w:World) (t:List PV) (tmps:Array Value):Prop where
  size:tmps.size=t.length
  rep:∀ j x,t[j]?=some x → Rep β h w x (tmps.getD j undef)
theorem TInv.opnd {t:List PV} {a:Act} (T:TInv β h w t a.tmps) (x:Operand):Rep β h w (St.opnd t x) (a.eval x):=by
  cases x with
  | tmp k =>
    simp only [St.opnd,Act.eval]
    cases hg:t[k]? with
    | none =>
      have h1:t.length ≤ k:=List.getElem?_eq_none_iff.1 hg
      have h2:a.tmps[k]?=none:=by simp; rw [T.size]; exact h1
      rw [List.getD_eq_getElem?_getD,hg]
      simp only [Array.getD_eq_getD_getElem?,h2]
      exact Gw
    | some y =>
      rw [List.getD_eq_getElem?_getD,hg]
      exact T.rep k y hg
  | const v => exact Ae8 v
  | global g => exact .dead _
  | func f => exact .i _ _ (.v _)
theorem TInv.put {t:List PV} {a:Act} (T:TInv β h w t a.tmps) (dst:Option Tmp) {p:PV} {v:Value} (hp:Rep β h w p v):TInv β h w (Cx t dst p) (a.put dst v).tmps:=by
  cases dst with
  | none => exact T
  | some d =>
    simp only [Cx,Act.put]
    refine ⟨by simp [T.size],fun j x hj => ?_⟩
    rw [List.getElem?_set] at hj
    by_cases hd:d=j
    · subst hd
      rw [if_pos rfl] at hj
      by_cases hlt:d < t.length
      · rw [if_pos hlt] at hj; cases hj
        have:d < a.tmps.size:=by rw [T.size]; exact hlt
        have h2:(a.tmps.setIfInBounds d v).getD d undef=v:=by simp [this]
        rw [h2]; exact hp
      · rw [if_neg hlt] at hj; cases hj
    · rw [if_neg hd] at hj
      have h2:(a.tmps.setIfInBounds d v).getD j undef=a.tmps.getD j undef:=by
        simp only [Array.getD_eq_getD_getElem?,Array.getElem?_setIfInBounds_ne hd]
      rw [h2]; exact T.rep j x hj
theorem TInv.mono {β':Pl} {h':Heap} {w':World} (H:HInv β h w) (E:Ext β h w β' h' w') {t:List PV} {tmps:Array Value} (T:TInv β h w t tmps):TInv β' h' w' t tmps :=
  ⟨T.size,fun j x hj => RepP.mono H E (T.rep j x hj)⟩
theorem args2 {ρ:Operand → PV} {args:Array Operand} {x y:PV} (hx:args.toList.map ρ=[x,y]):∃ p q,args=#[p,q] ∧ ρ p=x ∧ ρ q=y:=by
  obtain ⟨l⟩:=args
  match l,hx with
  | [p,q],hx => simp at hx; exact ⟨p,q,rfl,hx.1,hx.2⟩
  | [],hx => simp at hx
  | [_],hx => simp at hx
  | _::_::_::_,hx => simp at hx
theorem args1 {ρ:Operand → PV} {args:Array Operand} {x:PV} (hx:args.toList.map ρ=[x]):∃ p,args=#[p] ∧ ρ p=x:=by
  obtain ⟨l⟩:=args
  match l,hx with
  | [p],hx => simp at hx; exact ⟨p,rfl,hx⟩
  | [],hx => simp at hx
  | _::_::_,hx => simp at hx
theorem Lx (H:HInv β h w) (s:Name) {ρ:Operand → PV} {r:Operand → Value} (hρ:∀ x,Rep β h w (ρ x) (r x)) (o:Oper) {out:Out} (hst:Ao P h s ρ o.op=some out):Ran P β h w (execOp r o) out:=by
  obtain ⟨dst,op,type,pos,after,guard⟩:=o
  unfold Ao at hst
  unfold execOp
  cases op with
  | move x => obtain ⟨q,hq,rfl⟩:=Cs hst; cases hq; exact ⟨β,w,_,.inl rfl,H,Ext.refl _ _ _,hρ x⟩
  | assign x => obtain ⟨q,hq,rfl⟩:=Cs hst; cases hq; exact ⟨β,w,_,.inl rfl,H,Ext.refl _ _ _,hρ x⟩
  | pick c a b =>
    simp only at hst
    split at hst
    · rename_i t hc
      obtain ⟨q,hq,rfl⟩:=Cs hst
      cases hq
      have h1:=hρ c
      rw [hc] at h1
      have h2:=Cj h1
      simp only [h2]
      refine ⟨β,w,if t then r a else r b,.inl (by simp [asBool]),H,Ext.refl _ _ _,?_⟩
      cases t
      · exact hρ b
      · exact hρ a
    · cases hst
  | alloc t => exact Ran.of_does (Wl H hst)
  | box t x => exact Ran.of_does (Ak0 H (hρ x) hst)
  | build t ps =>
    obtain ⟨q,hq,rfl⟩:=Cs hst
    have hL:Parts β h w (ps.toList.map fun p => (p.1,ρ p.2,r p.2)):=⟨fun q hq => by
      obtain ⟨p,hp,rfl⟩:=List.mem_map.1 hq; exact hρ p.2⟩
    have h1:(ps.toList.map fun p => (p.1,ρ p.2))=((ps.toList.map fun p => (p.1,ρ p.2,r p.2)).map fun q => (q.1,q.2.1)):=by rw [List.map_map]; rfl
    have h2:(ps.map fun p => (p.1,r p.2))=(((ps.toList.map fun p => (p.1,ρ p.2,r p.2)).map fun q => (q.1,q.2.2))).toArray:=by rw [List.map_map]; apply Array.ext'; simp
    rw [h1] at hq
    have:=Wh hL hq
    rw [← h2] at this
    exact Ran.of_just H this rfl
  | buildSlice t n ps =>
    have hL:Parts β h w (ps.toList.map fun p => (p.1,ρ p.2,r p.2)):=⟨fun q hq => by
      obtain ⟨p,hp,rfl⟩:=List.mem_map.1 hq; exact hρ p.2⟩
    have h1:(ps.toList.map fun p => (p.1,ρ p.2))=((ps.toList.map fun p => (p.1,ρ p.2,r p.2)).map fun q => (q.1,q.2.1)):=by rw [List.map_map]; rfl
    have h2:(ps.map fun p => (p.1,r p.2))=(((ps.toList.map fun p => (p.1,ρ p.2,r p.2)).map fun q => (q.1,q.2.2))).toArray:=by rw [List.map_map]; apply Array.ext'; simp
    simp only [h1] at hst
    have:=Nf H hL hst
    rw [← h2] at this
    exact Ran.of_does this
  | load t a =>
    simp only at hst
    split at hst
    · rename_i hu
      obtain ⟨d,hd⟩:=Mq hu
      obtain ⟨q,hq,rfl⟩:=Cs hst
      exact Ran.of_just H (Px H hd (hρ a) hq) rfl
    · cases hst
  | store t a x =>
    simp only at hst
    split at hst
    · rename_i hi
      obtain ⟨i,hi⟩:=Ft hi
      cases hs:Ah P h t (ρ a) (ρ x) with
      | none => simp [hs] at hst
      | some us =>
        simp [hs] at hst
        subst hst
        obtain ⟨β',w',v,hr,H',E,_⟩:=Uo H hi (hρ a) (hρ x) hs
        refine ⟨β',w',undef,.inr ⟨?_,rfl⟩,H',E,Gw⟩
        cases v
        rw [Sem.run_bind,hr]; rfl
    · cases hst
  | nilCheck x =>
    simp only at hst
    have h1:=hρ x
    split at hst
    · rename_i b o p hx
      obtain ⟨q,hq,rfl⟩:=Cs hst
      cases hq
      rw [hx] at h1
      obtain ⟨a,ha⟩:∃ a,r x=.pointer (some a):=by
        generalize r x=rx at h1
        cases h1; exact ⟨_,rfl⟩
      exact ⟨β,w,r x,.inl (by simp only [ha]; rfl),H,Ext.refl _ _ _,h1⟩
    · rename_i cs o hx
      obtain ⟨q,hq,rfl⟩:=Cs hst
      cases hq
      rw [hx] at h1
      obtain ⟨a,ha⟩:∃ a,r x=.pointer (some a):=by
        generalize r x=rx at h1
        cases h1; exact ⟨_,rfl⟩
      exact ⟨β,w,r x,.inl (by simp only [ha]; rfl),H,Ext.refl _ _ _,h1⟩
    · rename_i f cs hx
      obtain ⟨q,hq,rfl⟩:=Cs hst
      cases hq
      rw [hx] at h1
      obtain ⟨a,ha⟩:∃ a,r x=.func (.func f) #[] a:=by
        generalize r x=rx at h1
        cases h1; exact ⟨_,rfl⟩
      exact ⟨β,w,r x,.inl (by simp only [ha]; rfl),H,Ext.refl _ _ _,h1⟩
    · rename_i f a c hx
      obtain ⟨q,hq,rfl⟩:=Cs hst
      cases hq
      rw [hx] at h1
      have ha:=Cj h1
      exact ⟨β,w,r x,.inl (by simp only [ha]; rfl),H,Ext.refl _ _ _,h1⟩
    · cases hst
  | binOp op t x y ty =>
    simp only at hst
    split at hst
    · rename_i a b hx hy
      obtain ⟨q,hq,rfl⟩:=Cs hst
      cases hs:Ai P op t a b with
      | none => simp [hs] at hq
      | some v =>
        simp [hs] at hq
        subst hq
        have h1:=hρ x
        rw [hx] at h1
        have h2:=hρ y
        rw [hy] at h2
        refine Ran.of_just (s:=(do eqGuard op t x y (r x) (r y); binOp op t (r x) (r y))) H ⟨v,?_,.i _ _ (.v _)⟩ rfl
        rw [Cj h1,Cj h2]
        exact Qo hs w
    · rename_i n cs b hx hy
      obtain ⟨q,hq,rfl⟩:=Cs hst
      have h1:=hρ x
      rw [hx] at h1
      have h2:=hρ y
      rw [hy] at h2
      have e2:=Cj h2
      unfold At at hq
      split at hq
      case h_2 => cases hq
      rename_i b1 b2
      split at hq
      case isFalse => cases hq
      rename_i hn
      obtain ⟨a,cap,e1⟩:∃ a cap,r x=.slice (some a) n cap:=by
        generalize r x=rx at h1
        cases h1 with|i _ _ h1 => cases h1 with
        | nil => omega
        | l _ _ a cap => exact ⟨_,_,rfl⟩
      split at hq
      case h_2 => cases hq
      rename_i e ht
      have key0:∀ d,(Op.equalIn (d + 1) t (.slice (some a) n cap) (.slice none b1 b2)).run P w=.ok false w:=fun d => by
        simp [Op.equalIn,run_underlying (Ox ht)]
      have key:(Op.equal t (.slice (some a) n cap) (.slice none b1 b2)).run P w=.ok false w:=key0 9999
      split at hq
      · cases hq
        refine Ran.of_just (s:=(do eqGuard .eql t x y (r x) (r y); binOp .eql t (r x) (r y))) H ⟨.bool false,?_,.i _ _ (.v _)⟩ rfl
        rw [e1,e2,Sem.run_bind,Fi (by simp) (by simp)]
        simp only [Result.andThen_ok]
        show ((do pure (.bool (← Op.equal t (.slice (some a) n cap) (.slice none b1 b2)))):Sem Value).run P w=_
        rw [Sem.run_bind,key]; rfl
      · cases hq
        refine Ran.of_just (s:=(do eqGuard .neq t x y (r x) (r y); binOp .neq t (r x) (r y))) H ⟨.bool true,?_,.i _ _ (.v _)⟩ rfl
        rw [e1,e2,Sem.run_bind,Fi (by simp) (by simp)]
        simp only [Result.andThen_ok]
        show ((do pure (.bool (!(← Op.equal t (.slice (some a) n cap) (.slice none b1 b2))))):Sem Value).run P w=_
        rw [Sem.run_bind,key]; rfl
      · cases hq
    · cases hst
  | unOp op t x =>
    simp only at hst
    split at hst
    · rename_i a hx
      obtain ⟨q,hq,rfl⟩:=Cs hst
      cases hs:Ar op a with
      | none => simp [hs] at hq
      | some v =>
        simp [hs] at hq
        subst hq
        have h1:=hρ x
        rw [hx] at h1
        refine Ran.of_just (s:=Op.unary op (r x)) H ⟨v,?_,.i _ _ (.v _)⟩ rfl
        rw [Cj h1]
        exact S5 hs w
    · cases hst
  | convert a b x =>
    obtain ⟨q,hq,rfl⟩:=Cs hst
    exact Ran.of_just H (Qz H (hρ x) hq) rfl
  | makeFunc fn first caps =>
    cases fn with
    | func f =>
      simp only at hst
      split at hst
      · rename_i hf
        have hf0:first=#[]:=Array.eq_empty_of_size_eq_zero hf
        subst hf0
        split at hst
        · rename_i hc
          have hc0:caps=#[]:=Array.eq_empty_of_size_eq_zero hc
          subst hc0
          obtain ⟨q,hq,rfl⟩:=Cs hst
          cases hq
          exact ⟨β,w,.func (.func f) #[] #[],.inl (by simp [Instr.makeFunc]),H,Ext.refl _ _ _,.i _ _ (.v _)⟩
        · obtain ⟨q,hq,rfl⟩:=Cs hst
          cases hq
          refine ⟨β,w,.func (.func f) #[] (caps.map r),.inl (by simp [Instr.makeFunc]),H,Ext.refl _ _ _,.clo _ _ _ (by simp) fun j x hj => ?_⟩
          rw [List.getElem?_map] at hj
          cases hg:caps.toList[j]? with
          | none => simp [hg] at hj
          | some u =>
            simp [hg] at hj; subst hj
            have h2:caps[j]?=some u:=by simpa using hg
            have:(caps.map r).getD j undef=r u:=by simp [h2]
            rw [this]
            exact hρ u
      · cases hst
    | _ => simp at hst
  | makeSlice t l c => exact Ran.of_does (X0 H (hρ l) (hρ c) hst)
  | slice t x lo hi mx =>
    simp only at hst
    split at hst
    · rename_i hzb
      obtain ⟨q,hq,rfl⟩:=Cs hst
      obtain ⟨rfl,_,_⟩:=Ab8 hzb
      have hm:∀ y:Option Operand,Qi β h w (y.map ρ) (y.map r):=fun y => by
        cases y with
        | none => trivial
        | some y => exact hρ y
      exact Ran.of_just H (Ab7 (hρ x) (hm hi) (hm mx) hq) rfl
    obtain ⟨q,hq,rfl⟩:=Cs hst
    have hm:∀ y:Option Operand,Qi β h w (y.map ρ) (y.map r):=fun y => by
      cases y with
      | none => trivial
      | some y => exact hρ y
    exact Ran.of_just H (Uq (hρ x) (hm lo) (hm hi) (hm mx) hq) rfl
  | makeMap t r =>
    cases r with
    | none => exact Ran.of_does (Qv H hst)
    | some r => simp at hst
  | lookup t x ix ok =>
    cases ok with
    | true => simp at hst
    | false =>
      obtain ⟨q,hq,rfl⟩:=Cs hst
      exact Ran.of_just H (Tn H (hρ x) (hρ ix) hq) rfl
  | mapUpdate t x ix y =>
    simp only at hst
    cases hs:Af P h t (ρ x) (ρ ix) (ρ y) with
    | none => simp [hs] at hst
    | some us =>
      simp [hs] at hst
      subst hst
      obtain ⟨β',w',v,hr,H',E,_⟩:=Sr H (hρ x) (hρ ix) (hρ y) hs
      refine ⟨β',w',undef,.inr ⟨?_,rfl⟩,H',E,Gw⟩
      cases v
      rw [Sem.run_bind,hr]; rfl
  | fieldAddr t x f =>
    obtain ⟨q,hq,rfl⟩:=Cs hst
    exact Ran.of_just H (Oc (hρ x) hq) rfl
  | field t x f =>
    obtain ⟨q,hq,rfl⟩:=Cs hst
    exact Ran.of_just H (Wc (hρ x) hq) rfl
  | indexAddr t x ix =>
    obtain ⟨q,hq,rfl⟩:=Cs hst
    exact Ran.of_just H (Ob (hρ x) (hρ ix) hq) rfl
  | index t x ix =>
    obtain ⟨q,hq,rfl⟩:=Cs hst
    exact Ran.of_just H (V2 (hρ x) (hρ ix) hq) rfl
  | extract x ix =>
    simp only at hst
    split at hst
    · rename_i vs hx
      obtain ⟨q,hq,rfl⟩:=Cs hst
      exact Ran.of_just H (Qw (hρ x) hx hq) rfl
    · cases hst
  | call c =>
    obtain ⟨callee,args,ts⟩:=c
    cases callee with
    | builtin b =>
      simp only at hst
      unfold Ac at hst
      simp only [resolve,invoke,Sem.run_bind,Sem.run_pure,Result.andThen_ok,pure_bind]
      split at hst
      · rename_i t t' x y hts hxs
        have hts':ts=#[t,t']:=by apply Array.ext'; simpa using hts
        obtain ⟨p,q,rfl,rfl,rfl⟩:=args2 hxs
        subst hts'
        have hm:(#[p,q]:Array Operand).map r=#[r p,r q]:=by simp
        rw [hm]
        split at hst
        · rename_i he'
          obtain ⟨e',he'⟩:=Option.isSome_iff_exists.1 he'
          exact Ran.of_does (T3 H (Ed he') (hρ p) (hρ q) hst)
        · exact Ran.of_does (Q2 H (hρ p) (hρ q) hst)
      · rename_i t t' x y hts hxs
        have hts':ts=#[t,t']:=by apply Array.ext'; simpa using hts
        obtain ⟨p,q,rfl,rfl,rfl⟩:=args2 hxs
        subst hts'
        have hm:(#[p,q]:Array Operand).map r=#[r p,r q]:=by simp
        rw [hm]
        exact Ran.of_does (Yr H (hρ p) (hρ q) hst)
      · rename_i t x hts hxs
        have hts':ts=#[t]:=by apply Array.ext'; simpa using hts
        obtain ⟨p,rfl,rfl⟩:=args1 hxs
        subst hts'
        have hm:(#[p]:Array Operand).map r=#[r p]:=by simp
        rw [hm]
        cases hl:A5 P t (ρ p) with
        | none => simp [hl] at hst
        | some q =>
          simp [hl] at hst
          subst hst
          exact Ran.of_just H (Ag8 (hρ p) hl) rfl
      · rename_i t hts hxs
        split at hst
        case isFalse => cases hst
        rename_i he'
        obtain ⟨e',he'⟩:=Option.isSome_iff_exists.1 he'
        cases hst
        have hts':ts=#[t]:=by apply Array.ext'; simpa using hts
        obtain ⟨p,rfl,hp⟩:=args1 hxs
        subst hts'
        have h1:=hρ p
        rw [hp] at h1
        have hm:(#[p]:Array Operand).map r=#[r p]:=by simp
        rw [hm]
        refine Ran.of_just (s:=Builtin.cap_ #[t] type #[r p]) H ⟨.int .i64 0,?_,.i _ _ (.v _)⟩ rfl
        simp [Builtin.cap_,Cj h1,run_underlying (Ed he'),goInt]
      · rename_i k a k' b hxs
        cases hst
        obtain ⟨p,q,rfl,hp,hq⟩:=args2 hxs
        have h1:=hρ p
        rw [hp] at h1
        have h2:=hρ q
        rw [hq] at h2
        have hm:(#[p,q]:Array Operand).map r=#[r p,r q]:=by simp
        rw [hm]
        refine Ran.of_just (s:=Builtin.min_ ts type #[r p,r q]) H ⟨.int k (if b < a then b else a),?_,.i _ _ (.v _)⟩ rfl
        simp [Builtin.min_,Cj h1,Cj h2,Builtin.min2]
      · rename_i k a k' b hxs
        cases hst
        obtain ⟨p,q,rfl,hp,hq⟩:=args2 hxs
        have h1:=hρ p
        rw [hp] at h1
        have h2:=hρ q
        rw [hq] at h2
        have hm:(#[p,q]:Array Operand).map r=#[r p,r q]:=by simp
        rw [hm]
        refine Ran.of_just (s:=Builtin.max_ ts type #[r p,r q]) H ⟨.int k (if b > a then b else a),?_,.i _ _ (.v _)⟩ rfl
        simp [Builtin.max_,Cj h1,Cj h2,Builtin.max2]
      · cases hst
    | _ => simp at hst
  | _ => simp at hst
def Dy (P:Program) (h:Heap) (s:Name) (t:TypeId) (len:Nat) (parts:List (Nat × PV)):Option Out :=
  match Bw P t with
  | some e => match B6 P e with
    | some zs => if zs.all Value.oneCell' ∧ len * zs.length ≤ 16777216 ∧ 0 < zs.length then
        match Jr (fun i => some (i * zs.length,zs.length)) parts ((Cc zs len).map fun x => .i (.v x)) with
        | some cs => if cs.length=len * zs.length then Ec h s (.var cs) (.view s 0 zs.length len cs.length) [] else none
        | none => none
      else none
    | none => none
  | none => none
def Il (P:Program) (h:Heap) (s:Name) (t:TypeId) (x y:PV):Option Out :=
  match Bw P t with
  | some e => match B6 P e with
    | some zs => match y with
      | .view b2 off2 z2 m top2 => match h b2 with
        | some (.var ys) => if 0 < zs.length ∧ 0 < m ∧ off2=0 ∧ z2=zs.length ∧ ys.length=top2 ∧ ys.length=m * zs.length then
            match x with
            | .i (.v (.slice none 0 0)) => if m * P.bytesOf e ≤ 140737488355328 ∧ m ≤ maxLen then Ec h s (.var ys) (.view s 0 zs.length m ys.length) [] else none
            | .view b off z n top => match h b with
              | some (.var cs) => if cs.length=top ∧ off=0 ∧ z=zs.length ∧ cs.length=n * zs.length ∧ (n + m) * P.bytesOf e ≤ 140737488355328 ∧ n + m ≤ maxLen then
                  some ⟨.view b 0 zs.length (n + m) (cs ++ ys).length,[(b,.var (cs ++ ys))]⟩ else none
              | _ => none
            | _ => none
          else none
        | _ => none
      | _ => none
    | none => none
  | none => none
theorem Vj (H:HInv β h w) {s:Name} (hs:h s=none) {cs:List PV} {c:Array Value} (e:TypeId) (hl:cs.length ≤ c.size) (hc:∀ j x,cs[j]?=some x → (c.getD j undef).oneCell'=true ∧ Rep β h w x (c.getD j undef)) :
    HInv (setβ β s w.heap.size) (h.put s (.var cs)) (w.alloc (.cells c e)) ∧ Ext β h w (setβ β s w.heap.size) (h.put s (.var cs)) (w.alloc (.cells c e)) ∧
    (∀ z n cap,n ≤ cap → cap * z ≤ c.size → cs.length ≤ cap * z → Rep (setβ β s w.heap.size) (h.put s (.var cs)) (w.alloc (.cells c e)) (.view s 0 z n cs.length) (.slice (some ⟨w.heap.size,0,none⟩) n cap)):=by
  have E:=Ext.new (β:=β) (w:=w) hs (.var cs) (.cells c e)
  refine ⟨HInv.new H hs _ c e ⟨hl,fun j y hj => ⟨(hc j y hj).1,RepP.mono H E (hc j y hj).2⟩⟩,E,fun z n cap hn hz hq => ?_⟩
  refine .view _ _ _ _ _ (.var cs) _ _ (Heap.put_same _ _ _) rfl (Nat.le_refl _) hn (fun he => by cases he) fun _ => .inr ⟨?_,?_,by simpa using hq⟩
  · rw [Cu]
  · rw [Cu]
    unfold szW
    rw [heap_alloc_new]
    simpa using hz
theorem Mj (H:HInv β h w) {t:TypeId} {s:Name} {len:Nat} {L:List (Nat × PV × Value)} (hL:Parts β h w L) {o:Out} (ho:Dy P h s t len (L.map fun q => (q.1,q.2.1))=some o) :
    Does P β h w (Instr.buildSlice t len (L.map fun q => (q.1,q.2.2)).toArray) o.ups fun β h w u => Rep β h w o.val u:=by
  unfold Dy at ho
  split at ho
  case h_2 => cases ho
  rename_i e he
  have hu:=Ed he
  split at ho
  case h_2 => cases ho
  rename_i zs hz
  obtain ⟨i,z,hi,hzz,hsz,rfl,hlen⟩:=Ez hz
  split at ho
  case isFalse => cases ho
  rename_i hc
  obtain ⟨hall,hbig,hpos⟩:=hc
  split at ho
  case h_2 => cases ho
  rename_i cs hf
  split at ho
  case isFalse => cases ho
  rename_i hvl
  obtain ⟨hs,rfl⟩:=Dp ho
  simp only [Array.length_toList] at *
  have hpl:(fun j => some (j * z.cells.size,z.cells.size))=fun j => some (j * i.size,i.size):=by rw [hsz]
  obtain ⟨c',hfill,hsz',hlen',hr',h1',ho'⟩:=Ji _ L _ cs (Cc z.cells.toList len).toArray hL (by simp) (fun j x hj => Oq (β:=β) (h:=h) (w:=w) (Cc z.cells.toList len) j x hj)
    (fun u hu => List.all_eq_true.1 (Hm hall len) u (by simpa using hu)) (Or (Hm hall len)) hf
  have hrun:(Instr.buildSlice t len (L.map fun q => (q.1,q.2.2)).toArray).run P w=.ok (.slice (some ⟨w.heap.size,0,none⟩) len len) (w.alloc (.cells c' e)):=by
    rw [hpl] at hfill
    by_cases h0:len=0
    · subst h0
      have hz0:(Cc z.cells.toList 0).toArray=#[]:=rfl
      rw [hz0] at hfill
      simp [Instr.buildSlice,run_underlying hu,sizeOf,typeInfo,hi,newRow,hfill,Array.range_zero']
    · refine run_buildSlice w t e len _ c' i z hu hi hzz (by rw [← hsz]; omega) (by
        have:=Nat.mul_pos (Nat.pos_of_ne_zero h0) (show 0 < i.size by omega)
        omega) ?_
      rw [← hsz,H4 z.cells hpos len]
      rw [hsz]
      exact hfill
  obtain ⟨H1,E1,R1⟩:=Vj (cs:=cs) (c:=c') H hs e (by omega) (fun j x hj => by
    have hlt:j < cs.length:=(List.getElem?_eq_some_iff.1 hj).1
    have h7:=hr' _ _ hj
    have h8:x=cs[j]:=by rw [List.getElem?_eq_getElem hlt] at hj; exact (Option.some.inj hj).symm
    exact ⟨Fp (List.all_eq_true.1 ho' _ (h8 ▸ List.getElem_mem hlt)) h7,h7⟩)
  unfold Does
  simp only [List.nil_append,Heap.ups_cons,Heap.ups_nil]
  exact ⟨_,_,_,hrun,H1,E1,R1 z.cells.size len len (Nat.le_refl _) (by omega) (by omega)⟩
theorem Q3 (H:HInv β h w) {t t' ty:TypeId} {e':TypeId} (ht':P.underlying t'=some (.slice e')) {s:Name} {x y:PV} {v u:Value} (hx:Rep β h w x v) (hy:Rep β h w y u) {o:Out} (ho:Il P h s t x y=some o) :
    Does P β h w (Builtin.append_ #[t,t'] ty #[v,u]) o.ups fun β h w r => Rep β h w o.val r:=by
  unfold Il at ho
  split at ho
  case h_2 => cases ho
  rename_i e he
  have hu:=Ed he
  split at ho
  case h_2 => cases ho
  rename_i zs hz
  obtain ⟨i,z,hi,hzz,hsz,rfl,hlen⟩:=Ez hz
  split at ho
  case h_2 => cases ho
  rename_i b2 off2 z2 m top2
  split at ho
  case h_2 => cases ho
  rename_i ys hb2
  split at ho
  case isFalse => cases ho
  rename_i hc
  obtain ⟨hpos,hm,rfl,rfl,rfl,hyl⟩:=hc
  simp only [Array.length_toList] at *
  have hbi:P.bytesOf e=i.bytes:=by simp [Program.bytesOf,hi]
  rw [hbi] at ho
  have hposi:0 < i.size:=by omega
  -- the source
  obtain ⟨cap2,rfl⟩:∃ cap2,u=.slice (some ⟨β b2,0,none⟩) m cap2:=by
    cases hy with
    | view b off z n top x a cap hb hrow ht hn ha hva =>
      rw [hb2] at hb; cases hb
      rcases hva rfl with ⟨h0,_,_⟩|⟨h0,_,_⟩
      · omega
      · exact ⟨cap,by rw [h0]⟩
  obtain ⟨cy,ey,hcy,hry,hcelly⟩:=Ek H hb2
  generalize hnews:(List.range ys.length).map (fun j => cy.getD j undef)=news
  have hnl:news.length=ys.length:=by rw [← hnews]; simp
  have hng:∀ j,j < ys.length → news.getD j undef=cy.getD j undef:=fun j hj => by rw [← hnews]; simp [hj]
  have hn1:∀ v ∈ news,v.oneCell'=true:=fun v hv => by
    rw [← hnews] at hv
    obtain ⟨j,hj,rfl⟩:=List.mem_map.1 hv
    have hj:=List.mem_range.1 hj
    exact (hry.2 j _ (List.getElem?_eq_getElem hj)).1
  have hnr:∀ j x,ys[j]?=some x → (news.getD j undef).oneCell'=true ∧ Rep β h w x (news.getD j undef):=fun j x hj => by
    rw [hng j (List.getElem?_eq_some_iff.1 hj).1]
    exact hry.2 j x hj
  have hcl:∀ (j:Nat) v,news[j]?=some v → w.cell? ((⟨β b2,0,none⟩:Addr).add j)=some v:=fun j v hj => by
    rw [← hnews,List.getElem?_map] at hj
    by_cases hlt:j < ys.length
    · rw [List.getElem?_range hlt] at hj
      simp at hj
      rw [add_lit,Nat.zero_add,hcelly j (by have:=hry.1; omega),← hj]
      simp [Array.getD_eq_getD_getElem?]
    · rw [List.getElem?_eq_none (by simpa using hlt)] at hj; simp at hj
  have hns:news.length=m * i.size:=by rw [hnl,hyl,hsz]
  have hsrc:Src1 P w i.size (.slice (some ⟨β b2,0,none⟩) m cap2) m news :=
    ⟨fun w' => rfl,run_firstCells_some (P:=P) w i.size m _ m cap2 _ hns hcl,run_firstCells_some (P:=P) w.drew i.size m _ m cap2 _ hns (by simpa using hcl),hns⟩
  split at ho
  · -- nil
    rename_i hxv
    split at ho
    case isFalse => cases ho
    rename_i hcc
    obtain ⟨hby,hmx⟩:=hcc
    obtain ⟨hs,rfl⟩:=Dp ho
    have hv:=Cj hx
    cases hv
    have h63:((0 + m:Nat):Int) ≤ 9223372036854775807:=by simp only [maxLen] at hmx; omega
    have hrun:=Mm hu ht' hi hzz ty none 0 0 _ m [] news hsrc (by simp [Builtin.firstCells]) (by omega) h63 (growslice_fits (by omega) (by rw [Nat.zero_add]; exact hby))
    have hge:=grownCap_ge w (0 + m) 0 e
    obtain ⟨H1,E1,R1⟩:=Vj (cs:=ys) (s:=s) (β:=β) (w:=w.drew) H.drew hs e (c:=([]:List Value).toArray ++ news.toArray ++ Builtin.zeroCells z.cells (grownCap w (0 + m) 0 e - (0 + m))) (by simp; omega) (fun j x hj => by
      have hlt:=(List.getElem?_eq_some_iff.1 hj).1
      rw [Jf j (by simp; omega)]
      simp only [List.length_nil,Nat.not_lt_zero,if_false,Nat.sub_zero]
      exact ⟨(hnr j x hj).1,RepP.mono H (Ext.drew β h w) (hnr j x hj).2⟩)
    have R2:=R1 i.size (0 + m) (grownCap w (0 + m) 0 e) hge (by rw [Je (n:=0) (by simp) (by rw [hsrc.size,hsz]) hge,hsz]; exact Nat.le_refl _) (by rw [hyl,hsz]; exact Nat.mul_le_mul_right _ (by omega))
    unfold Does
    simp only [List.nil_append,Heap.ups_cons,Heap.ups_nil]
    refine ⟨_,_,_,hrun,H1,(Ext.drew β h w).trans E1,?_⟩
    rw [hsz]
    simpa using R2
  · -- one's own
    rename_i b off z' n top
    split at ho
    case h_2 => cases ho
    rename_i cs hb
    split at ho
    case isFalse => cases ho
    rename_i hcc
    obtain ⟨rfl,rfl,rfl,hc4,hby,hmx⟩:=hcc
    cases ho
    have h63:((n + m:Nat):Int) ≤ 9223372036854775807:=by simp only [maxLen] at hmx; omega
    cases hx with
    | view _ _ _ _ _ x a cap hb' hrow ht hn ha hva =>
      rw [hb] at hb'; cases hb'
      obtain ⟨c,e0,hcg,hr,hcell⟩:=Ek H hb
      have hypos:0 < ys.length:=by rw [hyl]; exact Nat.mul_pos hm hpos
      have hlt:(Box.var cs).len < (Box.var (cs ++ ys)).len:=by simp [Box.len]; omega
      have grow:∀ olds:List Value,olds.length=n * i.size → (∀ j x,cs[j]?=some x → (olds.getD j undef).oneCell'=true ∧ Rep β h w x (olds.getD j undef)) → cap < n + m →
          (Builtin.firstCells i.size n (.slice a n cap)).run P w.drew=.ok olds.toArray w.drew →
          Does P β h w (Builtin.append_ #[t,t'] ty #[.slice a n cap,.slice (some ⟨β b2,0,none⟩) m cap2]) [(b,.var (cs ++ ys))] fun β h w r => Rep β h w (.view b 0 z.cells.size (n + m) (cs ++ ys).length) r:=by
        intro olds hol hor hg hfirst
        have hrun:=Mm hu ht' hi hzz ty a n cap _ m olds news hsrc hfirst hg h63 (growslice_fits hg hby)
        have hge:=grownCap_ge w (n + m) cap e
        have hcsz:=Je (z:=z.cells) (olds:=olds) (news:=news) (n:=n) (m:=m) (cap:=grownCap w (n + m) cap e) (by rw [hol,hsz]) (by rw [hsrc.size,hsz]) hge
        have E0:=Ext.drew β h w
        have E1:=Ext.move (β:=β) (w:=w.drew) (x':=.var (cs ++ ys)) H.drew hb (.cells (olds.toArray ++ news.toArray ++ Builtin.zeroCells z.cells (grownCap w (n + m) cap e - (n + m))) e) rfl hlt
        have hcsl:cs.length=olds.length:=by rw [hc4,hol,hsz]
        refine ⟨_,_,_,hrun,?_,E0.trans E1,?_⟩
        · refine HInv.move (β:=β) (w:=w.drew) H.drew hb _ e rfl hlt ⟨?_,fun j y hj => ?_⟩
          · simp; omega
          · have hjl:=(List.getElem?_eq_some_iff.1 hj).1
            simp only [List.length_append] at hjl
            rw [Jf j (by omega)]
            rw [List.getElem?_append] at hj
            split
            · rename_i hlo
              rw [if_pos (by omega)] at hj
              exact ⟨(hor j y hj).1,RepP.mono H.drew E1 (RepP.mono H E0 (hor j y hj).2)⟩
            · rename_i hlo
              rw [if_neg (by omega),hcsl] at hj
              exact ⟨(hnr _ y hj).1,RepP.mono H.drew E1 (RepP.mono H E0 (hnr _ y hj).2)⟩
        · refine .view _ _ _ _ _ (.var (cs ++ ys)) _ _ (Heap.put_same _ _ _) rfl (Nat.le_refl _) hge (fun he => by cases he) fun _ => .inr ⟨?_,?_,?_⟩
          · rw [Cu]; rfl
          · rw [Cu]
            unfold szW
            rw [show w.drew.heap.size=w.drew.heap.size from rfl,heap_alloc_new]
            simp only [hcsz]
            omega
          · have:=Nat.mul_le_mul_right z.cells.size hge
            rw [Nat.add_mul] at this
            simp only [List.length_append]
            omega
      by_cases hroom:n + m ≤ cap
      · rcases hva rfl with ⟨h0,h00,h0t⟩|⟨h0,h00,h0t⟩
        · omega
        · subst h0
          have hszc:szW w (β b)=c.size:=by unfold szW; rw [hcg]
          rw [hszc] at h00
          have hfit:n * i.size + news.length ≤ c.size:=by
            rw [hsrc.size,← Nat.add_mul]
            have:=Nat.mul_le_mul_right i.size hroom
            rw [hsz] at h00
            omega
          have hrun:=Wj hu ht' hi hzz ty (β b) n cap e0 c hcg _ m news hsrc hn1 hroom hfit
          rw [show (c.toList.take (n * i.size) ++ news ++ c.toList.drop (n * i.size + news.length))=Cf c.toList (n * i.size) news from rfl] at hrun
          have hsp:(Cf c.toList (n * i.size) news).toArray.size=c.size:=by simp [C6 (cs:=c.toList) (vs:=news) (off:=n * i.size) (by simpa using hfit)]
          have E:=Ext.write (x':=.var (cs ++ ys)) H hb rfl rfl hcg hsp rfl (Nat.le_of_lt hlt)
          have hcsl:cs.length=n * i.size:=by rw [hc4,hsz]
          refine ⟨β,_,_,hrun,HInv.write H hb rfl rfl hcg hsp rfl (Nat.le_of_lt hlt) ⟨?_,fun j y hj => ?_⟩,E,?_⟩
          · rw [hsp]; simp; omega
          · have hjl:=(List.getElem?_eq_some_iff.1 hj).1
            simp only [List.length_append] at hjl
            rw [E4 hfit]
            rw [List.getElem?_append] at hj
            split
            · rename_i hin
              rw [if_neg (by omega),hcsl] at hj
              exact ⟨(hnr _ y hj).1,RepP.mono H E (hnr _ y hj).2⟩
            · rename_i hin
              rw [if_pos (by omega)] at hj
              exact ⟨(hr.2 j y hj).1,RepP.mono H E (hr.2 j y hj).2⟩
          · refine .view _ _ _ _ _ (.var (cs ++ ys)) _ _ (Heap.put_same _ _ _) rfl (Nat.le_refl _) hroom (fun he => by cases he) fun _ => .inr ⟨rfl,?_,?_⟩
            · rw [I1 w _ c _ e0 hcg hsp,hszc]
              omega
            · have:=Nat.mul_le_mul_right z.cells.size hroom
              rw [Nat.add_mul] at this
              simp only [List.length_append]
              omega
      · rcases hva rfl with ⟨h0,h00,h0t⟩|⟨h0,h00,h0t⟩
        · subst h0
          have hcs0:cs=[]:=List.eq_nil_of_length_eq_zero (by rw [hc4,Nat.zero_mul])
          refine grow [] (by simp) (fun j x hj => by simp [hcs0] at hj) (by omega) ?_
          cases a <;> simp [Builtin.firstCells,loadCells,loadCellsFrom]
        · subst h0
          have hcsl:cs.length=n * i.size:=by rw [hc4,hsz]
          refine grow ((List.range (n * i.size)).map fun j => c.getD j undef) (by simp) (fun j x hj => ?_) (by omega) ?_
          · have hlt':=(List.getElem?_eq_some_iff.1 hj).1
            have:((List.range (n * i.size)).map fun j => c.getD j undef).getD j undef=c.getD j undef:=by
              rw [List.getD_eq_getElem?_getD,List.getElem?_map,List.getElem?_range (by omega)]; rfl
            rw [this]
            exact hr.2 j x hj
          · simp only [Builtin.firstCells]
            refine Ga (w:=w.drew) _ _ _ fun j hj => ?_
            rw [add_lit,Nat.zero_add]
            exact hcell j (by have:=hr.1; omega)
  · cases ho
def Ax:Op → Bool
  | .call { callee:=.value _,.. } => true
  | .call { callee:=.builtin .append,.. } => true
  | .buildSlice .. => true
  | _ => false
def Es (P:Program) (h:Heap) (s:Name) (ρ:Operand → PV) (op:Op):Option Out :=
  match op with
  | .buildSlice t n ps => Dy P h s t n (ps.toList.map fun p => (p.1,ρ p.2))
  | .call { callee:=.builtin .append,args:=as,argTypes:=ts } => match ts.toList,as.toList.map ρ with
    | [t,t'],[x,y] => if (Bw P t').isSome then Il P h s t x y else none
    | _,_ => none
  | _ => none
theorem Qn (H:HInv β h w) (s:Name) {ρ:Operand → PV} {r:Operand → Value} (hρ:∀ x,Rep β h w (ρ x) (r x)) (o:Oper) {out:Out} (hst:Es P h s ρ o.op=some out):Ran P β h w (execOp r o) out:=by
  obtain ⟨dst,op,type,pos,after,guard⟩:=o
  unfold Es at hst
  unfold execOp
  simp only at hst
  split at hst
  · rename_i t n ps
    have hL:Parts β h w (ps.toList.map fun p => (p.1,ρ p.2,r p.2)):=⟨fun q hq => by
      obtain ⟨p,hp,rfl⟩:=List.mem_map.1 hq; exact hρ p.2⟩
    have h1:(ps.toList.map fun p => (p.1,ρ p.2))=((ps.toList.map fun p => (p.1,ρ p.2,r p.2)).map fun q => (q.1,q.2.1)):=by rw [List.map_map]; rfl
    have h2:(ps.map fun p => (p.1,r p.2))=(((ps.toList.map fun p => (p.1,ρ p.2,r p.2)).map fun q => (q.1,q.2.2))).toArray:=by rw [List.map_map]; apply Array.ext'; simp
    rw [h1] at hst
    have:=Mj H hL hst
    rw [← h2] at this
    exact Ran.of_does this
  · rename_i args ts
    simp only [resolve,invoke,Sem.run_bind,Sem.run_pure,Result.andThen_ok,pure_bind]
    split at hst
    · rename_i t t' x y hts hxs
      have hts':ts=#[t,t']:=by apply Array.ext'; simpa using hts
      obtain ⟨p,q,rfl,rfl,rfl⟩:=args2 hxs
      subst hts'
      have hm:(#[p,q]:Array Operand).map r=#[r p,r q]:=by simp
      rw [hm]
      split at hst
      · rename_i he'
        obtain ⟨e',he'⟩:=Option.isSome_iff_exists.1 he'
        exact Ran.of_does (Q3 H (Ed he') (hρ p) (hρ q) hst)
      · cases hst
    · cases hst
  · cases hst
end Go.Proofs.Ythnfphgjfpcpbaa.TM
namespace Go.Proofs.Ythnfphgjfpcpbaa.TM
open Go
inductive Ex where
  | normal
  | exit (id:Nat)
  | ret
  deriving DecidableEq
def Ex.real:Ex → Exit
  | .normal => .normal
  | .exit i => .exit i
  | .ret => .ret
abbrev B9:=Name → FuncId → List PV → Heap → PV → Heap → Prop
def A7 (P:Program) (g:FuncId):Bool :=
  match P.funcs[g]? with
  | some fn => !(fn.name == "runtime.NumGoroutine") && fn.body.isSome
  | none => false
def Db (t:List PV) (c:Call):Option (FuncId × List PV) :=
  match c.callee with
  | .value f => match St.opnd t f with
    | .i (.v (.func (.func g) first captured)) => if first.size=0 ∧ captured.size=0 then some (g,c.args.toList.map (St.opnd t)) else none
    | .clo g caps => some (g,c.args.toList.map (St.opnd t) ++ caps)
    | _ => none
  | _ => none
def Cv {α γ:Type} (f:α → Option γ):List α → Option (List γ)
  | [] => some []
  | x::xs => match f x,Cv f xs with
    | some y,some ys => some (y::ys)
    | _,_ => none
def Cl (h:Heap):PV → Option PV
  | .i (.v (.slice none 0 0)) => some (.i (.l 0 []))
  | .i x => some (.i x)
  | .zip => some (.i (.l 0 []))
  | .iref cs off => some (.iref cs off)
  | .view b off z n top => match h b with
    | some (.row _ cs) => if cs.length=top ∧ off + n * z ≤ cs.length then some (.i (.l n ((cs.drop off).take (n * z)))) else none
    | _ => none
  | _ => none
def Fr:PV → Option PV
  | .iref cs off => some (.iref cs off)
  | .i (.v x) => some (.i (.v x))
  | _ => none
def F4 (h:Heap):PV → Option PV
  | .ref b off top => match h b with
    | some (.var [.i x]) => if off=0 ∧ top=1 then some (.iref [x] 0) else none
    | _ => none
  | p => Fr p
def Ch (h:Heap):PV → Option PV
  | .agg cs => (Cv (Cl h) cs).map .agg
  | .clo f cs => (Cv Fr cs).map (.clo f)
  | p => Cl h p
def Fc (h:Heap):PV → Option PV
  | .tup cs => (Cv (Ch h) cs).map .tup
  | .clo f cs => (Cv (F4 h) cs).map (.clo f)
  | p => Ch h p
def A1:PV → Bool
  | .i (.v _) => true
  | _ => false
def A4:PV → Bool
  | .agg cs => cs.all A1
  | p => A1 p
def Aw:PV → Bool
  | .tup cs => cs.all A4
  | p => A4 p
def An:PV → List Name
  | .view b _ _ _ _ => [b]
  | _ => []
def Al:PV → List Name
  | .agg cs => cs.flatMap An
  | p => An p
def B7 (h:Heap) (bs:List Name):List (Name × Box) :=
  bs.filterMap fun b => match h b with
    | some (.row _ cs) => some (b,.row true cs)
    | _ => none
def Sl (C:B9) (s:Name) (g:FuncId) (args:List PV) (h:Heap) (v:PV) (us:List (Name × Box)):Prop :=
  ∃ largs u hu,Cv (Ch h) args=some largs ∧ C s g largs Heap.none u hu ∧ Fc hu u=some v ∧ us=if Aw v then [] else B7 h (args.flatMap Al)
def Ng (h:Heap) (b s:Name):PV → Option PV
  | .view c off z n top => if c=b then some (.view s off z n top) else Cl h (.view c off z n top)
  | p => Cl h p
def Nh (h:Heap) (b s:Name):PV → Option PV
  | .agg cs => (Cv (Ng h b s) cs).map .agg
  | p => Ng h b s p
def Qd (h:Heap) (b s:Name):PV → Option PV
  | .tup cs => (Cv (Nh h b s) cs).map .tup
  | p => Nh h b s p
def Sm (C:B9) (s:Name) (g:FuncId) (args:List PV) (h:Heap) (v:PV) (us:List (Name × Box)):Prop :=
  ∃ largs b u cs hu,Cv (Ch h) args=some largs ∧ C s g largs Heap.none u hu ∧ hu b=some (.row false cs) ∧ h s=none ∧ Qd hu b s u=some v ∧ us=B7 h (args.flatMap Al) ++ [(s,.row false cs)]
def isV (b:Name):PV → Bool
  | .view c _ _ _ _ => c == b
  | _ => false
def reV (b0:Name):PV → PV
  | .view _ off z n top => .view b0 off z n top
  | p => p
def wN:Name:=[(950,0)]
def Fz (h:Heap) (b:Name) (p:PV):Option PV:=if isV b p=true then some (reV wN p) else if (Al p).contains b=true then none else Ch h p
def H8 (b:Name):Name → Bool:=fun c => !(c == b)
def Si (C:B9) (s:Name) (g:FuncId) (args:List PV) (h:Heap) (v:PV) (us:List (Name × Box)):Prop :=
  ∃ b largs cs cs' hu,h b=some (.row false cs) ∧ b ∈ args.flatMap Al ∧ Cv (Fz h b) args=some largs ∧ C s g largs (Heap.none.put wN (.row false cs)) v hu ∧ hu wN=some (.row false cs') ∧ Aw v=true ∧ cs'.length=cs.length ∧
    us=B7 h ((args.flatMap Al).filter (H8 b)) ++ [(b,.row false cs')]
def PureCall (C:B9) (s:Name) (g:FuncId) (args:List PV) (h:Heap) (v:PV) (us:List (Name × Box)):Prop :=
  Sl C s g args h v us ∨ Sm C s g args h v us ∨ Si C s g args h v us
mutual
def Bn:PV → List Name
  | .view b _ _ _ _ => [b]
  | .ref b _ _ => [b]
  | .mref b => [b]
  | .agg cs => Bs cs
  | .tup cs => Bs cs
  | .clo _ cs => Bs cs
  | _ => []
def Bs:List PV → List Name
  | [] => []
  | p::ps => Bn p ++ Bs ps
end
def Sj (P:Program) (C:B9) (s:Name) (t:List PV) (h:Heap) (op:Op) (v:PV) (h':Heap):Prop :=
  (∃ out,Ao P h s (St.opnd t) op=some out ∧ v=out.val ∧ h'=h.ups out.ups) ∨
  (∃ s' out,Ax op=true ∧ (Ao P h s' (St.opnd t) op=some out ∨ Es P h s' (St.opnd t) op=some out) ∧ v=out.val ∧ h'=h.ups out.ups) ∨
  (∃ c g args,op=.call c ∧ Db t c=some (g,args) ∧ A7 P g=true ∧ (C s g args h v h' ∨ ∃ us,PureCall C s g args h v us ∧ h'=h.ups us))
def E5 (ops:Array Oper) (t:List PV) (o:Oper):Option Bool :=
  match o.guard with
  | none => some true
  | some (j,want) => match ((ops[j]?).bind (·.dst)).bind (t[·]?) with
    | some (.i (.v (.bool b))) => some (b == want)
    | some (.tup []) => some false
    | _ => none
def Dg (P:Program) (C:B9) (base:Name) (id:Nat) (ops:Array Oper):Nat → List Oper → List PV → Heap → (List PV → Heap → Prop) → Prop
  | _,[],t,h,Q => Q t h
  | i,o::os,t,h,Q => match E5 ops t o with
    | none => False
    | some false => Dg P C base id ops (i + 1) os (Cx t o.dst Cr) h Q
    | some true => ∃ v h',Sj P C ((id,i)::base) t h o.op v h' ∧ Dg P C base id ops (i + 1) os (Cx t o.dst v) h' Q
structure Eff where
  val:PV
  ups:List (Name × Box)
  touch:List Name
def Aq:Op → Bool
  | .load .. => true
  | .store .. => true
  | .box .. => true
  | .buildSlice .. => true
  | .convert .. => true
  | .lookup .. => true
  | .mapUpdate .. => true
  | .call _ => true
  | _ => false
def H5 (op:Op) (ps:List PV):List Name:=if Aq op then Bs ps else []
def Eo (t:List PV) (op:Op):List PV:=op.operands.toList.map (St.opnd t)
def LocalR (P:Program) (C:B9) (s:Name) (t:List PV) (h:Heap) (op:Op) (e:Eff):Prop :=
  (∃ out,Ao P h s (St.opnd t) op=some out ∧ e=⟨out.val,out.ups,s::H5 op (Eo t op)⟩) ∨
  (∃ s' out,Ax op=true ∧ Ao P h s' (St.opnd t) op=some out ∧ e=⟨out.val,out.ups,s'::H5 op (Eo t op)⟩) ∨
  (∃ c g args v us,op=.call c ∧ Db t c=some (g,args) ∧ A7 P g=true ∧ PureCall C s g args h v us ∧ e=⟨v,us,s::(args.flatMap Al ++ Bs (Eo t op))⟩)
def Zh (P:Program) (C:B9) (base:Name) (id:Nat) (ops:Array Oper) (i:Nat) (t:List PV) (h:Heap) (o:Oper) (e:Eff):Prop :=
  match E5 ops t o with
  | none => False
  | some false => e=⟨Cr,[],[]⟩
  | some true => LocalR P C ((id,i)::base) t h o.op e
def Effs (P:Program) (C:B9) (base:Name) (id:Nat) (ops:Array Oper):Nat → List Oper → List Eff → List PV → Heap → (List PV → Heap → Prop) → Prop
  | _,[],[],t,h,Q => Q t h
  | i,o::os,e::es,t,h,Q => Zh P C base id ops i t h o e ∧ Effs P C base id ops (i + 1) os es (Cx t o.dst e.val) (h.ups e.ups) Q
  | _,_,_,_,_,_ => False
def Dr:Name → Nat × Nat
  | x::_ => x
  | [] => (0,0)
def dirs (o:Oper):List Nat:=(o.after.toList.filter fun e => Region.binds .any e).map (·.on)
def Oo:List Oper → List Nat → List Nat
  | [],acc => acc
  | o::os,acc => Oo os (acc ++ [(dirs o).foldl (fun s d => s ||| 2 ^ d ||| acc.getD d 0) 0])
def Gn (ops:Array Oper) (oi:Oper) (ei:Eff) (oj:Oper) (ej:Eff):Bool :=
  oi.apart ops oj && (ei.ups.all fun u => !(ej.touch.any fun b => Dr b == Dr u.1) && !(ej.ups.any fun v => Dr v.1 == Dr u.1)) && (ej.ups.all fun u => !(ei.touch.any fun b => Dr b == Dr u.1))
def Na (ops:Array Oper) (effs:List Eff):Bool :=
  (ops.toList.zipIdx.all fun q => (dirs q.1).all fun d => d < q.2) &&
  ((ops.toList.zip effs).zipIdx.all fun qj => (((ops.toList.zip effs).take qj.2).zipIdx).all fun qi =>
    ((Oo ops.toList []).getD qj.2 0).testBit qi.2 || Gn ops qi.1.1 qi.1.2 qj.1.1 qj.1.2)
def Di:List Bool → List PV → List PV
  | k::ks,x::xs => (if k then x else .dead)::Di ks xs
  | _,_ => []
def Heap.drop (h:Heap) (bs:List Name):Heap:=fun c => if c ∈ bs then Option.none else h c
def Forget (h0:Heap) (t:List PV) (h:Heap) (ks:List Bool) (bs:List Name):Prop :=
  ks.length=t.length ∧ (∀ b ∈ bs,h0 b=none) ∧ (∀ b ∈ bs,b ∉ Bs (Di ks t)) ∧ ∀ c cs,h.drop bs c=some (.var cs) → ∀ b ∈ bs,b ∉ Bs cs
def Wq (h0:Heap) (B:List PV → Heap → (Ex → List PV → Heap → Prop) → Prop) (ks:List Bool) (bs:List Name):Nat → List PV → Heap → (Ex → List PV → Heap → Prop) → Prop
  | 0,_,_,_ => False
  | n + 1,t,h,Q => Forget h0 t h ks bs ∧ B (Di ks t) (h.drop bs) fun e t' h' => match e with
    | .normal => Wq h0 B ks bs n t' h' Q
    | e => Q e t' h'
def KpT (β:Pl) (h:Heap) (w W W':World):Prop:=∀ blk,blk < w.heap.size → (Shut β h blk → W'.heap[blk]?=W.heap[blk]?) ∧ szW W' blk=szW W blk
def IterC (P:Program) (f:FuncId) (caps:List PV) (h:Heap) (bs:List Name) (α:Type) (enc:α → List PV) (S:List α → Prop) (N:Nat):Prop :=
  ∀ (β:Pl) (w:World) (lb:Array Value),HInv β h w → (lb.size=caps.length ∧ ∀ j p,caps[j]?=some p → Rep β h w p (lb.getD j undef)) →
    ∃ encs:α → Array Value,(∀ x,(encs x).size=(enc x).length ∧ ∀ j p,(enc x)[j]?=some p → Rep β (h.drop bs) w p ((encs x).getD j undef)) ∧
      ∀ n,1 ≤ n → SeqStopsK Fence.wide n P f lb encs (KpT β (h.drop bs) w) S (fun _ => True) N w
def Ps:List Oper → List PV → Option (List PV)
  | [],t => some t
  | o::os,t => match o.guard,o.op with
    | none,.assign x => Ps os (Cx t o.dst (St.opnd t x))
    | none,.move x => Ps os (Cx t o.dst (St.opnd t x))
    | _,_ => none
def T0:Code → List PV → Option (List PV)
  | .skip,t => some t
  | .region _ ops false,t => Ps ops.toList t
  | _,_ => none
def Ao0:List Tmp → List PV → List PV → List PV
  | p::ps,v::vs,t => Ao0 ps vs (t.set p v)
  | _,_,t => t
def Pr:Code → Bool
  | .rangeFunc .. => false
  | .seq a b => Pr a && Pr b
  | .cond _ a b => Pr a && Pr b
  | .block _ b => Pr b
  | .loop b => Pr b
  | _ => true
def Aq2 (h:Heap):Prop:=∀ b x,h b=some x → x.isMap=false
def RangeR (P:Program) (B:Heap → List PV → Heap → (Ex → List PV → Heap → Prop) → Prop) (h0:Heap) (g:Operand) (ps:Array Tmp) (assign:Code) (t:List PV) (h:Heap) (t':List PV) (h':Heap):Prop :=
  ∃ (f:FuncId) (caps:List PV) (ks:List Bool) (bs bs2:List Name) (α:Type) (enc:α → List PV) (S:List α → Prop) (N:Nat) (t1:α → List PV) (H:List α → Heap),
    t'=Di ks t ∧ St.opnd t g=.clo f caps ∧ A7 P f=true ∧ IterC P f caps h bs α enc S N ∧ Forget h0 t h ks bs ∧ H []=h.drop bs ∧
    (∀ x,(enc x).length=ps.size ∧ T0 assign (Ao0 ps.toList (enc x) (Di ks t))=some (t1 x)) ∧ (∀ pre,Aq2 (H pre)) ∧
    (∀ pre x,pre.length < N → B (H pre) (t1 x) (H pre) fun e t2 h2 => e=.normal ∧ Forget (H pre) t2 h2 (t2.map fun _ => false) bs2 ∧ h2.drop bs2=H (pre ++ [x])) ∧
    ∀ xs,S xs → H xs=h'
def W (P:Program) (C:B9) (h0:Heap) (base:Name):Code → List PV → Heap → (Ex → List PV → Heap → Prop) → Prop
  | .skip,t,h,Q => Q .normal t h
  | .region id ops draw,t,h,Q => if draw then ∃ effs,Na ops effs=true ∧ Effs P C base id ops 0 ops.toList effs t h (Q .normal) else Dg P C base id ops 0 ops.toList t h (Q .normal)
  | .seq a b,t,h,Q => W P C h0 base a t h fun e t' h' => match e with
    | .normal => W P C h0 base b t' h' Q
    | e => Q e t' h'
  | .cond c x y,t,h,Q => match St.opnd t c with
    | .i (.v (.bool b)) => if b then W P C h0 base x t h Q else W P C h0 base y t h Q
    | _ => False
  | .block id b,t,h,Q => W P C h0 base b t h fun e t' h' => if e=.exit id then Q .normal t' h' else Q e t' h'
  | .loop b,t,h,Q => ∃ n ks bs,Wq h0 (W P C h0 base b) ks bs n t h Q
  | .exit id,t,h,Q => Q (.exit id) t h
  | .ret,t,h,Q => Q .ret t h
  | .rangeFunc g ps assign body,t,h,Q => Pr body=true ∧ ∃ t' h',RangeR P (fun h1 t h Q => W P C h1 base body t h Q) h0 g ps assign t h t' h' ∧ Q .normal t' h'
  | _,_,_,_ => False
def J3 (P:Program) (t:List PV) (h:Heap):ResultVar → Option PV
  | .tmp k => some (t.getD k Cr)
  | .cell a ty => if Cb P ty then Ap P h ty (t.getD a Cr) else none
def Ij (P:Program) (fn:Func) (t:List PV) (h:Heap):Option PV :=
  match Cv (J3 P t h) fn.results.toList with
  | some [x] => some x
  | some xs => some (.tup xs)
  | none => none
def V1 (fn:Func) (args:List PV):List PV:=args ++ List.replicate (fn.ntmps - args.length) Cr
def Body (P:Program) (C:B9) (base:Name) (fn:Func) (c:Code) (args:List PV) (h:Heap) (v:PV) (h':Heap):Prop :=
  W P C h base c (V1 fn args) h fun e t hh => (e=.normal ∨ e=.ret) ∧ Ij P fn t hh=some v ∧ hh=h'
def Bd9 (P:Program) (C:B9):Prop :=
  ∀ base f fn c args h v h',P.funcs[f]?=some fn → fn.body=some c → Body P C base fn c args h v h' → C base f args h v h'
def Aw7 (P:Program):B9:=fun _ f args h v h' => ∀ (β:Pl) (w:World) (rargs:Array Value),HInv β h w → (rargs.size=args.length ∧ ∀ j p,args[j]?=some p → Rep β h w p (rargs.getD j undef)) →
  Calls P f rargs w fun e w' => ∃ rv β',e=.returned rv ∧ HInv β' h' w' ∧ Rep β' h' w' v rv ∧ Ext β h w β' h' w'
def CallR (P:Program):B9:=fun base f args h v h' => ∀ C:B9,Bd9 P C → (∀ b f a h v h',Aw7 P b f a h v h' → C b f a h v h') → C base f args h v h'
theorem CallR.of_sound {P:Program} {base:Name} {f:FuncId} {args:List PV} {h:Heap} {v:PV} {h':Heap} (hs:Aw7 P base f args h v h'):CallR P base f args h v h':=fun _ _ hS => hS _ _ _ _ _ _ hs
theorem PureCall.mono {C C':B9} (hC:∀ b f a h v h',C b f a h v h' → C' b f a h v h') {s:Name} {g:FuncId} {args:List PV} {h:Heap} {v:PV} {us:List (Name × Box)} (hp:PureCall C s g args h v us):PureCall C' s g args h v us:=by
  rcases hp with ⟨largs,u,hu,h5,h6,h7,h8⟩|⟨largs,b,u,cs,hu,h5,h6,h7⟩|⟨b,largs,cs,cs',hu,h3,h4,h5,h6,h7⟩
  · exact .inl ⟨largs,u,hu,h5,hC _ _ _ _ _ _ h6,h7,h8⟩
  · exact .inr (.inl ⟨largs,b,u,cs,hu,h5,hC _ _ _ _ _ _ h6,h7⟩)
  · exact .inr (.inr ⟨b,largs,cs,cs',hu,h3,h4,h5,hC _ _ _ _ _ _ h6,h7⟩)
theorem K2 {P:Program} {C C':B9} (hC:∀ b f a h v h',C b f a h v h' → C' b f a h v h') {base:Name} {id:Nat} {ops:Array Oper} :
    ∀ (os:List Oper) (i:Nat) (t:List PV) (h:Heap) {Q Q':List PV → Heap → Prop},(∀ t h,Q t h → Q' t h) → Dg P C base id ops i os t h Q → Dg P C' base id ops i os t h Q'
  | [],i,t,h,Q,Q',hQ,hw => hQ _ _ hw
  | o::os,i,t,h,Q,Q',hQ,hw => by
    unfold Dg at hw ⊢
    split at hw
    · exact hw.elim
    · rename_i hg; exact K2 hC os (i + 1) _ _ hQ hw
    · rename_i hg
      obtain ⟨v,h',hs,hw⟩:=hw
      refine ⟨v,h',?_,K2 hC os (i + 1) _ _ hQ hw⟩
      rcases hs with hs|hs|⟨c,g,args,h1,h2,h3,h4⟩
      · exact .inl hs
      · exact .inr (.inl hs)
      · refine .inr (.inr ⟨c,g,args,h1,h2,h3,?_⟩)
        rcases h4 with h4|⟨us,h4,h9⟩
        · exact .inl (hC _ _ _ _ _ _ h4)
        · exact .inr ⟨us,PureCall.mono hC h4,h9⟩
theorem Ni {P:Program} {C C':B9} (hC:∀ b f a h v h',C b f a h v h' → C' b f a h v h') {base:Name} {id:Nat} {ops:Array Oper} :
    ∀ (os:List Oper) (es:List Eff) (i:Nat) (t:List PV) (h:Heap) {Q Q':List PV → Heap → Prop},(∀ t h,Q t h → Q' t h) → Effs P C base id ops i os es t h Q → Effs P C' base id ops i os es t h Q'
  | [],[],i,t,h,Q,Q',hQ,hw => hQ _ _ hw
  | o::os,e::es,i,t,h,Q,Q',hQ,hw => by
    refine ⟨?_,Ni hC os es (i + 1) _ _ hQ hw.2⟩
    have h1:=hw.1
    unfold Zh at h1 ⊢
    split at h1
    · exact h1.elim
    · exact h1
    · rcases h1 with h1|h1|⟨c,g,args,v,us,h1,h2,h3,h4,h5⟩
      · exact .inl h1
      · exact .inr (.inl h1)
      · exact .inr (.inr ⟨c,g,args,v,us,h1,h2,h3,h4.mono hC,h5⟩)
  | [],_::_,_,_,_,_,_,_,hw => hw.elim
  | _::_,[],_,_,_,_,_,_,hw => hw.elim
theorem Bd2 {P:Program} {C C':B9} (hC:∀ b f a h v h',C b f a h v h' → C' b f a h v h') {base:Name} :
    ∀ (c:Code) (h0:Heap) (t:List PV) (h:Heap) {Q Q':Ex → List PV → Heap → Prop},(∀ e t h,Q e t h → Q' e t h) → W P C h0 base c t h Q → W P C' h0 base c t h Q':=by
  intro c
  induction c with
  | skip => intro h0 t h Q Q' hQ hw; exact hQ _ _ _ hw
  | region id ops draw =>
    intro h0 t h Q Q' hQ hw
    unfold W at hw ⊢
    split at hw
    · rename_i hd
      rw [if_pos hd]
      obtain ⟨effs,h1,h2⟩:=hw
      exact ⟨effs,h1,Ni hC _ _ _ _ _ (hQ .normal) h2⟩
    · rename_i hd
      rw [if_neg hd]
      exact K2 hC _ _ _ _ (hQ .normal) hw
  | seq a b iha ihb =>
    intro h0 t h Q Q' hQ hw
    refine iha h0 t h (fun e t' h' hq => ?_) hw
    cases e with
    | normal => exact ihb h0 t' h' hQ hq
    | exit id => exact hQ _ _ _ hq
    | ret => exact hQ _ _ _ hq
  | cond c x y ihx ihy =>
    intro h0 t h Q Q' hQ hw
    unfold W at hw ⊢
    split at hw
    · rename_i b hb
      split at hw
      · rename_i hbt; rw [if_pos hbt]; exact ihx h0 t h hQ hw
      · rename_i hbt; rw [if_neg hbt]; exact ihy h0 t h hQ hw
    · exact hw.elim
  | block id b ih =>
    intro h0 t h Q Q' hQ hw
    refine ih h0 t h (fun e t' h' hq => ?_) hw
    split at hq
    · rename_i he; rw [if_pos he]; exact hQ _ _ _ hq
    · rename_i he; rw [if_neg he]; exact hQ _ _ _ hq
  | loop b ih =>
    intro h0 t h Q Q' hQ hw
    obtain ⟨n,ks,bs,hw⟩:=hw
    refine ⟨n,ks,bs,?_⟩
    induction n generalizing t h with
    | zero => exact hw.elim
    | succ n ihn =>
      obtain ⟨h1,h2⟩:=hw
      refine ⟨h1,ih _ _ _ (fun e t' h' hq => ?_) h2⟩
      cases e with
      | normal => exact ihn t' h' hq
      | exit id => exact hQ _ _ _ hq
      | ret => exact hQ _ _ _ hq
  | exit id => intro h0 t h Q Q' hQ hw; exact hQ _ _ _ hw
  | ret => intro h0 t h Q Q' hQ hw; exact hQ _ _ _ hw
  | rangeFunc g ps assign body _ ih =>
    intro h0 t h Q Q' hQ hw
    obtain ⟨hn,t',h',⟨f,caps,ks,bs,bs2,α,enc,S,N,t1,H,e1,e2,e3,e4,e5,e6,e7,e8,e9,e10⟩,hq⟩:=hw
    exact ⟨hn,t',h',⟨f,caps,ks,bs,bs2,α,enc,S,N,t1,H,e1,e2,e3,e4,e5,e6,e7,e8,fun pre x hl => ih _ _ _ (fun _ _ _ hh => hh) (e9 pre x hl),e10⟩,hQ _ _ _ hq⟩
  | _ => intro h0 t h Q Q' hQ hw; exact hw.elim
theorem F7 {P : Program} {C C' : B9} (hC : ∀ b f a h v h', C b f a h v h' → C' b f a h v h') {h0 : Heap} {base : Name}
    (c:Code) (t:List PV) (h:Heap) {Q Q':Ex → List PV → Heap → Prop} (hQ:∀ e t h,Q e t h → Q' e t h) (hw:W P C h0 base c t h Q):W P C' h0 base c t h Q':=Bd2 hC c h0 t h hQ hw
theorem CallR.intro {P : Program} {base : Name} {f : FuncId} {fn : Func} {c : Code} {args : List PV} {h : Heap} {v : PV} {h' : Heap} (hf : P.funcs[f]? = some fn) (hb : fn.body = some c)
    (hw:Body P (CallR P) base fn c args h v h'):CallR P base f args h v h':=by
  intro C hC hS
  exact hC base f fn c args h v h' hf hb (F7 (fun b f a h v h' hc => hc C hC hS) c _ _ (fun _ _ _ hq => hq) hw)
end Go.Proofs.Ythnfphgjfpcpbaa.TM
namespace Go.Proofs.Ythnfphgjfpcpbaa.TM
open Go
variable {P:Program} {β:Pl} {h:Heap} {w:World}
def Reps (β:Pl) (h:Heap) (w:World) (ps:List PV) (vs:Array Value):Prop:=vs.size=ps.length ∧ ∀ j p,ps[j]?=some p → Rep β h w p (vs.getD j undef)
def Jq (P:Program) (C:B9):Prop:=∀ base f args h v h',C base f args h v h' → ∀ (β:Pl) (w:World) (rargs:Array Value),HInv β h w → Reps β h w args rargs →
  Calls P f rargs w fun e w' => ∃ rv β',e=.returned rv ∧ HInv β' h' w' ∧ Rep β' h' w' v rv ∧ Ext β h w β' h' w'
theorem Dq {α γ:Type} {f:α → Option γ}:∀ {l:List α} {r:List γ},Cv f l=some r → r.length=l.length ∧ ∀ (j:Nat) (x:α),l[j]?=some x → ∃ y,f x=some y ∧ r[j]?=some y
  | [],r,h => by cases h; exact ⟨rfl,fun j x hj => by simp at hj⟩
  | x::l,r,h => by
    unfold Cv at h
    split at h
    · rename_i y ys hy hys
      cases h
      obtain ⟨hl,hg⟩:=Dq hys
      refine ⟨by simp [hl],fun j z hj => ?_⟩
      cases j with
      | zero => simp at hj; subst hj; exact ⟨y,hy,rfl⟩
      | succ j => simp at hj; simpa using hg j z hj
    · cases h
theorem Hi {h1 : Heap} (H1 : HInv β h1 w) {R : Addr → Value → Prop} {β0 : Pl} {h0 : Heap} {S0 : Nat → Nat} {p q : PV} {v : Value} (hp : Rep β h1 w p v) (hl : Cl h p = some q)
    (hsame:∀ b ∈ An p,∀ fz cs,h b=some (.row fz cs) → ∃ fz',h1 b=some (.row fz' cs))
    (hR1:∀ a v,Rd β h1 w a v → R a v) (hR2:∀ b ∈ An p,∀ x,h1 b=some x → ∀ j v,w.cell? ⟨β b,j,none⟩=some v → R ⟨β b,j,none⟩ v):RepP β0 h0 R S0 q v:=by
  unfold Cl at hl
  split at hl
  · cases hl
    rw [Cj hp]
    exact .i _ _ .nil
  · cases hl
    cases hp with|i x v hx => exact .i _ _ (hx.mono hR1)
  · cases hl
    cases hp with
    | zip a =>
      cases a with
      | none => exact .i _ _ .nil
      | some a => exact .i _ _ (.l _ _ a 0 (fun _ => undef) (Nat.le_refl _) (fun j hj => by simp at hj) (fun j hj => by simp at hj) (fun j y hj => by simp at hj))
  · cases hl
    cases hp with|iref cs off a f hr h1 hs => exact .iref _ _ a f (fun j hj => hR1 _ _ (hr j hj)) h1 fun j x hj => (hs j x hj).mono hR1
  · rename_i b off z n top
    split at hl
    case h_2 => cases hl
    rename_i fz cs hb
    split at hl
    case isFalse => cases hl
    rename_i hc
    cases hl
    obtain ⟨fz',hb1⟩:=hsame b (by simp [An]) fz cs hb
    have hR3:=hR2 b (by simp [An]) _ hb1
    cases hp with
    | view b off z n top x a cap hbx hrow ht hn ha hva =>
      rw [hb1] at hbx; cases hbx
      rcases hva hc.1 with ⟨h0,hc0,_⟩|⟨h0,hs0,_⟩
      · subst h0
        cases a with
        | none => rw [hc0]; simpa using (RepP.i (β:=β0) (h:=h0) (S:=S0) _ _ (RepI.nil (R:=R)))
        | some a => exact .i _ _ (.l _ _ a cap (fun _ => undef) hn (fun j hj => by simp at hj) (fun j hj => by simp at hj) (fun j y hj => by simp at hj))
      · subst h0
        obtain ⟨c,e,hcc,hr,hcell⟩:=Ek H1 hb1
        have hlen:((cs.drop off).take (n * z)).length=n * z:=by simp; omega
        refine .i _ _ (.l _ _ _ cap (fun j => c.getD (off + j) undef) hn (fun j hj => ?_) (fun j hj => ?_) (fun j y hj => ?_))
        · rw [add_lit]
          exact hR3 _ _ (hcell _ (by have:=hr.1; omega))
        · have hlt:off + j < cs.length:=by omega
          exact (hr.2 (off + j) cs[off + j] (List.getElem?_eq_getElem hlt)).1
        · exact (hr.2 _ _ (Dd hj).2).2.mono hR1
  · cases hl
theorem Pv {R R':Addr → Value → Prop} (hR1:∀ a v,R a v → R' a v) {β β0:Pl} {h h0:Heap} {S S0:Nat → Nat} {p q:PV} {v:Value} (hp:RepP β h R S p v) (hl:Fr p=some q):RepP β0 h0 R' S0 q v:=by
  unfold Fr at hl
  split at hl
  · cases hl
    cases hp with|iref cs off a f hr h1 hs => exact .iref _ _ a f (fun j hj => hR1 _ _ (hr j hj)) h1 fun j x hj => (hs j x hj).mono hR1
  · cases hl
    cases hp with|i x v hx => exact .i _ _ (hx.mono hR1)
  · cases hl
theorem F5 {h1 : Heap} (H1 : HInv β h1 w) {R : Addr → Value → Prop} {β0 : Pl} {h0 : Heap} {S0 : Nat → Nat} {p q : PV} {v : Value} (hp : Rep β h1 w p v) (hl : Ch h p = some q)
    (hsame:∀ b ∈ Al p,∀ fz cs,h b=some (.row fz cs) → ∃ fz',h1 b=some (.row fz' cs))
    (hR1:∀ a v,Rd β h1 w a v → R a v) (hR2:∀ b ∈ Al p,∀ x,h1 b=some x → ∀ j v,w.cell? ⟨β b,j,none⟩=some v → R ⟨β b,j,none⟩ v):RepP β0 h0 R S0 q v:=by
  unfold Ch at hl
  split at hl
  · rename_i cs
    cases hm:Cv (Cl h) cs with
    | none => simp [hm] at hl
    | some qs =>
      simp [hm] at hl
      subst hl
      obtain ⟨hlen,hg⟩:=Dq hm
      cases hp with
      | agg cs arr hla hs =>
        refine .agg _ _ (by omega) fun j x hj => ?_
        have hlt:j < cs.length:=by rw [← hlen]; exact (List.getElem?_eq_some_iff.1 hj).1
        obtain ⟨y,hy,hqy⟩:=hg j _ (List.getElem?_eq_getElem hlt)
        rw [hqy] at hj; cases hj
        have hmem:cs[j] ∈ cs:=List.getElem_mem hlt
        exact Hi H1 (hs j _ (List.getElem?_eq_getElem hlt)) hy (fun b hb => hsame b (List.mem_flatMap.2 ⟨_,hmem,hb⟩)) hR1 fun b hb => hR2 b (List.mem_flatMap.2 ⟨_,hmem,hb⟩)
  · rename_i fid cs
    cases hm:Cv Fr cs with
    | none => simp [hm] at hl
    | some qs =>
      simp [hm] at hl
      subst hl
      obtain ⟨hlen,hg⟩:=Dq hm
      cases hp with
      | clo f cs arr hla hs =>
        refine .clo _ _ _ (by omega) fun j x hj => ?_
        have hlt:j < cs.length:=by rw [← hlen]; exact (List.getElem?_eq_some_iff.1 hj).1
        obtain ⟨y,hy,hqy⟩:=hg j _ (List.getElem?_eq_getElem hlt)
        rw [hqy] at hj; cases hj
        exact Pv hR1 (hs j _ (List.getElem?_eq_getElem hlt)) hy
  · rename_i hn _
    have:Al p=An p:=by cases p <;> first|rfl|exact absurd rfl (hn _)
    rw [this] at hsame hR2
    exact Hi H1 hp hl hsame hR1 hR2
theorem Lh {h1 : Heap} (H1 : HInv β h1 w) {R : Addr → Value → Prop} {β0 : Pl} {h0 : Heap} {S0 : Nat → Nat} {p q : PV} {v : Value} (hp : Rep β h1 w p v) (hl : Fc h1 p = some q)
    (hR1:∀ a v,Rd β h1 w a v → R a v) (hR2:∀ b x,h1 b=some x → ∀ j v,w.cell? ⟨β b,j,none⟩=some v → R ⟨β b,j,none⟩ v):RepP β0 h0 R S0 q v:=by
  unfold Fc at hl
  split at hl
  · rename_i cs
    cases hm:Cv (Ch h1) cs with
    | none => simp [hm] at hl
    | some qs =>
      simp [hm] at hl
      subst hl
      obtain ⟨hlen,hg⟩:=Dq hm
      cases hp with
      | tup cs arr hla hs =>
        refine .tup _ _ (by omega) fun j x hj => ?_
        have hlt:j < cs.length:=by rw [← hlen]; exact (List.getElem?_eq_some_iff.1 hj).1
        obtain ⟨y,hy,hqy⟩:=hg j _ (List.getElem?_eq_getElem hlt)
        rw [hqy] at hj; cases hj
        exact F5 H1 (hs j _ (List.getElem?_eq_getElem hlt)) hy (fun b _ fz cs hb => ⟨fz,hb⟩) hR1 fun b _ => hR2 b
  · rename_i fid cs
    cases hm:Cv (F4 h1) cs with
    | none => simp [hm] at hl
    | some qs =>
      simp [hm] at hl
      subst hl
      obtain ⟨hlen,hg⟩:=Dq hm
      cases hp with
      | clo f cs arr hla hs =>
        refine .clo _ _ _ (by omega) fun j x hj => ?_
        have hlt:j < cs.length:=by rw [← hlen]; exact (List.getElem?_eq_some_iff.1 hj).1
        obtain ⟨y,hy,hqy⟩:=hg j _ (List.getElem?_eq_getElem hlt)
        rw [hqy] at hj; cases hj
        have hrj:=hs j _ (List.getElem?_eq_getElem hlt)
        generalize cs[j]=p at hy hrj
        unfold F4 at hy
        split at hy
        · rename_i b off top
          split at hy
          · rename_i y hb
            split at hy
            · rename_i hot
              obtain ⟨rfl,rfl⟩:=hot
              cases hy
              generalize arr.getD j undef=v at hrj
              cases hrj with
              | ref b off top x a hbx ht hv =>
                rw [hb] at hbx; cases hbx
                obtain ⟨c,e,hcc,hr,hcell⟩:=H1.cells hb rfl
                have hlen1:1 ≤ c.size:=hr
                have h2:=hcell 0 _ rfl
                rw [hv rfl]
                have hcl:w.cell? ⟨β b,0,none⟩=some (c.getD 0 undef):=by
                  unfold World.cell?
                  rw [hcc]
                  simp [Array.getD_eq_getD_getElem?,show 0 < c.size from hlen1]
                refine .iref [y] 0 ⟨β b,0,none⟩ (fun _ => c.getD 0 undef) (fun j hj => ?_) (fun j hj => h2.1) fun j x hj => ?_
                · have:j=0:=by simp at hj; omega
                  subst this
                  exact hR2 b _ hb 0 _ hcl
                · have:j=0:=by have:=(List.getElem?_eq_some_iff.1 hj).1; simp at this; omega
                  subst this
                  cases hj
                  have h3:=h2.2
                  generalize c.getD 0 undef=u at h3
                  cases h3 with|i x v hx => exact hx.mono hR1
            · cases hy
          · cases hy
        · exact Pv hR1 hrj hy
  · exact F5 H1 hp hl (fun b _ fz cs hb => ⟨fz,hb⟩) hR1 fun b _ => hR2 b
theorem Rp {R R':Addr → Value → Prop} {β0 β1:Pl} {h0 h1:Heap} {S0 S1:Nat → Nat} {p:PV} {v:Value} (hs:A1 p=true) (hp:RepP β0 h0 R S0 p v):RepP β1 h1 R' S1 p v:=by
  unfold A1 at hs
  split at hs
  · cases hp with|i x v hx => cases hx; exact .i _ _ (.v _)
  · cases hs
theorem Rq {R R':Addr → Value → Prop} {β0 β1:Pl} {h0 h1:Heap} {S0 S1:Nat → Nat} {p:PV} {v:Value} (hs:A4 p=true) (hp:RepP β0 h0 R S0 p v):RepP β1 h1 R' S1 p v:=by
  unfold A4 at hs
  split at hs
  · cases hp with|agg cs arr hl hr => exact .agg _ _ hl fun j x hj => Rp (List.all_eq_true.1 hs x (List.mem_of_getElem? hj)) (hr j x hj)
  · exact Rp hs hp
theorem Ro {R R':Addr → Value → Prop} {β0 β1:Pl} {h0 h1:Heap} {S0 S1:Nat → Nat} {p:PV} {v:Value} (hs:Aw p=true) (hp:RepP β0 h0 R S0 p v):RepP β1 h1 R' S1 p v:=by
  unfold Aw at hs
  split at hs
  · cases hp with|tup cs arr hl hr => exact .tup _ _ hl fun j x hj => Rq (List.all_eq_true.1 hs x (List.mem_of_getElem? hj)) (hr j x hj)
  · exact Rq hs hp
theorem Pw {p q:PV} (hl:Cl h p=some q) {b:Name} (hb:b ∈ An p):∃ fz cs,h b=some (.row fz cs):=by
  unfold An at hb
  split at hb
  · simp at hb; subst hb
    simp only [Cl] at hl
    split at hl
    · rename_i fz cs hh; exact ⟨fz,cs,hh⟩
    · cases hl
  · simp at hb
theorem Lj {p q:PV} (hl:Ch h p=some q) {b:Name} (hb:b ∈ Al p):∃ fz cs,h b=some (.row fz cs):=by
  unfold Al at hb
  split at hb
  · rename_i cs
    obtain ⟨x,hx,hbx⟩:=List.mem_flatMap.1 hb
    simp only [Ch] at hl
    cases hm:Cv (Cl h) cs with
    | none => simp [hm] at hl
    | some qs =>
      obtain ⟨j,hj⟩:=List.getElem?_of_mem hx
      obtain ⟨y,hy,_⟩:=(Dq hm).2 j x hj
      exact Pw hy hbx
  · rename_i hn
    by_cases hcl:∃ f cs,p=.clo f cs
    · obtain ⟨f,cs,rfl⟩:=hcl
      simp [An] at hb
    · have:Ch h p=Cl h p:=by cases p <;> first|rfl|exact absurd rfl (hn _)|exact absurd ⟨_,_,rfl⟩ hcl
      rw [this] at hl
      exact Pw hl hb
theorem F6 (h:Heap) (bs:List Name):Freezes h (B7 h bs):=by
  intro u hu
  obtain ⟨b,hb,he⟩:=List.mem_filterMap.1 hu
  split at he
  · rename_i fz cs hh
    cases he
    exact ⟨fz,cs,hh,rfl⟩
  · cases he
theorem Jg {h:Heap} {bs:List Name} {b:Name} (hb:b ∈ bs) {fz:Bool} {cs:List IV} (hh:h b=some (.row fz cs)):(b,Box.row true cs) ∈ B7 h bs :=
  List.mem_filterMap.2 ⟨b,hb,by simp [hh]⟩
theorem Ext.over {β0 β1:Pl} {hu:Heap} {w':World} (H:HInv β h w) (E:Ext β0 Heap.none w β1 hu w'):Ext β h w β h w' ∧ HInv β h w':=by
  have E':Ext β h w β h w':=⟨E.os,E.tape,E.output,E.size,rfl,fun blk hl hs => ⟨hs,(E.stab blk hl fun b x hb => by cases hb).2⟩,fun b x hb => ⟨x,hb,rfl,Nat.le_refl _,fun _ => rfl⟩,E.sz⟩
  refine ⟨E',H.inj,H.nf,fun blk hF => Nat.lt_of_lt_of_le (H.flt blk hF) E.size,fun b x hb => ?_⟩
  obtain ⟨o,hc,hr⟩:=H.box b x hb
  refine ⟨o,?_,hr.mono H E'⟩
  rw [(E.stab (β b) (H.lt hb) fun b x hb => by cases hb).2]
  exact hc
theorem HInv.none {β:Pl} {w:World} (hF:∀ blk,β.F blk → blk < w.heap.size):HInv β Heap.none w:=by
  refine ⟨?_,?_,hF,?_⟩
  · intro b b' x x' hb; cases hb
  · intro b x hb; cases hb
  · intro b x hb; cases hb
theorem Ds (β:Pl) (blk:Nat):Shut β Heap.none blk:=by
  intro b x hb; cases hb
theorem U8 {C:B9} (hC:Jq P C) (H:HInv β h w) {s:Name} {g:FuncId} {args:List PV} {rargs:Array Value} (hr:Reps β h w args rargs) {v:PV} {us:List (Name × Box)} (hp:Sl C s g args h v us) :
    Calls P g rargs w fun e w' => ∃ rv β',e=.returned rv ∧ HInv β' (h.ups us) w' ∧ Rep β' (h.ups us) w' v rv ∧ Ext β h w β' (h.ups us) w':=by
  obtain ⟨largs,u,hu,hla,hc,hlu,hus⟩:=hp
  obtain ⟨hlen,hg⟩:=Dq hla
  by_cases hsc:Aw v=true
  · rw [if_pos hsc] at hus
    subst hus
    have H0:HInv β Heap.none w:=HInv.none H.flt
    refine (hC _ _ _ _ _ _ hc β w rargs H0 ⟨by rw [hlen]; exact hr.1,fun j q hj => ?_⟩).mono ?_
    · have hlt:j < args.length:=by rw [← hlen]; exact (List.getElem?_eq_some_iff.1 hj).1
      obtain ⟨y,hy,hqy⟩:=hg j _ (List.getElem?_eq_getElem hlt)
      rw [hqy] at hj; cases hj
      exact F5 H (hr.2 j _ (List.getElem?_eq_getElem hlt)) hy (fun b _ fz cs hb => ⟨fz,hb⟩) (fun a v hrd => ⟨⟨hrd.1.1,Ds _ _⟩,hrd.2⟩) fun b _ x hb j v hcell => ⟨⟨H.nf b x hb,Ds _ _⟩,hcell⟩
    · rintro e w' ⟨rv,β1,rfl,H1,hrep,E1⟩
      obtain ⟨E2,H2⟩:=Ext.over H E1
      refine ⟨rv,β,rfl,H2,?_,E2⟩
      have:RepP β1 hu (fun a v => w'.cell? a=some v) (szW w') v rv:=Lh H1 hrep hlu (fun a v h => h.2) fun b x hb j v hcell => hcell
      exact Ro hsc this
  · rw [if_neg hsc] at hus
    have hF:Freezes h us:=by rw [hus]; exact F6 h _
    obtain ⟨Ef,Hf,hnot,hyes⟩:=freezes us H hF
    generalize hhf:h.ups us=hf at *
    let β0:Pl:=⟨β.b,fun blk => β.F blk ∨ ∃ b x,hf b=some x ∧ x.open=true ∧ β b=blk⟩
    have H0:HInv β0 Heap.none w:=HInv.none fun blk hb => by
      rcases hb with hb|⟨b,x,hb,_,rfl⟩
      · exact H.flt blk hb
      · exact Hf.lt hb
    have hstab:∀ blk,Stable β hf blk → ¬ β0.F blk:=fun blk hs hb => by
      rcases hb with hb|⟨b,x,hb,ho,he⟩
      · exact hs.1 hb
      · exact hs.2 b x hb ho he
    have hstab':∀ blk,¬ β0.F blk → Stable β hf blk:=fun blk hs => ⟨fun hb => hs (.inl hb),fun b x hb ho he => hs (.inr ⟨b,x,hb,ho,he⟩)⟩
    have hfro:∀ b ∈ args.flatMap Al,∀ fz cs,h b=some (.row fz cs) → hf b=some (.row true cs):=fun b hb fz cs hh => by
      have hmem:b ∈ us.map (·.1):=by rw [hus]; exact List.mem_map.2 ⟨_,Jg hb hh,rfl⟩
      obtain ⟨fz',cs',h1,h2⟩:=hyes b hmem
      rw [hh] at h1; cases h1
      exact h2
    refine (hC _ _ _ _ _ _ hc β0 w rargs H0 ⟨by rw [hlen]; exact hr.1,fun j q hj => ?_⟩).mono ?_
    · have hlt:j < args.length:=by rw [← hlen]; exact (List.getElem?_eq_some_iff.1 hj).1
      obtain ⟨y,hy,hqy⟩:=hg j _ (List.getElem?_eq_getElem hlt)
      rw [hqy] at hj; cases hj
      have hmem:args[j] ∈ args:=List.getElem_mem hlt
      refine F5 Hf (RepP.mono H Ef (hr.2 j _ (List.getElem?_eq_getElem hlt))) hy (fun b hb fz cs hh => ⟨true,hfro b (List.mem_flatMap.2 ⟨_,hmem,hb⟩) fz cs hh⟩)
        (fun a v hrd => ⟨⟨hstab _ hrd.1,Ds _ _⟩,hrd.2⟩) fun b hb x hbx jj v hcell => ⟨⟨hstab _ ?_,Ds _ _⟩,hcell⟩
      refine ⟨Hf.nf b x hbx,fun b2 x2 hb2 ho he => ?_⟩
      have:=Hf.inj b2 b x2 x hb2 hbx he
      subst this
      obtain ⟨x0,hx0,hrow0,_⟩:∃ x0,h b2=some x0 ∧ (∃ fz cs,x0=.row fz cs) ∧ True:=by
        by_cases hm:b2 ∈ us.map (·.1)
        · obtain ⟨fz',cs',h1,h2⟩:=hyes b2 hm
          exact ⟨_,h1,⟨_,_,rfl⟩,trivial⟩
        · have h1:=hnot b2 hm
          rw [hb2] at h1
          refine ⟨x2,h1.symm,?_,trivial⟩
          -- what is lowered is a row
          obtain ⟨fz,cs,hq⟩:=Lj hy hb
          rw [hq] at h1
          exact ⟨fz,cs,Option.some.inj h1⟩
      obtain ⟨fz,cs,rfl⟩:=hrow0
      have:=hfro b2 (List.mem_flatMap.2 ⟨_,hmem,hb⟩) fz cs hx0
      rw [hb2] at this; cases this
      simp [Box.open] at ho
    · rintro e w' ⟨rv,β1,rfl,H1,hrep,E1⟩
      obtain ⟨E2,H2⟩:=Ext.over Hf E1
      refine ⟨rv,β,rfl,H2,?_,Ef.trans E2⟩
      refine Lh H1 hrep hlu (fun a v hrd => ⟨hstab' _ ?_,hrd.2⟩) fun b x hb j v hcell => ⟨hstab' _ ?_,hcell⟩
      · have:=hrd.1.1; rw [E1.F] at this; exact this
      · have:=H1.nf b x hb; rw [E1.F] at this; exact this
theorem Wo {C:B9} (hC:Jq P C) (H:HInv β h w) {s:Name} {g:FuncId} {args:List PV} {rargs:Array Value} (hr:Reps β h w args rargs) {v:PV} {us:List (Name × Box)} (hp:Sm C s g args h v us) :
    Calls P g rargs w fun e w' => ∃ rv β',e=.returned rv ∧ HInv β' (h.ups us) w' ∧ Rep β' (h.ups us) w' v rv ∧ Ext β h w β' (h.ups us) w':=by
  obtain ⟨largs,b,u,cs,hu,hla,hc,hub,hs,hav,hus⟩:=hp
  obtain ⟨hlen,hg⟩:=Dq hla
  generalize hus':B7 h (args.flatMap Al)=us0 at hus
  have hF:Freezes h us0:=by rw [← hus']; exact F6 h _
  obtain ⟨Ef,Hf,hnot,hyes⟩:=freezes us0 H hF
  have hups:h.ups us=(h.ups us0).put s (.row false cs):=by rw [hus,Heap.ups_append,Heap.ups_cons,Heap.ups_nil]
  have hfs:h.ups us0 s=none:=by
    rw [hnot s fun hm => ?_]; exact hs
    obtain ⟨fz',cs',h1,_⟩:=hyes s hm
    rw [hs] at h1; cases h1
  rw [hups]
  generalize hhf:h.ups us0=hf at *
  let β0:Pl:=⟨β.b,fun blk => β.F blk ∨ ∃ b x,hf b=some x ∧ x.open=true ∧ β b=blk⟩
  have H0:HInv β0 Heap.none w:=HInv.none fun blk hb => by
    rcases hb with hb|⟨b,x,hb,_,rfl⟩
    · exact H.flt blk hb
    · exact Hf.lt hb
  have hstab:∀ blk,Stable β hf blk → ¬ β0.F blk:=fun blk hs hb => by
    rcases hb with hb|⟨b,x,hb,ho,he⟩
    · exact hs.1 hb
    · exact hs.2 b x hb ho he
  have hstab':∀ blk,¬ β0.F blk → Stable β hf blk:=fun blk hs => ⟨fun hb => hs (.inl hb),fun b x hb ho he => hs (.inr ⟨b,x,hb,ho,he⟩)⟩
  have hfro:∀ b ∈ args.flatMap Al,∀ fz cs,h b=some (.row fz cs) → hf b=some (.row true cs):=fun b hb fz cs hh => by
    have hmem:b ∈ us0.map (·.1):=by rw [← hus']; exact List.mem_map.2 ⟨_,Jg hb hh,rfl⟩
    obtain ⟨fz',cs',h1,h2⟩:=hyes b hmem
    rw [hh] at h1; cases h1
    exact h2
  refine (hC _ _ _ _ _ _ hc β0 w rargs H0 ⟨by rw [hlen]; exact hr.1,fun j q hj => ?_⟩).mono ?_
  · have hlt:j < args.length:=by rw [← hlen]; exact (List.getElem?_eq_some_iff.1 hj).1
    obtain ⟨y,hy,hqy⟩:=hg j _ (List.getElem?_eq_getElem hlt)
    rw [hqy] at hj; cases hj
    have hmem:args[j] ∈ args:=List.getElem_mem hlt
    refine F5 Hf (RepP.mono H Ef (hr.2 j _ (List.getElem?_eq_getElem hlt))) hy (fun b hb fz cs hh => ⟨true,hfro b (List.mem_flatMap.2 ⟨_,hmem,hb⟩) fz cs hh⟩)
      (fun a v hrd => ⟨⟨hstab _ hrd.1,Ds _ _⟩,hrd.2⟩) fun b hb x hbx jj v hcell => ⟨⟨hstab _ ?_,Ds _ _⟩,hcell⟩
    refine ⟨Hf.nf b x hbx,fun b2 x2 hb2 ho he => ?_⟩
    have:=Hf.inj b2 b x2 x hb2 hbx he
    subst this
    obtain ⟨x0,hx0,hrow0,_⟩:∃ x0,h b2=some x0 ∧ (∃ fz cs,x0=.row fz cs) ∧ True:=by
      by_cases hm:b2 ∈ us0.map (·.1)
      · obtain ⟨fz',cs',h1,h2⟩:=hyes b2 hm
        exact ⟨_,h1,⟨_,_,rfl⟩,trivial⟩
      · have h1:=hnot b2 hm
        rw [hb2] at h1
        refine ⟨x2,h1.symm,?_,trivial⟩
        obtain ⟨fz,cs,hq⟩:=Lj hy hb
        rw [hq] at h1
        exact ⟨fz,cs,Option.some.inj h1⟩
    obtain ⟨fz,cs,rfl⟩:=hrow0
    have:=hfro b2 (List.mem_flatMap.2 ⟨_,hmem,hb⟩) fz cs hx0
    rw [hb2] at this; cases this
    simp [Box.open] at ho
  · rintro e w' ⟨rv,β1,rfl,H1,hrep,E1⟩
    -- the answer's row is a new one
    have hnew:∀ blk,blk < w.heap.size → β1 b ≠ blk:=fun blk hlt => (E1.stab blk hlt (Ds _ _)).1 b _ hub rfl
    have hsame:∀ blk,blk < w.heap.size → w'.heap[blk]?=w.heap[blk]?:=fun blk hlt => (E1.stab blk hlt (Ds _ _)).2
    have hne:∀ c x,hf c=some x → c ≠ s:=fun c x hc he => by rw [he,hfs] at hc; cases hc
    have hput:∀ c,c ≠ s → hf.put s (.row false cs) c=hf c:=fun c hc => Heap.put_ne _ _ hc
    have hat:hf.put s (.row false cs) s=some (.row false cs):=by unfold Heap.put; rw [if_pos rfl]
    have hβs:setβ β s (β1 b) s=β1 b:=by simp [setβ]
    have E2:Ext β hf w (setβ β s (β1 b)) (hf.put s (.row false cs)) w':=by
      refine ⟨E1.os,E1.tape,E1.output,E1.size,rfl,fun blk hlt hsh => ⟨fun c x hc ho => ?_,hsame blk hlt⟩,fun c x hc => ⟨x,by rw [hput c (hne c x hc)]; exact hc,rfl,Nat.le_refl _,fun _ => Fm _ _ (hne c x hc)⟩,E1.sz⟩
      by_cases e:c=s
      · subst e; rw [hβs]; exact hnew blk hlt
      · rw [hput c e] at hc; rw [Fm _ _ e]; exact hsh c x hc ho
    have hRd:∀ a v,Rd β1 hu w' a v → Rd (setβ β s (β1 b)) (hf.put s (.row false cs)) w' a v:=fun a v hrd => by
      have h1:Stable β hf a.block:=hstab' _ (by have:=hrd.1.1; rw [E1.F] at this; exact this)
      refine ⟨⟨h1.1,fun c x hc ho => ?_⟩,hrd.2⟩
      by_cases e:c=s
      · subst e; rw [hβs]; exact hrd.1.2 b _ hub rfl
      · rw [hput c e] at hc; rw [Fm _ _ e]; exact h1.2 c x hc ho
    have hnf:¬ β.F (β1 b):=fun hF => by
      have:=H1.nf b _ hub
      rw [E1.F] at this
      exact this (.inl hF)
    refine ⟨rv,setβ β s (β1 b),rfl,?_,?_,Ef.trans E2⟩
    · refine Hf.step E2 s (fun c x hc hx => ⟨Fm _ _ hc,hsame _ (Hf.lt hx)⟩) hput (fun x hx => ?_) (fun c x y hc hx hy => ?_) (fun x hx => by rw [hβs]; exact hnf)
      · rw [hat] at hx; cases hx
        obtain ⟨c,e,ho,hb1,hb2⟩:=H1.cells hub rfl
        exact ⟨_,by rw [hβs]; exact ho,c,e,rfl,hb1,fun j y hj => ⟨(hb2 j y hj).1,(hb2 j y hj).2.mono hRd⟩⟩
      · rw [hβs]; exact fun he => hnew _ (Hf.lt hx) he.symm
    · have hR2:∀ c,c ≠ b → ∀ x,hu c=some x → ∀ j v,w'.cell? ⟨β1 c,j,none⟩=some v → Rd (setβ β s (β1 b)) (hf.put s (.row false cs)) w' ⟨β1 c,j,none⟩ v:=fun c hcb x hx j v hcell => by
        have h1:Stable β hf (β1 c):=hstab' _ (by have:=H1.nf c x hx; rw [E1.F] at this; exact this)
        refine ⟨⟨h1.1,fun d y hd ho => ?_⟩,hcell⟩
        by_cases e:d=s
        · subst e; rw [hβs]; exact fun he => hcb (H1.inj b c _ x hub hx he).symm
        · rw [hput d e] at hd; rw [Fm _ _ e]; exact h1.2 d y hd ho
      have leafC:∀ p q v,Rep β1 hu w' p v → Ng hu b s p=some q → Rep (setβ β s (β1 b)) (hf.put s (.row false cs)) w' q v:=fun p q v hp hq => by
        have low:∀ p q,(∀ c ∈ An p,c ≠ b) → Rep β1 hu w' p v → Cl hu p=some q → Rep (setβ β s (β1 b)) (hf.put s (.row false cs)) w' q v:=fun p q hne hp hq =>
          Hi H1 hp hq (fun c _ fz cs hb => ⟨fz,hb⟩) hRd fun c hc x hx j v hcell => hR2 c (hne c hc) x hx j v hcell
        unfold Ng at hq
        split at hq
        · rename_i c off z n top
          split at hq
          · rename_i hcb
            subst hcb
            cases hq
            cases hp with
            | view b' off z n top x a cap hbx hrow ht hn ha hv =>
              rw [hub] at hbx; cases hbx
              refine .view s off z n top _ a cap hat rfl ht hn ha fun he => ?_
              rcases hv he with h0|⟨h0,h1,h2⟩
              · exact .inl h0
              · exact .inr ⟨by rw [hβs]; exact h0,by rw [hβs]; exact h1,h2⟩
          · rename_i hcb
            exact low _ q (fun d hd => by simp [An] at hd; subst hd; exact hcb) hp hq
        · rename_i hnv
          exact low p q (fun d hd => by
            cases p <;> simp [An] at hd
            exact absurd rfl (hnv _ _ _ _ _)) hp hq
      have leafA:∀ p q v,Rep β1 hu w' p v → Nh hu b s p=some q → Rep (setβ β s (β1 b)) (hf.put s (.row false cs)) w' q v:=fun p q v hp hq => by
        unfold Nh at hq
        split at hq
        · rename_i cs'
          cases hm:Cv (Ng hu b s) cs' with
          | none => simp [hm] at hq
          | some qs =>
            simp [hm] at hq
            subst hq
            obtain ⟨hlen',hg'⟩:=Dq hm
            cases hp with
            | agg cs2 arr hla' hs' =>
              refine .agg _ _ (by omega) fun j x hj => ?_
              have hlt:j < cs'.length:=by rw [← hlen']; exact (List.getElem?_eq_some_iff.1 hj).1
              obtain ⟨y,hy,hqy⟩:=hg' j _ (List.getElem?_eq_getElem hlt)
              rw [hqy] at hj; cases hj
              exact leafC _ _ _ (hs' j _ (List.getElem?_eq_getElem hlt)) hy
        · exact leafC _ _ _ hp hq
      unfold Qd at hav
      split at hav
      · rename_i cs'
        cases hm:Cv (Nh hu b s) cs' with
        | none => simp [hm] at hav
        | some qs =>
          simp [hm] at hav
          subst hav
          obtain ⟨hlen',hg'⟩:=Dq hm
          cases hrep with
          | tup cs2 arr hla' hs' =>
            refine .tup _ _ (by omega) fun j x hj => ?_
            have hlt:j < cs'.length:=by rw [← hlen']; exact (List.getElem?_eq_some_iff.1 hj).1
            obtain ⟨y,hy,hqy⟩:=hg' j _ (List.getElem?_eq_getElem hlt)
            rw [hqy] at hj; cases hj
            exact leafA _ _ _ (hs' j _ (List.getElem?_eq_getElem hlt)) hy
      · exact leafA _ _ _ hrep hav
theorem Ia {b:Name} {p:PV} (hp:(Al p).contains b ≠ true) {c:Name} (hc:c ∈ Al p):c ≠ b:=fun e => hp (by subst e; simpa using hc)
theorem Uj {C:B9} (hC:Jq P C) (H:HInv β h w) {s:Name} {g:FuncId} {args:List PV} {rargs:Array Value} (hr:Reps β h w args rargs) {v:PV} {us:List (Name × Box)} (hp:Si C s g args h v us) :
    Calls P g rargs w fun e w' => ∃ rv β',e=.returned rv ∧ HInv β' (h.ups us) w' ∧ Rep β' (h.ups us) w' v rv ∧ Ext β h w β' (h.ups us) w':=by
  obtain ⟨b,largs,cs,cs',hu,hbx,hba,hla,hc,hub,hsc,hlen',hus⟩:=hp
  obtain ⟨hlen,hg⟩:=Dq hla
  generalize hus':B7 h ((args.flatMap Al).filter (H8 b))=us0 at hus
  have hF:Freezes h us0:=by rw [← hus']; exact F6 h _
  obtain ⟨Ef,Hf,hnot,hyes⟩:=freezes us0 H hF
  have hups:h.ups us=(h.ups us0).put b (.row false cs'):=by rw [hus,Heap.ups_append,Heap.ups_cons,Heap.ups_nil]
  have hnb:b ∉ us0.map (·.1):=fun hm => by
    rw [← hus'] at hm
    obtain ⟨u,hu1,hu2⟩:=List.mem_map.1 hm
    obtain ⟨c,hc1,hc2⟩:=List.mem_filterMap.1 hu1
    have hcb:=(List.mem_filter.1 hc1).2
    split at hc2
    · cases hc2; simp only at hu2; subst hu2; simp [H8] at hcb
    · cases hc2
  have hfb:h.ups us0 b=some (.row false cs):=by rw [hnot b hnb]; exact hbx
  rw [hups]
  have hfro:∀ c ∈ args.flatMap Al,c ≠ b → ∀ fz cs,h c=some (.row fz cs) → h.ups us0 c=some (.row true cs):=fun c hc hcb fz cs hh => by
    have hmem:c ∈ us0.map (·.1):=by rw [← hus']; exact List.mem_map.2 ⟨_,Jg (List.mem_filter.2 ⟨hc,by simp [H8,hcb]⟩) hh,rfl⟩
    obtain ⟨fz',cs',h1,h2⟩:=hyes c hmem
    rw [hh] at h1; cases h1
    exact h2
  have hrows:∀ c x,h.ups us0 c=some x → (∃ fz cs,h c=some (.row fz cs)) → ∃ fz cs,h.ups us0 c=some (.row fz cs):=fun c x hx ⟨fz,cs,hh⟩ => by
    by_cases hm:c ∈ us0.map (·.1)
    · obtain ⟨_,_,_,h2⟩:=hyes c hm; exact ⟨_,_,h2⟩
    · rw [hnot c hm]; exact ⟨fz,cs,hh⟩
  generalize hhf:h.ups us0=hf at *
  let β0:Pl:=⟨fun _ => β b,fun blk => β.F blk ∨ ∃ c x,c ≠ b ∧ hf c=some x ∧ x.open=true ∧ β c=blk⟩
  let hb0:Heap:=Heap.none.put wN (.row false cs)
  have hat0:hb0 wN=some (.row false cs):=by show Heap.none.put wN (.row false cs) wN=_; unfold Heap.put; rw [if_pos rfl]
  have hone:∀ c x,hb0 c=some x → c=wN ∧ x=.row false cs:=fun c x hc => by
    have:(if c=wN then some (Box.row false cs) else none)=some x:=hc
    split at this
    · rename_i e; cases this; exact ⟨e,rfl⟩
    · cases this
  have hnF:¬ β0.F (β b):=fun hF => by
    rcases hF with hF|⟨c,x,hcb,hcx,_,he⟩
    · exact Hf.nf b _ hfb hF
    · exact hcb (Hf.inj c b x _ hcx hfb he)
  have hst:∀ blk,Stable β hf blk → Stable β0 hb0 blk:=fun blk hs => ⟨fun hF => by
    rcases hF with hF|⟨c,x,_,hcx,ho,he⟩
    · exact hs.1 hF
    · exact hs.2 c x hcx ho he,fun c x hc ho => by
    show β b ≠ blk
    exact hs.2 b _ hfb rfl⟩
  have hst':∀ blk,¬ β0.F blk → β b ≠ blk → Stable β (hf.put b (.row false cs')) blk:=fun blk hs hne => ⟨fun hb => hs (.inl hb),fun c x hc ho he => by
    by_cases e:c=b
    · subst e; exact hne he
    · rw [Heap.put_ne _ _ e] at hc; exact hs (.inr ⟨c,x,e,hc,ho,he⟩)⟩
  have hRd0:∀ a v,Rd β hf w a v → Rd β0 hb0 w a v:=fun a v hrd => ⟨hst _ hrd.1,hrd.2⟩
  have H0:HInv β0 hb0 w:=by
    refine ⟨fun c c' x x' hc hc' _ => ((hone c x hc).1).trans ((hone c' x' hc').1).symm,fun c x hc => hnF,fun blk hb => ?_,fun c x hc => ?_⟩
    · rcases hb with hb|⟨c,x,_,hcx,_,rfl⟩
      · exact H.flt blk hb
      · exact Hf.lt hcx
    · obtain ⟨rfl,rfl⟩:=hone c x hc
      obtain ⟨c,e,ho,hb1,hb2⟩:=Hf.cells hfb rfl
      exact ⟨_,ho,c,e,rfl,hb1,fun j y hj => ⟨(hb2 j y hj).1,(hb2 j y hj).2.mono hRd0⟩⟩
  refine (hC _ _ _ _ _ _ hc β0 w rargs H0 ⟨by rw [hlen]; exact hr.1,fun j q hj => ?_⟩).mono ?_
  · have hlt:j < args.length:=by rw [← hlen]; exact (List.getElem?_eq_some_iff.1 hj).1
    obtain ⟨y,hy,hqy⟩:=hg j _ (List.getElem?_eq_getElem hlt)
    rw [hqy] at hj; cases hj
    have hmem:args[j] ∈ args:=List.getElem_mem hlt
    have hrep:=RepP.mono H Ef (hr.2 j _ (List.getElem?_eq_getElem hlt))
    generalize args[j]=p at hy hrep hmem
    generalize rargs.getD j undef=rv at hrep
    unfold Fz at hy
    split at hy
    · rename_i hv
      cases hy
      cases hrep with
      | view c off z n top x a cap hcx hrow ht hn ha hva =>
        have e:c=b:=by simpa [isV] using hv
        subst e
        rw [hfb] at hcx; cases hcx
        refine .view wN off z n top _ a cap hat0 rfl ht hn ha fun he => ?_
        rcases hva he with h0|h0
        · exact .inl h0
        · exact .inr h0
      | _ => simp [isV] at hv
    · split at hy
      · cases hy
      · rename_i hnv hnc
        refine F5 Hf hrep hy (fun c hc fz cs hh => ⟨true,hfro c (List.mem_flatMap.2 ⟨_,hmem,hc⟩) (Ia hnc hc) fz cs hh⟩) hRd0 fun c hc x hcx jj v hcell => ⟨⟨fun hF => ?_,fun d y hd ho => ?_⟩,hcell⟩
        · have hcb:=Ia hnc hc
          obtain ⟨fz,cs1,hq⟩:=Lj hy hc
          have hfc:=hfro c (List.mem_flatMap.2 ⟨_,hmem,hc⟩) hcb fz cs1 hq
          rcases hF with hF|⟨d,y,hdb,hdy,ho,he⟩
          · exact Hf.nf c x hcx hF
          · have:=Hf.inj d c y x hdy hcx he
            subst this
            rw [hfc] at hdy; cases hdy
            simp [Box.open] at ho
        · show β b ≠ β c
          exact fun he => Ia hnc hc (Hf.inj b c _ x hfb hcx he).symm
  · rintro e w' ⟨rv,β1,rfl,H1,hrep,E1⟩
    obtain ⟨x',hx',_,_,hq⟩:=E1.keep wN _ hat0
    rw [hub] at hx'; cases hx'
    have hβ:β1 wN=β b:=hq hlen'
    have hsame:∀ blk,blk < w.heap.size → β b ≠ blk → w'.heap[blk]?=w.heap[blk]?:=fun blk hlt hne => (E1.stab blk hlt fun c x hc ho => hne).2
    have hput:∀ c,c ≠ b → hf.put b (.row false cs') c=hf c:=fun c hc => Heap.put_ne _ _ hc
    have hat:hf.put b (.row false cs') b=some (.row false cs'):=by unfold Heap.put; rw [if_pos rfl]
    have E2:Ext β hf w β (hf.put b (.row false cs')) w':=by
      refine ⟨E1.os,E1.tape,E1.output,E1.size,rfl,fun blk hlt hsh => ⟨fun c x hc ho => ?_,hsame blk hlt (hsh b _ hfb rfl)⟩,fun c x hc => ?_,E1.sz⟩
      · by_cases e:c=b
        · subst e; exact hsh c _ hfb rfl
        · rw [hput c e] at hc; exact hsh c x hc ho
      · by_cases e:c=b
        · subst e
          rw [hfb] at hc; cases hc
          exact ⟨_,hat,rfl,Nat.le_of_eq hlen'.symm,fun _ => rfl⟩
        · exact ⟨x,by rw [hput c e]; exact hc,rfl,Nat.le_refl _,fun _ => rfl⟩
    have hRd:∀ a v,Rd β1 hu w' a v → Rd β (hf.put b (.row false cs')) w' a v:=fun a v hrd => by
      refine ⟨hst' _ (by have:=hrd.1.1; rw [E1.F] at this; exact this) ?_,hrd.2⟩
      rw [← hβ]; exact hrd.1.2 wN _ hub rfl
    refine ⟨rv,β,rfl,?_,Ro hsc hrep,Ef.trans E2⟩
    refine Hf.step E2 b (fun c x hc hx => ⟨rfl,hsame _ (Hf.lt hx) fun he => hc (Hf.inj b c _ x hfb hx he).symm⟩) hput (fun x hx => ?_) (fun c x y hc hx hy => fun he => hc (Hf.inj c b x _ hx hfb he)) (fun x hx => Hf.nf b _ hfb)
    rw [hat] at hx; cases hx
    obtain ⟨c,e,ho,hb1,hb2⟩:=H1.cells hub rfl
    rw [hβ] at ho
    exact ⟨_,ho,c,e,rfl,hb1,fun j y hj => ⟨(hb2 j y hj).1,(hb2 j y hj).2.mono hRd⟩⟩
theorem Xq {C:B9} (hC:Jq P C) (H:HInv β h w) {s:Name} {g:FuncId} {args:List PV} {rargs:Array Value} (hr:Reps β h w args rargs) {v:PV} {us:List (Name × Box)} (hp:PureCall C s g args h v us) :
    Calls P g rargs w fun e w' => ∃ rv β',e=.returned rv ∧ HInv β' (h.ups us) w' ∧ Rep β' (h.ups us) w' v rv ∧ Ext β h w β' (h.ups us) w':=by
  rcases hp with hp|hp|hp
  · exact U8 hC H hr hp
  · exact Wo hC H hr hp
  · exact Uj hC H hr hp
end Go.Proofs.Ythnfphgjfpcpbaa.TM
namespace Go.Proofs.Ythnfphgjfpcpbaa.TM
open Go
variable {P:Program} {β:Pl} {h:Heap} {w:World}
def WideF (F:Fence):Prop:=F=Fence.wide ∨ ∃ l,F=Fence.wide.inRound l
theorem WideF.fn {F:Fence} (hF:WideF F) (f:FuncId):F.fn f:=by rcases hF with rfl|⟨l,rfl⟩ <;> trivial
theorem WideF.dep {F:Fence} (hF:WideF F) {p:Prop} (hd:F.depth.isSome=true):p:=by rcases hF with rfl|⟨l,rfl⟩ <;> cases hd
theorem WideF.calls {F:Fence} (hF:WideF F) {n:Nat} {f:FuncId} {args:Array Value} {w:World} {R:Ending → World → Prop} (h:Calls P f args w R):CallsIn F n P f args w R:=by
  rcases hF with rfl|⟨l,rfl⟩
  · exact callsIn_wide.2 h
  · exact (callsIn_wide.2 h:CallsIn Fence.wide n P f args w R)
def DOKs (m:Nat):List Deferred → World → Prop
  | [],_ => True
  | d::ds,w => (∃ D,d={ target:=.collected D,args:=#[] } ∧ m ≤ D ∧ w.heap[D]?=some (.deferred (some [])) ∧ ∀ d' ∈ ds,d' ≠ d) ∧ DOKs m ds w
abbrev DOK (m:Nat) (a:Act) (w:World):Prop:=DOKs m a.defers w
theorem HInv.shut_of (H:HInv β h w) {k:Nat} {o:Obj} (hk:w.heap[k]?=some o) (h1:o.isCells=false) (h2:∀ ar c,o ≠ .map ar c):∀ b x,h b=some x → β b ≠ k:=by
  rintro b x hb rfl
  obtain ⟨o',ho,hr⟩:=H.box b x hb
  rw [hk] at ho; cases ho
  cases x with
  | row fz cs => obtain ⟨c,e,rfl,_⟩:=hr; cases h1
  | var cs => obtain ⟨c,e,rfl,_⟩:=hr; cases h1
  | map k es => obtain ⟨ar,cl,rfl,_⟩:=hr; exact h2 _ _ rfl
theorem DOKs.mono {m:Nat} {β':Pl} {h':Heap} {w':World} (H:HInv β h w) (E:Ext β h w β' h' w'):∀ {ds:List Deferred},DOKs m ds w → DOKs m ds w'
  | [],_ => trivial
  | d::ds,hd => by
    obtain ⟨⟨D,h1,h2,h3,h4⟩,h5⟩:=hd
    have hs:Shut β h D:=fun b x hb _ => H.shut_of h3 rfl (fun _ _ => by simp) b x hb
    exact ⟨⟨D,h1,h2,(E.stab D (Array.getElem?_eq_some_iff.1 h3).1 hs).2.trans h3,h4⟩,DOKs.mono H E h5⟩
theorem Jc {ops:Array Oper} {t:List PV} {o:Oper} {b:Bool} {a:Act} (T:TInv β h w t a.tmps) (hg:E5 ops t o=some b):Region.wanted o (yielded ops a.tmps)=b:=by
  unfold E5 at hg
  unfold Region.wanted
  split at hg
  · rename_i h1; rw [h1]; cases hg; rfl
  · rename_i j want h1
    rw [h1]
    simp only
    unfold yielded
    cases hd:(ops[j]?).bind (·.dst) with
    | none => simp [hd] at hg
    | some d =>
      simp only [hd,Option.bind_some] at hg ⊢
      cases hx:t[d]? with
      | none => simp [hx] at hg
      | some x =>
        have hr:=T.rep d x hx
        have hlt:d < a.tmps.size:=by rw [T.size]; exact (List.getElem?_eq_some_iff.1 hx).1
        have he:a.tmps[d]?=some (a.tmps.getD d undef):=by simp [hlt]
        rw [hx] at hg
        rw [he]
        split at hg
        · rename_i b' hxe
          cases hxe
          cases hg
          rw [Cj hr]
          rfl
        · rename_i hxe
          cases hxe
          cases hg
          generalize a.tmps.getD d undef=u at hr
          cases hr with
          | tup cs arr hl hs => rfl
        · cases hg
theorem My {g:FuncId} (he:A7 P g=true) (args:Array Value) (w:World):(callFunc g args).run P w=.ok (.enter g args) w:=by
  unfold A7 at he
  split at he
  · rename_i fn hf
    obtain ⟨h1,h2⟩:=Bool.and_eq_true_iff.1 he
    have h1' : ¬ fn.name = "runtime.NumGoroutine" := by simpa using h1
    obtain ⟨c,hc⟩:=Option.isSome_iff_exists.1 h2
    simp [callFunc,hf,h1',hc]
  · cases he
theorem Av1 {t:List PV} {a:Act} (T:TInv β h w t a.tmps) {c:Call} {g:FuncId} {args:List PV} (hc:Db t c=some (g,args)) (he:A7 P g=true) {o:Oper} (ho:o.op=.call c) :
    ∃ rargs,(execOp a.eval o).run P w=.ok (.enter g rargs) w ∧ Reps β h w args rargs:=by
  obtain ⟨callee,cargs,ts⟩:=c
  have hargs:∀ extra:Array Value,∀ ex:List PV,extra.size=ex.length → (∀ j p,ex[j]?=some p → Rep β h w p (extra.getD j undef)) → Reps β h w (cargs.toList.map (St.opnd t) ++ ex) (cargs.map a.eval ++ extra):=by
    intro extra ex hl hs
    refine ⟨by simp [hl],fun j p hj => ?_⟩
    rw [List.getElem?_append] at hj
    simp only [List.length_map,Array.length_toList] at hj
    by_cases hlt:j < cargs.size
    · rw [if_pos hlt,List.getElem?_map] at hj
      cases hx:cargs.toList[j]? with
      | none => simp [hx] at hj
      | some x =>
        simp [hx] at hj; subst hj
        have h2:cargs[j]?=some x:=by simpa using hx
        have:(cargs.map a.eval ++ extra).getD j undef=a.eval x:=by
          rw [Array.getD_eq_getD_getElem?,Array.getElem?_append_left (by simpa using hlt)]
          simp [h2]
        rw [this]
        exact T.opnd x
    · rw [if_neg hlt] at hj
      have:(cargs.map a.eval ++ extra).getD j undef=extra.getD (j - cargs.size) undef:=by
        rw [Array.getD_eq_getD_getElem?,Array.getElem?_append_right (by simpa using hlt)]
        simp
      rw [this]
      exact hs _ _ hj
  unfold Db at hc
  split at hc
  case h_2 => cases hc
  rename_i f hcal
  simp only at hcal
  subst hcal
  have hf:=T.opnd f
  split at hc
  · rename_i g' first captured hx
    split at hc
    case isFalse => cases hc
    rename_i h0
    cases hc
    rw [hx] at hf
    have hv:=Cj hf
    have h1:first=#[]:=Array.eq_empty_of_size_eq_zero h0.1
    have h2:captured=#[]:=Array.eq_empty_of_size_eq_zero h0.2
    subst h1; subst h2
    refine ⟨cargs.map a.eval ++ #[],?_,by simpa using hargs #[] [] rfl fun j p hj => by simp at hj⟩
    unfold execOp
    simp only [ho,resolve,hv,Deferred.ofValue,Sem.run_bind,Sem.run_pure,Result.andThen_ok,invoke]
    rw [My he]
    simp
  · rename_i g' caps hx
    cases hc
    rw [hx] at hf
    obtain ⟨arr,hv,hl,hs⟩:∃ arr,a.eval f=.func (.func g) #[] arr ∧ arr.size=caps.length ∧ ∀ j p,caps[j]?=some p → Rep β h w p (arr.getD j undef):=by
      generalize a.eval f=u at hf
      cases hf with|clo f cs arr hl hs => exact ⟨arr,rfl,hl,hs⟩
    refine ⟨cargs.map a.eval ++ arr,?_,hargs arr caps hl hs⟩
    unfold execOp
    simp only [ho,resolve,hv,Deferred.ofValue,Sem.run_bind,Sem.run_pure,Result.andThen_ok,invoke]
    rw [My he]
    simp
  · cases hc
theorem O1 {C : B9} (hC : Jq P C) (H : HInv β h w) {t : List PV} {a : Act} (T : TInv β h w t a.tmps) {F : Fence} (hF : WideF F) {n : Nat} {s : Name} {o : Oper} {v : PV} {h' : Heap} (hst : Sj P C s t h o.op v h')
    {K:Act → World → Prop} {Q:Exit → Act → World → Prop}
    (hK:∀ β' w' u,HInv β' h' w' → Ext β h w β' h' w' → Rep β' h' w' v u → K (a.put o.dst u) w'):o.wpIn F n P a w K Q:=by
  refine ⟨fun f _ => hF.fn f,?_⟩
  rw [Oper.semAt_eq _ _ _ (by
    intro c hc
    rcases hst with ⟨out,hs,_,_⟩|⟨s',out,hx,_,_⟩|⟨c',g,args,ho,_⟩
    · rw [hc] at hs; cases hs
    · rw [hc] at hx; cases hx
    · rw [hc] at ho; cases ho)]
  rcases hst with ⟨out,hs,rfl,rfl⟩|⟨s',out,_,hs,rfl,rfl⟩|⟨c,g,args,ho,hc,he,hcall⟩
  · obtain ⟨β',w',u,hrun,H',E,hr⟩:=Lx H s (fun x => T.opnd x) o hs
    have:=hK β' w' u H' E hr
    rcases hrun with hrun|⟨hrun,rfl⟩
    · rw [hrun]; exact this
    · rw [hrun]; exact this
  · obtain ⟨β',w',u,hrun,H',E,hr⟩:Ran P β h w (execOp a.eval o) out:=hs.elim (fun hs => Lx H s' (fun x => T.opnd x) o hs) (fun hs => Qn H s' (fun x => T.opnd x) o hs)
    have:=hK β' w' u H' E hr
    rcases hrun with hrun|⟨hrun,rfl⟩
    · rw [hrun]; exact this
    · rw [hrun]; exact this
  · obtain ⟨rargs,hrun,hra⟩:=Av1 T hc he ho
    rw [hrun]
    refine ⟨hF.dep,hF.calls (?_:Calls P g rargs w _)⟩
    rcases hcall with hcall|⟨us,hcall,rfl⟩
    · refine (hC _ _ _ _ _ _ hcall β w rargs H hra).mono ?_
      rintro e w' ⟨rv,β',rfl,H',hr,E⟩
      exact hK β' w' rv H' E hr
    · refine (Xq hC H hra hcall).mono ?_
      rintro e w' ⟨rv,β',rfl,H',hr,E⟩
      exact hK β' w' rv H' E hr
theorem Le (a:Act) (dst:Option Tmp) (v:Value):(a.put dst v).defers=a.defers:=by
  cases dst <;> rfl
theorem DOK.put {m:Nat} {a:Act} (hd:DOK m a w) (dst:Option Tmp) (v:Value):DOK m (a.put dst v) w:=by
  unfold DOK; rw [Le]; exact hd
theorem Lq {F : Fence} (hF : WideF F) {n m : Nat} {C : B9} (hC : Jq P C) {base : Name} {id : Nat} {ops : Array Oper} {β0 : Pl} {h0 : Heap} {w0 : World} {R : List PV → Heap → Prop} {Q : Exit → Act → World → Prop}
    (hQ:∀ t h β w a,R t h → HInv β h w → TInv β h w t a.tmps → DOK m a w → Ext β0 h0 w0 β h w → Q .normal a w) :
    ∀ (os:List Oper) (i:Nat) (t:List PV) (h:Heap) (β:Pl) (w:World) (a:Act),HInv β h w → TInv β h w t a.tmps → DOK m a w → Ext β0 h0 w0 β h w → Dg P C base id ops i os t h R → wpListIn F n P ops Q os a w
  | [],i,t,h,β,w,a,H,T,hd,E,hw => hQ t h β w a hw H T hd E
  | o::os,i,t,h,β,w,a,H,T,hd,E,hw => by
    unfold Dg at hw
    unfold wpListIn
    split at hw
    · exact hw.elim
    · rename_i hg
      rw [Jc T hg]
      simp only [Bool.false_eq_true,if_false]
      exact ⟨fun f _ => hF.fn f,Lq hF hC hQ os (i + 1) _ h β w _ H (T.put o.dst Gw) (DOK.put hd _ _) E hw⟩
    · rename_i hg
      rw [Jc T hg]
      simp only [if_true]
      obtain ⟨v,h',hs,hw⟩:=hw
      exact O1 hC H T hF hs fun β' w' u H' E' hr => Lq hF hC hQ os (i + 1) _ h' β' w' _ H' ((T.mono H E').put o.dst hr) (DOK.put (DOKs.mono H E' hd) _ _) (E.trans E') hw
theorem R9:∀ {ks:List Bool} {t:List PV},ks.length=t.length → (Di ks t).length=t.length ∧ ∀ (j:Nat) (x:PV),(Di ks t)[j]?=some x → x=.dead ∨ t[j]?=some x
  | [],[],_ => ⟨rfl,fun j x hj => by simp [Di] at hj⟩
  | k::ks,y::t,hl => by
    obtain ⟨h1,h2⟩:=R9 (ks:=ks) (t:=t) (by simpa using hl)
    refine ⟨by simp [Di,h1],fun j x hj => ?_⟩
    cases j with
    | zero =>
      simp only [Di,List.getElem?_cons_zero,Option.some.injEq] at hj
      cases k with
      | true => exact .inr (by simpa using hj)
      | false => exact .inl (by simpa using hj.symm)
    | succ j => simp only [Di,List.getElem?_cons_succ] at hj ⊢; exact h2 j x hj
  | [],_::_,hl => by simp at hl
  | _::_,[],hl => by simp at hl
theorem Fu:∀ {ps:List PV} {p:PV} {b:Name},p ∈ ps → b ∈ Bn p → b ∈ Bs ps
  | q::ps,p,b,hp,hb => by
    rcases List.mem_cons.1 hp with rfl|hp
    · exact List.mem_append.2 (.inl hb)
    · exact List.mem_append.2 (.inr (Fu hp hb))
theorem U2 {bs:List Name} {p:PV} {v:Value} (hp:Rep β h w p v) (hb:∀ b ∈ bs,b ∉ Bn p):Rep β (h.drop bs) w p v:=by
  have hR:∀ a v,Rd β h w a v → Rd β (h.drop bs) w a v:=fun a v hr => ⟨⟨hr.1.1,fun b x hx ho => by
    unfold Heap.drop at hx
    split at hx
    · cases hx
    · exact hr.1.2 b x hx ho⟩,hr.2⟩
  have hk:∀ b x,h b=some x → b ∉ bs → h.drop bs b=some x:=fun b x hx hn => by unfold Heap.drop; rw [if_neg hn]; exact hx
  induction hp with
  | i x v hx => exact .i _ _ (hx.mono hR)
  | view b off z n top x a cap hb' hrow ht hn ha hva =>
    exact .view b off z n top x a cap (hk b x hb' fun hm => hb b hm (by simp [Bn])) hrow ht hn ha hva
  | ref b off top x a hb' ht hva => exact .ref b off top x a (hk b x hb' fun hm => hb b hm (by simp [Bn])) ht hva
  | iref cs off a f hr h1 hs => exact .iref cs off a f (fun j hj => hR _ _ (hr j hj)) h1 fun j x hj => (hs j x hj).mono hR
  | agg cs arr hl hs ih => exact .agg cs arr hl fun j x hj => ih j x hj fun b hm hmr => hb b hm (Fu (List.mem_of_getElem? hj) hmr)
  | tup cs arr hl hs ih => exact .tup cs arr hl fun j x hj => ih j x hj fun b hm hmr => hb b hm (Fu (List.mem_of_getElem? hj) hmr)
  | clo f cs arr hl hs ih => exact .clo f cs arr hl fun j x hj => ih j x hj fun b hm hmr => hb b hm (Fu (List.mem_of_getElem? hj) hmr)
  | mref b x hb' hm => exact .mref b x (hk b x hb' fun hmm => hb b hmm (by simp [Bn])) hm
  | zip a => exact .zip a
  | dead v => exact .dead v
theorem Jh {β0:Pl} {h0:Heap} {w0:World} (H:HInv β h w) {t:List PV} {tmps:Array Value} (T:TInv β h w t tmps) (E:Ext β0 h0 w0 β h w) {ks:List Bool} {bs:List Name} (hf:Forget h0 t h ks bs) :
    HInv β (h.drop bs) w ∧ TInv β (h.drop bs) w (Di ks t) tmps ∧ Ext β0 h0 w0 β (h.drop bs) w:=by
  obtain ⟨h1,h2,h3,h4⟩:=hf
  have hk:∀ b x,h.drop bs b=some x → h b=some x ∧ b ∉ bs:=fun b x hx => by
    unfold Heap.drop at hx
    split at hx
    · cases hx
    · exact ⟨hx,by assumption⟩
  have hR:∀ a v,Rd β h w a v → Rd β (h.drop bs) w a v:=fun a v hr => ⟨⟨hr.1.1,fun b x hx ho => hr.1.2 b x (hk b x hx).1 ho⟩,hr.2⟩
  obtain ⟨hl,hg⟩:=R9 h1
  refine ⟨⟨fun b b' x x' hb hb' => H.inj b b' x x' (hk b x hb).1 (hk b' x' hb').1,fun b x hb => H.nf b x (hk b x hb).1,H.flt,fun b x hb => ?_⟩,⟨by rw [hl]; exact T.size,fun j x hj => ?_⟩,?_⟩
  · obtain ⟨o,hc,hr⟩:=H.box b x (hk b x hb).1
    refine ⟨o,hc,?_⟩
    cases x with
    | map => exact hr
    | row fz cs =>
      obtain ⟨c,e,rfl,hr⟩:=hr
      exact ⟨c,e,rfl,hr.1,fun j y hj => ⟨(hr.2 j y hj).1,(hr.2 j y hj).2.mono hR⟩⟩
    | var cs =>
      obtain ⟨c,e,rfl,hr⟩:=hr
      exact ⟨c,e,rfl,hr.1,fun j y hj => ⟨(hr.2 j y hj).1,U2 (hr.2 j y hj).2 fun b' hm hmr => h4 b cs hb b' hm (Fu (List.mem_of_getElem? hj) hmr)⟩⟩
  · rcases hg j x hj with rfl|hx
    · exact .dead _
    · exact U2 (T.rep j x hx) fun b hm hmr => h3 b hm (Fu (List.mem_of_getElem? hj) hmr)
  · refine ⟨E.os,E.tape,E.output,E.size,E.F,fun blk hlt hs => ?_,fun b x hb => ?_,E.sz⟩
    · obtain ⟨hs',he⟩:=E.stab blk hlt hs
      exact ⟨fun b x hb ho => hs' b x (hk b x hb).1 ho,he⟩
    · obtain ⟨x',hb',hr⟩:=E.keep b x hb
      refine ⟨x',?_,hr⟩
      unfold Heap.drop
      rw [if_neg fun hm => by rw [h2 b hm] at hb; cases hb]
      exact hb'
end Go.Proofs.Ythnfphgjfpcpbaa.TM
namespace Go.Proofs.Ythnfphgjfpcpbaa.TM
open Go
theorem LocalR.stepR {P:Program} {C:B9} {s:Name} {t:List PV} {h:Heap} {op:Op} {e:Eff} (hl:LocalR P C s t h op e):Sj P C s t h op e.val (h.ups e.ups):=by
  rcases hl with ⟨out,ho,rfl⟩|⟨s',out,hx,ho,rfl⟩|⟨c,g,args,v,us,h1,h2,h3,h4,rfl⟩
  · exact .inl ⟨out,ho,rfl,rfl⟩
  · exact .inr (.inl ⟨s',out,hx,.inl ho,rfl,rfl⟩)
  · exact .inr (.inr ⟨c,g,args,h1,h2,h3,.inr ⟨us,h4,rfl⟩⟩)
section
variable {P:Program} {h h':Heap}
theorem Td {t:TypeId} {x:PV} (hx:∀ b ∈ Bn x,h b=h' b):Ap P h t x=Ap P h' t x:=by
  cases x <;> first|rfl|(simp only [Ap]; rw [hx _ (by simp [Bn])])
theorem G9 {x:PV} {k:SK} (hk:x.sk=some k) (hx:∀ b ∈ Bn x,h b=h' b) (z:Nat):k.cells h z=k.cells h' z:=by
  have:=Gk hk; subst this
  cases k with
  | nil => rfl
  | zip => rfl
  | imm n cs => rfl
  | own b off z' n top => simp only [SK.cells]; rw [hx b (by simp [SK.pv,Bn])]
theorem W0 {x:PV} (hx:∀ b ∈ Bn x,h b=h' b):Ba h x=Ba h' x:=by
  cases x <;> first|rfl|(simp only [Ba]; rw [hx _ (by simp [Bn])])
theorem Ho:∀ {ps:List PV},(∀ b ∈ Bs ps,h b=h' b) → Id h ps=Id h' ps
  | [],_ => rfl
  | p::ps,hx => by
    simp only [Id]
    rw [W0 fun b hb => hx b (List.mem_append.2 (.inl hb)),Ho fun b hb => hx b (List.mem_append.2 (.inr hb))]
theorem Kj {v:PV} {b:Name} (hb:b ∈ Bs (Am v)):b ∈ Bn v:=by
  cases v <;> first|exact hb|simpa [Am,Bs] using hb
theorem Qs {t:TypeId} {x v:PV} (hx:∀ b ∈ Bn x,h b=h' b) (hv:∀ b ∈ Bn v,h b=h' b):Ah P h t x v=Ah P h' t x v:=by
  cases x with
  | ref b off top =>
    simp only [Ah]
    rw [hx b (by simp [Bn]),Ho (h:=h) (h':=h') fun b hb => hv b (Kj hb)]
  | _ => rfl
theorem Eh {s:Name} (hs:h s=h' s) (x:Box) (v:PV) (us:List (Name × Box)):Ec h s x v us=Ec h' s x v us:=by simp only [Ec,hs]
theorem Vg {s:Name} (hs:h s=h' s) {t:TypeId} {v:PV} (hv:∀ b ∈ Bn v,h b=h' b):Pn P h s t v=Pn P h' s t v:=by
  simp only [Pn,Eh hs,Ho (h:=h) (h':=h') fun b hb => hv b (Kj hb)]
theorem Qu {s:Name} (hs:h s=h' s) {t:TypeId}:I4 P h s t=I4 P h' s t:=by
  simp only [I4,Eh hs]
theorem D9 {xs ys:List PV}:Bs (xs ++ ys)=Bs xs ++ Bs ys:=by
  induction xs with
  | nil => rfl
  | cons x xs ih => simp [Bs,ih]
theorem P6 (pl:Nat → Option (Nat × Nat)):∀ (L:List (Nat × PV)) (cs cs':List PV),Jr pl L cs=some cs' → ∀ b ∈ Bs cs',b ∈ Bs cs ∨ ∃ q ∈ L,b ∈ Bn q.2
  | [],cs,cs',hf,b,hb => by cases hf; exact .inl hb
  | (i,v)::L,cs,cs',hf,b,hb => by
    unfold Jr at hf
    split at hf
    case h_2 => cases hf
    rename_i off size hpl
    split at hf
    case isFalse => cases hf
    rcases P6 pl L _ _ hf b hb with h1|⟨q,hq,h1⟩
    · unfold Cf at h1
      rw [D9,D9] at h1
      simp only [List.mem_append] at h1
      rcases h1 with (h1|h1)|h1
      · left
        rw [← List.take_append_drop off cs,D9]
        exact List.mem_append.2 (.inl h1)
      · exact .inr ⟨(i,v),by simp,Kj h1⟩
      · left
        rw [← List.take_append_drop (off + (Am v).length) cs,D9]
        exact List.mem_append.2 (.inr h1)
    · exact .inr ⟨q,by simp [hq],h1⟩
theorem Xp (zs:List Value):Bs (zs.map fun x => PV.i (.v x))=[]:=by
  induction zs with
  | nil => rfl
  | cons z zs ih => simp [Bs,Bn,ih]
theorem Lg {s:Name} (hs:h s=h' s) {t:TypeId} {len:Nat} {L:List (Nat × PV)} (hL:∀ q ∈ L,∀ b ∈ Bn q.2,h b=h' b):Eg P h s t len L=Eg P h' s t len L:=by
  unfold Eg
  cases Bw P t with
  | none => rfl
  | some e =>
    simp only
    cases B6 P e with
    | none => rfl
    | some zs =>
      simp only
      split
      · cases hf:Jr (fun i => some (i * zs.length,zs.length)) L ((Cc zs len).map fun x => .i (.v x)) with
        | none => rfl
        | some cs =>
          simp only
          rw [Ho (h:=h) (h':=h') (ps:=cs) fun b hb => by
            rcases P6 _ _ _ _ hf b hb with h1|⟨q,hq,h1⟩
            · rw [Xp] at h1; simp at h1
            · exact hL q hq b h1]
          simp only [Eh hs]
      · rfl
theorem Tc {s:Name} (hs:h s=h' s) {t:TypeId} {l c:PV}:Lf P h s t l c=Lf P h' s t l c:=by
  simp only [Lf,Eh hs]
theorem Qt {e:TypeId} {x:PV} (hx:∀ b ∈ Bn x,h b=h' b):L5 P h e x=L5 P h' e x:=by
  have key:∀ (k:SK),x.sk=some k → k.cells h 1=k.cells h' 1:=fun k hk => G9 hk hx 1
  unfold L5
  cases tkB P e with
  | none => rfl
  | some d =>
    cases hk:x.sk with
    | none => cases d <;> first|rfl|(rename_i k; cases k <;> rfl)
    | some k => cases d <;> first|rfl|(rename_i kk; cases kk <;> first|rfl|(simp only [key k hk]))
theorem N9 {a b:TypeId} {x:PV} (hx:∀ b ∈ Bn x,h b=h' b):Ab P h a b x=Ab P h' a b x:=by
  unfold Ab
  split <;> first|rfl|exact Qt hx
theorem Po {s:Name} (hs:h s=h' s) {t:TypeId} {x y:PV} (hx:∀ b ∈ Bn x,h b=h' b) (hy:∀ b ∈ Bn y,h b=h' b):Do P h s t x y=Do P h' s t x y:=by
  have k1:∀ (k2:SK),y.sk=some k2 → ∀ z,k2.cells h z=k2.cells h' z:=fun k2 hk2 z => G9 hk2 hy z
  unfold Do
  cases hk:x.sk with
  | none => rfl
  | some k =>
    cases hk2:y.sk with
    | none => rfl
    | some k2 =>
      have:=Gk hk; subst this
      simp only [k1 k2 hk2,Eh hs]
      cases k with
      | nil => rfl
      | zip => rfl
      | imm n cs => rfl
      | own b off z n top => simp only [hx b (by simp [SK.pv,Bn])]
theorem Te {t:TypeId} {x y:PV} (hx:∀ b ∈ Bn x,h b=h' b) (hy:∀ b ∈ Bn y,h b=h' b):M2 P h t x y=M2 P h' t x y:=by
  unfold M2
  cases hk:x.sk with
  | none => rfl
  | some k =>
    cases hk2:y.sk with
    | none => cases k <;> rfl
    | some k2 =>
      have:=Gk hk; subst this
      cases k with
      | nil => rfl
      | zip => rfl
      | imm n cs => rfl
      | own b off z n top => simp only [hx b (by simp [SK.pv,Bn]),G9 hk2 hy]
theorem Oa {s:Name} (hs:h s=h' s) {b:Builtin} {ts:List TypeId} {xs:List PV} (hx:∀ b ∈ Bs xs,h b=h' b):Ac P h s b ts xs=Ac P h' s b ts xs:=by
  unfold Ac
  split
  · rw [Po hs (fun b hb => hx b (by simp [Bs,hb])) fun b hb => hx b (by simp [Bs,hb])]
    unfold Ad
    simp only [Eh hs]
  · exact Te (fun b hb => hx b (by simp [Bs,hb])) fun b hb => hx b (by simp [Bs,hb])
  · rfl
  · rfl
  · rfl
  · rfl
  · rfl
theorem Np {x:PV} (hx:∀ b ∈ Bn x,h b=h' b):A0 h x=A0 h' x:=by
  cases x <;> first|rfl|(simp only [A0]; rw [hx _ (by simp [Bn])])
theorem N8 {s:Name} (hs:h s=h' s) {t:TypeId}:Aa P h s t=Aa P h' s t:=by
  simp only [Aa,Eh hs]
theorem Pm {t:TypeId} {x ix:PV} (hx:∀ b ∈ Bn x,h b=h' b):Ag P h t x ix=Ag P h' t x ix:=by
  simp only [Ag,Np hx]
theorem Pk {t:TypeId} {x ix v:PV} (hx:∀ b ∈ Bn x,h b=h' b):Af P h t x ix v=Af P h' t x ix v:=by
  simp only [Af,Np hx]
theorem Xn {ρ:Operand → PV} {ps:Array (Nat × Operand)} {op:Op} (ho:∀ q ∈ ps.toList,q.2 ∈ op.operands.toList) (hr:∀ b ∈ Bs (op.operands.toList.map ρ),h b=h' b) :
    ∀ q ∈ (ps.toList.map fun p => (p.1,ρ p.2)),∀ b ∈ Bn q.2,h b=h' b:=by
  intro q hq b hb
  obtain ⟨p,hp,rfl⟩:=List.mem_map.1 hq
  exact hr b (Fu (List.mem_map.2 ⟨p.2,ho p hp,rfl⟩) hb)
theorem Ly {s:Name} (hs:h s=h' s) {ρ:Operand → PV} {op:Op} (hr:∀ b ∈ H5 op (op.operands.toList.map ρ),h b=h' b):Ao P h s ρ op=Ao P h' s ρ op:=by
  have one:Aq op=true → ∀ x,x ∈ op.operands.toList → ∀ b ∈ Bn (ρ x),h b=h' b:=fun hrd x hx b hb => hr b (by unfold H5; rw [if_pos hrd]; exact Fu (List.mem_map.2 ⟨x,hx,rfl⟩) hb)
  unfold Ao
  cases op with
  | alloc t => exact Qu hs
  | box t x => exact Vg hs (one rfl x (by simp [Op.operands]))
  | buildSlice t n ps => exact Lg hs (Xn (op:=.buildSlice t n ps) (fun q hq => by simp [Op.operands]; exact ⟨q.1,by simpa using hq⟩) hr)
  | load t a => simp only [Td (one rfl a (by simp [Op.operands]))]
  | store t a x => simp only [Qs (one rfl a (by simp [Op.operands])) (one rfl x (by simp [Op.operands]))]
  | convert a b x => simp only [N9 (one rfl x (by simp [Op.operands]))]
  | makeSlice t l c => exact Tc hs
  | makeMap t r => cases r <;> first|rfl|exact N8 hs
  | lookup t x ix ok => cases ok <;> first|rfl|(simp only [Pm (one rfl x (by simp [Op.operands]))])
  | mapUpdate t x ix v => simp only [Pk (one rfl x (by simp [Op.operands]))]
  | call c =>
    obtain ⟨callee,args,ts⟩:=c
    cases callee with
    | builtin b => exact Oa hs (by simpa [Op.operands,Call.operands,H5,Aq] using hr)
    | _ => rfl
  | makeFunc fn first caps => cases fn <;> rfl
  | _ => rfl
end
end Go.Proofs.Ythnfphgjfpcpbaa.TM
namespace Go.Proofs.Ythnfphgjfpcpbaa.TM
open Go
section
variable {P:Program} {h h':Heap}
theorem I6 {p:PV} (hx:∀ b ∈ An p,h b=h' b):Cl h p=Cl h' p:=by
  unfold Cl
  split
  · rfl
  · rfl
  · rfl
  · rfl
  · rw [hx _ (by simp [An])]
  · rfl
theorem Hh {α γ:Type} {f g:α → Option γ}:∀ {l:List α},(∀ x ∈ l,f x=g x) → Cv f l=Cv g l
  | [],_ => rfl
  | x::l,hx => by
    simp only [Cv]
    rw [hx x (by simp),Hh fun y hy => hx y (by simp [hy])]
theorem I7 {p:PV} (hx:∀ b ∈ Al p,h b=h' b):Ch h p=Ch h' p:=by
  cases p with
  | agg cs => simp only [Ch]; rw [Hh fun x hm => I6 fun b hb => hx b (List.mem_flatMap.2 ⟨x,hm,hb⟩)]
  | view b off z n top => exact I6 (p:=.view b off z n top) hx
  | i x => exact I6 (p:=.i x) hx
  | _ => rfl
theorem F0:∀ {bs:List Name},(∀ b ∈ bs,h b=h' b) → B7 h bs=B7 h' bs
  | [],_ => rfl
  | b::bs,hx => by
    have ih:=F0 (bs:=bs) fun c hc => hx c (by simp [hc])
    unfold B7 at ih ⊢
    simp only [List.filterMap_cons,hx b (by simp),ih]
theorem Xs {C:B9} {s:Name} (hs:h s=h' s) {g:FuncId} {args:List PV} {v:PV} {us:List (Name × Box)} (hx:∀ b ∈ args.flatMap Al,h b=h' b) (hp:PureCall C s g args h v us):PureCall C s g args h' v us:=by
  rcases hp with ⟨largs,u,hu,h1,h2,h3,h4⟩|⟨largs,b,u,cs,hu,h1,h2,h3,h4,h5,h6⟩|⟨b,largs,cs,cs',hu,h0,hb,h1,h2,h3,h4,h5,h6⟩
  · refine .inl ⟨largs,u,hu,?_,h2,h3,?_⟩
    · rw [← h1]; exact (Hh fun x hm => I7 fun b hb => hx b (List.mem_flatMap.2 ⟨x,hm,hb⟩)).symm
    · rw [h4,F0 hx]
  · refine .inr (.inl ⟨largs,b,u,cs,hu,?_,h2,h3,by rw [← hs]; exact h4,h5,?_⟩)
    · rw [← h1]; exact (Hh fun x hm => I7 fun b hb => hx b (List.mem_flatMap.2 ⟨x,hm,hb⟩)).symm
    · rw [h6,F0 hx]
  · refine .inr (.inr ⟨b,largs,cs,cs',hu,by rw [← hx b hb]; exact h0,hb,?_,h2,h3,h4,h5,?_⟩)
    · rw [← h1]
      refine (Hh fun x hm => ?_).symm
      unfold Fz
      rw [I7 fun b hb => hx b (List.mem_flatMap.2 ⟨x,hm,hb⟩)]
    · rw [h6,F0 fun c hc => hx c (List.mem_filter.1 hc).1]
end
theorem Xw {t t':List PV} {x:Operand} (hx:∀ k,x=.tmp k → t[k]?=t'[k]?):St.opnd t x=St.opnd t' x:=by
  cases x with
  | tmp k => simp only [St.opnd]; rw [List.getD_eq_getElem?_getD,List.getD_eq_getElem?_getD,hx k rfl]
  | _ => rfl
theorem Ve {ops:Array Oper} {o:Oper} {t t':List PV} (ht:∀ k ∈ o.looksAt ops,t[k]?=t'[k]?):∀ x ∈ o.op.operands.toList,St.opnd t x=St.opnd t' x:=by
  intro x hx
  refine Xw fun k hk => ht k ?_
  subst hk
  exact List.mem_append_left _ (List.mem_filterMap.2 ⟨.tmp k,hx,rfl⟩)
theorem Lz {P:Program} {h:Heap} {s:Name} {ρ ρ':Operand → PV} {op:Op} (hr:∀ x ∈ op.operands.toList,ρ x=ρ' x):Ao P h s ρ op=Ao P h s ρ' op:=by
  have pairs:∀ ps:Array (Nat × Operand),(∀ x ∈ ps.toList.map (·.2),ρ x=ρ' x) → (ps.toList.map fun p => (p.1,ρ p.2))=(ps.toList.map fun p => (p.1,ρ' p.2)):=fun ps hp =>
    List.map_congr_left fun p hm => by rw [hp p.2 (List.mem_map.2 ⟨p,hm,rfl⟩)]
  unfold Ao
  cases op with
  | move x => simp only [hr x (by simp [Op.operands])]
  | assign x => simp only [hr x (by simp [Op.operands])]
  | pick c a b => simp only [hr c (by simp [Op.operands]),hr a (by simp [Op.operands]),hr b (by simp [Op.operands])]
  | box t x => simp only [hr x (by simp [Op.operands])]
  | build t ps => simp only [pairs ps fun x hx => hr x (by simpa [Op.operands] using hx)]
  | buildSlice t n ps => simp only [pairs ps fun x hx => hr x (by simpa [Op.operands] using hx)]
  | load t a => simp only [hr a (by simp [Op.operands])]
  | store t a x => simp only [hr a (by simp [Op.operands]),hr x (by simp [Op.operands])]
  | nilCheck x => simp only [hr x (by simp [Op.operands])]
  | binOp op t x y ty => simp only [hr x (by simp [Op.operands]),hr y (by simp [Op.operands])]
  | unOp op t x => simp only [hr x (by simp [Op.operands])]
  | convert a b x => simp only [hr x (by simp [Op.operands])]
  | makeFunc fn first caps =>
    cases fn with
    | func f =>
      have:caps.toList.map ρ=caps.toList.map ρ':=List.map_congr_left fun x hx => hr x (by simp [Op.operands]; exact .inr (by simpa using hx))
      simp only [this]
    | _ => rfl
  | makeSlice t l c => simp only [hr l (by simp [Op.operands]),hr c (by simp [Op.operands])]
  | slice t x lo hi mx => cases lo <;> cases hi <;> cases mx <;> simp_all [Op.operands]
  | makeMap t r => cases r <;> rfl
  | lookup t x ix ok => cases ok <;> simp only [hr x (by simp [Op.operands]),hr ix (by simp [Op.operands])]
  | mapUpdate t x ix v => simp only [hr x (by simp [Op.operands]),hr ix (by simp [Op.operands]),hr v (by simp [Op.operands])]
  | fieldAddr t x f => simp only [hr x (by simp [Op.operands])]
  | field t x f => simp only [hr x (by simp [Op.operands])]
  | indexAddr t x ix => simp only [hr x (by simp [Op.operands]),hr ix (by simp [Op.operands])]
  | index t x ix => simp only [hr x (by simp [Op.operands]),hr ix (by simp [Op.operands])]
  | extract x ix => simp only [hr x (by simp [Op.operands])]
  | call c =>
    obtain ⟨callee,args,ts⟩:=c
    cases callee with
    | builtin b =>
      have:args.toList.map ρ=args.toList.map ρ':=List.map_congr_left fun x hx => hr x (by simpa [Op.operands,Call.operands] using hx)
      simp only [this]
    | _ => rfl
  | _ => rfl
theorem LocalR.congr {P:Program} {C:B9} {s:Name} {ops:Array Oper} {o:Oper} {t t':List PV} {h h':Heap} {e:Eff} (ht:∀ k ∈ o.looksAt ops,t[k]?=t'[k]?) (hl:LocalR P C s t h o.op e) (hh:∀ b ∈ e.touch,h b=h' b):LocalR P C s t' h' o.op e:=by
  have ho:=Ve ht
  have hop:Eo t o.op=Eo t' o.op:=List.map_congr_left ho
  rcases hl with ⟨out,h1,rfl⟩|⟨s',out,hx,h1,rfl⟩|⟨c,g,args,v,us,h1,h2,h3,h4,rfl⟩
  · refine .inl ⟨out,?_,by rw [hop]⟩
    rw [← Lz ho,← h1]
    exact (Ly (hh s (by simp)) fun b hb => hh b (List.mem_cons_of_mem _ hb)).symm
  · refine .inr (.inl ⟨s',out,hx,?_,by rw [hop]⟩)
    rw [← Lz ho,← h1]
    exact (Ly (hh s' (by simp)) fun b hb => hh b (List.mem_cons_of_mem _ hb)).symm
  · refine .inr (.inr ⟨c,g,args,v,us,h1,?_,h3,?_,by rw [hop]⟩)
    · rw [← h2]
      rw [h1] at ho
      have ho':∀ x ∈ c.operands.toList,St.opnd t x=St.opnd t' x:=ho
      obtain ⟨callee,cargs,ts⟩:=c
      have hargs:cargs.toList.map (St.opnd t')=cargs.toList.map (St.opnd t):=List.map_congr_left fun x hx => (ho' x (by simp [Call.operands]; exact .inr (by simpa using hx))).symm
      unfold Db
      cases callee with
      | value f => simp only [hargs,ho' f (by simp [Call.operands])]
      | _ => rfl
    · exact Xs (hh s (by simp)) (fun b hb => hh b (by simp only [List.mem_cons,List.mem_append]; exact .inr (.inl hb))) h4
theorem V4 {ops:Array Oper} {o:Oper} {t t':List PV} (ht:∀ k ∈ o.looksAt ops,t[k]?=t'[k]?):E5 ops t o=E5 ops t' o:=by
  unfold E5
  cases hg:o.guard with
  | none => rfl
  | some jw =>
    obtain ⟨j,want⟩:=jw
    simp only
    cases hd:(ops[j]?).bind (·.dst) with
    | none => rfl
    | some d =>
      simp only [Option.bind_some]
      rw [ht d (by simp [Oper.looksAt,hg,hd])]
def apply1 (o:Oper) (e:Eff) (s:List PV × Heap):List PV × Heap:=(Cx s.1 o.dst e.val,s.2.ups e.ups)
def Cm (m:Nat → Bool):Nat → List (Oper × Eff) → List PV × Heap → List PV × Heap
  | _,[],s => s
  | i,(o,e)::r,s => Cm m (i + 1) r (if m i then apply1 o e s else s)
theorem U7 {t:List PV} {dst:Option Tmp} {v:PV} {x:Nat} (h:dst ≠ some x):(Cx t dst v)[x]?=t[x]?:=by
  cases dst with
  | none => rfl
  | some d => simp only [Cx]; rw [List.getElem?_set_ne (fun e => h (by rw [e]))]
theorem Ap5 {t:List PV} {dst:Option Tmp} {v:PV}:(Cx t dst v).length=t.length:=by
  cases dst <;> simp [Cx]
theorem Ot {h:Heap}:∀ {us:List (Name × Box)} {b:Name},(∀ u ∈ us,u.1 ≠ b) → h.ups us b=h b
  | [],b,_ => rfl
  | u::us,b,hn => by
    rw [Heap.ups_cons,Ot fun v hv => hn v (by simp [hv]),Heap.put_ne _ _ fun e => hn u (by simp) e.symm]
theorem Sq {h h':Heap}:∀ {us:List (Name × Box)} {b:Name},h b=h' b → h.ups us b=h'.ups us b
  | [],b,he => he
  | u::us,b,he => by
    rw [Heap.ups_cons,Heap.ups_cons]
    refine Sq ?_
    simp only [Heap.put,he]
theorem Zj {h h':Heap}:∀ {us:List (Name × Box)} {b:Name},(∃ u ∈ us,u.1=b) → h.ups us b=h'.ups us b
  | [],b,⟨u,hu,_⟩ => by simp at hu
  | u::us,b,hm => by
    rw [Heap.ups_cons,Heap.ups_cons]
    by_cases h1:∃ v ∈ us,v.1=b
    · exact Zj h1
    · obtain ⟨v,hv,he⟩:=hm
      rcases List.mem_cons.1 hv with rfl|hv
      · refine Sq ?_
        rw [← he,Heap.put_same,Heap.put_same]
      · exact absurd ⟨v,hv,he⟩ h1
theorem Ba2 {t t':List PV} {dst:Option Tmp} {v:PV} {x:Nat} (hl:t.length=t'.length) (he:t[x]?=t'[x]?):(Cx t dst v)[x]?=(Cx t' dst v)[x]?:=by
  cases dst with
  | none => exact he
  | some d =>
    simp only [Cx,List.getElem?_set,hl]
    split
    · rfl
    · exact he
theorem Av6 {m m':Nat → Bool} {x:Nat}:∀ (r:List (Oper × Eff)) (i:Nat) (s s':List PV × Heap),s.1.length=s'.1.length → s.1[x]?=s'.1[x]? →
    (∀ k q,r[k]?=some q → q.1.dst=some x → m (i + k)=m' (i + k)) → (Cm m i r s).1[x]?=(Cm m' i r s').1[x]?
  | [],i,s,s',_,he,_ => he
  | (o,e)::r,i,s,s',hl,he,hm => by
    simp only [Cm]
    refine Av6 r (i + 1) _ _ ?_ ?_ fun k q hq hd => by have:=hm (k + 1) q (by simpa using hq) hd; rwa [show i + (k + 1)=i + 1 + k by omega] at this
    · split <;> split <;> simp [apply1,Ap5,hl]
    · by_cases hd:o.dst=some x
      · have:=hm 0 (o,e) rfl hd
        simp only [Nat.add_zero] at this
        rw [this]
        split
        · exact Ba2 hl he
        · exact he
      · have h1:∀ s:List PV × Heap,(apply1 o e s).1[x]?=s.1[x]?:=fun s => U7 hd
        split <;> split <;> simp [h1,he]
theorem Av7 {m m':Nat → Bool} {b:Name}:∀ (r:List (Oper × Eff)) (i:Nat) (s s':List PV × Heap),s.2 b=s'.2 b →
    (∀ k q,r[k]?=some q → (∃ u ∈ q.2.ups,u.1=b) → m (i + k)=m' (i + k)) → (Cm m i r s).2 b=(Cm m' i r s').2 b
  | [],i,s,s',he,_ => he
  | (o,e)::r,i,s,s',he,hm => by
    simp only [Cm]
    refine Av7 r (i + 1) _ _ ?_ fun k q hq hd => by have:=hm (k + 1) q (by simpa using hq) hd; rwa [show i + (k + 1)=i + 1 + k by omega] at this
    by_cases hd:∃ u ∈ e.ups,u.1=b
    · have:=hm 0 (o,e) rfl hd
      simp only [Nat.add_zero] at this
      rw [this]
      split
      · exact Sq he
      · exact he
    · have h1:∀ s:List PV × Heap,(apply1 o e s).2 b=s.2 b:=fun s => Ot fun u hu hb => hd ⟨u,hu,hb⟩
      split <;> split <;> simp [h1,he]
def Apart2 (o:Oper) (e:Eff) (o':Oper) (e':Eff):Prop:=(∀ d,o.dst=some d → o'.dst ≠ some d) ∧ ∀ u ∈ e.ups,∀ v ∈ e'.ups,u.1 ≠ v.1
theorem Wi {o o':Oper} {e e':Eff} (ha:Apart2 o e o' e') (s:List PV × Heap):apply1 o e (apply1 o' e' s)=apply1 o' e' (apply1 o e s):=by
  unfold apply1
  refine Prod.ext ?_ ?_
  · simp only
    cases hd:o.dst with
    | none => rfl
    | some d =>
      cases hd':o'.dst with
      | none => rfl
      | some d' =>
        have:d ≠ d':=fun h => ha.1 d hd (by rw [hd',h])
        simp only [Cx]
        rw [List.set_comm _ _ (Ne.symm this)]
  · funext b
    simp only
    by_cases h1:∃ u ∈ e.ups,u.1=b
    · have h2:¬ ∃ v ∈ e'.ups,v.1=b:=fun ⟨v,hv,hb⟩ => by
        obtain ⟨u,hu,hb'⟩:=h1
        exact ha.2 u hu v hv (hb'.trans hb.symm)
      rw [Zj (h':=s.2) h1,Ot (h:=s.2.ups e.ups) fun v hv hb => h2 ⟨v,hv,hb⟩]
    · rw [Ot (h:=s.2.ups e'.ups) fun u hu hb => h1 ⟨u,hu,hb⟩]
      refine Sq ?_
      rw [Ot fun u hu hb => h1 ⟨u,hu,hb⟩]
theorem push {m:Nat → Bool} {o:Oper} {e:Eff}:∀ (r:List (Oper × Eff)) (i:Nat) (s:List PV × Heap),(∀ k q,r[k]?=some q → m (i + k)=true → Apart2 o e q.1 q.2) →
    Cm m i r (apply1 o e s)=apply1 o e (Cm m i r s)
  | [],i,s,_ => rfl
  | (o',e')::r,i,s,ha => by
    simp only [Cm]
    have ih:=fun s => push (m:=m) r (i + 1) s fun k q hq hm => ha (k + 1) q (by simpa using hq) (by rwa [show i + (k + 1)=i + 1 + k by omega])
    by_cases hm:m i=true
    · rw [if_pos hm,if_pos hm]
      have h0:=ha 0 (o',e') rfl (by simpa using hm)
      rw [show apply1 o' e' (apply1 o e s)=apply1 o e (apply1 o' e' s) from (Wi h0 s).symm]
      exact ih _
    · rw [if_neg hm,if_neg hm]
      exact ih _
theorem Gu {m m':Nat → Bool}:∀ (r:List (Oper × Eff)) (i:Nat) (s:List PV × Heap),(∀ k,k < r.length → m (i + k)=m' (i + k)) → Cm m i r s=Cm m' i r s
  | [],i,s,_ => rfl
  | (o,e)::r,i,s,hm => by
    simp only [Cm]
    rw [show m i=m' i from hm 0 (by simp)]
    exact Gu r (i + 1) _ fun k hk => by have:=hm (k + 1) (by simpa using hk); rwa [show i + (k + 1)=i + 1 + k by omega] at this
theorem insert1 {m m':Nat → Bool} {j:Nat} {o:Oper} {e:Eff}:∀ (r:List (Oper × Eff)) (i:Nat) (s:List PV × Heap),i ≤ j → r[j - i]?=some (o,e) → m j=false → m' j=true → (∀ k,k ≠ j → m' k=m k) →
    (∀ k q,r[k]?=some q → j < i + k → m (i + k)=true → Apart2 o e q.1 q.2) → Cm m' i r s=apply1 o e (Cm m i r s)
  | [],i,s,_,hj,_,_,_,_ => by simp at hj
  | (o',e')::r,i,s,hij,hj,h0,h1,hne,ha => by
    simp only [Cm]
    by_cases hi:i=j
    · subst hi
      simp only [Nat.sub_self,List.getElem?_cons_zero,Option.some.injEq,Prod.mk.injEq] at hj
      obtain ⟨rfl,rfl⟩:=hj
      rw [if_pos h1,if_neg (by simp [h0])]
      rw [Gu (m:=m') (m':=m) r (i + 1) _ fun k hk => hne _ (by omega)]
      exact push r (i + 1) s fun k q hq hm => ha (k + 1) q (by simpa using hq) (by omega) (by rwa [show i + (k + 1)=i + 1 + k by omega])
    · rw [hne i hi]
      refine insert1 r (i + 1) _ (by omega) ?_ h0 h1 hne fun k q hq hk hm => ha (k + 1) q (by simpa using hq) (by omega) (by rwa [show i + (k + 1)=i + 1 + k by omega])
      rw [show j - i=(j - (i + 1)) + 1 by omega,List.getElem?_cons_succ] at hj
      exact hj
end Go.Proofs.Ythnfphgjfpcpbaa.TM
namespace Go.Proofs.Ythnfphgjfpcpbaa.TM
open Go
variable {P:Program} {β:Pl} {h:Heap} {w:World}
def Anc (ops:List Oper) (i j:Nat):Prop :=
  ∀ S:Nat → Prop,(∀ k o,S k → ops[k]?=some o → ∀ d ∈ dirs o,S d) → (∀ o,ops[j]?=some o → ∀ d ∈ dirs o,S d) → S i
theorem P3 (acc:List Nat) (i:Nat):∀ (ds:List Nat) (s:Nat),(ds.foldl (fun s d => s ||| 2 ^ d ||| acc.getD d 0) s).testBit i=true → s.testBit i=true ∨ ∃ d ∈ ds,d=i ∨ (acc.getD d 0).testBit i=true
  | [],s,h => .inl h
  | d::ds,s,h => by
    rcases P3 acc i ds _ h with h1|⟨d',hd',h1⟩
    · rw [Nat.testBit_or,Nat.testBit_or] at h1
      simp only [Bool.or_eq_true] at h1
      rcases h1 with (h1|h1)|h1
      · exact .inl h1
      · refine .inr ⟨d,by simp,.inl ?_⟩
        rw [Nat.testBit_two_pow] at h1
        simpa using h1
      · exact .inr ⟨d,by simp,.inr h1⟩
    · exact .inr ⟨d',by simp [hd'],h1⟩
theorem Mk (all:List Oper):∀ (os:List Oper) (acc:List Nat),all.drop acc.length=os → (∀ j i,((acc.getD j 0).testBit i)=true → Anc all i j) →
    ∀ j i,(((Oo os acc).getD j 0).testBit i)=true → Anc all i j
  | [],acc,_,ha,j,i,hb => ha j i hb
  | o::os,acc,hd,ha,j,i,hb => by
    refine Mk all os (acc ++ [(dirs o).foldl (fun s d => s ||| 2 ^ d ||| acc.getD d 0) 0]) ?_ ?_ j i hb
    · simp only [List.length_append,List.length_cons,List.length_nil]
      rw [← List.drop_drop,hd]; rfl
    · intro j i hb
      rw [List.getD_eq_getElem?_getD,List.getElem?_append] at hb
      split at hb
      · exact ha j i (by rw [List.getD_eq_getElem?_getD]; exact hb)
      · rename_i hj
        by_cases hj0:j - acc.length=0
        · have hje:j=acc.length:=by omega
          subst hje
          simp only [Nat.sub_self,List.getElem?_cons_zero,Option.getD_some] at hb
          have ho:all[acc.length]?=some o:=by
            have:=congrArg (·[0]?) hd
            simpa using this
          rcases P3 acc i _ _ hb with h1|⟨d,hdm,h1⟩
          · simp at h1
          · intro S hS hj
            have hSd:=hj o ho d hdm
            rcases h1 with h1|h1
            · rw [← h1]; exact hSd
            · exact ha d i h1 S hS fun o' ho' => hS d o' hSd ho'
        · rw [List.getElem?_eq_none (by simp; omega)] at hb
          simp at hb
theorem Ar0 {o:Oper} {e:Edge} (he:e ∈ o.after) (hb:Region.binds .any e=true):e.on ∈ dirs o :=
  List.mem_map.2 ⟨e,List.mem_filter.2 ⟨by simpa using he,hb⟩,rfl⟩
theorem Au0 {o:Oper} {d:Nat} (hd:d ∈ dirs o):∃ e ∈ o.after,Region.binds .any e=true ∧ e.on=d:=by
  obtain ⟨e,he,rfl⟩:=List.mem_map.1 hd
  obtain ⟨h1,h2⟩:=List.mem_filter.1 he
  exact ⟨e,by simpa using h1,h2,rfl⟩
theorem Yc {b c:Name} (h:(Dr b == Dr c)=false):b ≠ c:=fun e => by subst e; simp at h
structure DrawOK (ops:Array Oper) (effs:List Eff):Prop where
  fwd:∀ j o,ops.toList[j]?=some o → ∀ d ∈ dirs o,d < j
  pair:∀ i j oi ei oj ej,i < j → (ops.toList.zip effs)[i]?=some (oi,ei) → (ops.toList.zip effs)[j]?=some (oj,ej) → Anc ops.toList i j ∨ Gn ops oi ei oj ej=true
theorem DrawOK.of {ops:Array Oper} {effs:List Eff} (h:Na ops effs=true):DrawOK ops effs:=by
  unfold Na at h
  rw [Bool.and_eq_true] at h
  obtain ⟨h1,h2⟩:=h
  refine ⟨fun j o ho d hd => ?_,fun i j oi ei oj ej hij hi hj => ?_⟩
  · have hm:(o,j) ∈ ops.toList.zipIdx:=List.mem_zipIdx_iff_getElem?.2 ho
    have:=List.all_eq_true.1 (List.all_eq_true.1 h1 _ hm) d hd
    simpa using this
  · have hm:((oj,ej),j) ∈ (ops.toList.zip effs).zipIdx:=List.mem_zipIdx_iff_getElem?.2 hj
    have h3:=List.all_eq_true.1 h2 _ hm
    have hm2:((oi,ei),i) ∈ ((ops.toList.zip effs).take j).zipIdx:=List.mem_zipIdx_iff_getElem?.2 (by simp only; rw [List.getElem?_take,if_pos hij]; exact hi)
    have h4:=List.all_eq_true.1 h3 _ hm2
    rcases Bool.or_eq_true_iff.1 h4 with h4|h4
    · exact .inl (Mk ops.toList ops.toList [] rfl (fun j i hb => by simp at hb) j i h4)
    · exact .inr h4
theorem Gi {ops:Array Oper} {oi oj:Oper} {ei ej:Eff} (h:Gn ops oi ei oj ej=true) :
    oi.apart ops oj=true ∧ (∀ u ∈ ei.ups,(∀ b ∈ ej.touch,b ≠ u.1) ∧ ∀ v ∈ ej.ups,v.1 ≠ u.1) ∧ ∀ u ∈ ej.ups,∀ b ∈ ei.touch,b ≠ u.1:=by
  unfold Gn at h
  rw [Bool.and_eq_true,Bool.and_eq_true] at h
  obtain ⟨⟨h1,h2⟩,h3⟩:=h
  refine ⟨h1,fun u hu => ?_,fun u hu b hb => ?_⟩
  · have:=List.all_eq_true.1 h2 u hu
    rw [Bool.and_eq_true] at this
    refine ⟨fun b hb => Yc ?_,fun v hv => Yc ?_⟩
    · have h4:=this.1
      rw [Bool.not_eq_true',List.any_eq_false] at h4
      simpa using h4 b hb
    · have h4:=this.2
      rw [Bool.not_eq_true',List.any_eq_false] at h4
      simpa using h4 v hv
  · have:=List.all_eq_true.1 h3 u hu
    rw [Bool.not_eq_true',List.any_eq_false] at this
    exact Yc (by simpa using this b hb)
theorem Ab6 {C:B9} {base:Name} {id:Nat} {ops:Array Oper}:∀ (os:List Oper) (es:List Eff) (i:Nat) (t:List PV) (h:Heap) (Q:List PV → Heap → Prop),Effs P C base id ops i os es t h Q →
    os.length=es.length ∧ (∀ k o e,(os.zip es)[k]?=some (o,e) → Zh P C base id ops (i + k) (Cm (fun x => decide (x < i + k)) i (os.zip es) (t,h)).1 (Cm (fun x => decide (x < i + k)) i (os.zip es) (t,h)).2 o e) ∧
    Q (Cm (fun _ => true) i (os.zip es) (t,h)).1 (Cm (fun _ => true) i (os.zip es) (t,h)).2
  | [],[],i,t,h,Q,he => ⟨rfl,fun k o e hk => by simp at hk,he⟩
  | o::os,e::es,i,t,h,Q,he => by
    obtain ⟨h1,h2⟩:=he
    obtain ⟨hl,hk,hq⟩:=Ab6 os es (i + 1) _ _ Q h2
    refine ⟨by simp [hl],fun k o' e' hke => ?_,hq⟩
    cases k with
    | zero =>
      simp only [List.zip_cons_cons,List.getElem?_cons_zero,Option.some.injEq,Prod.mk.injEq] at hke
      obtain ⟨rfl,rfl⟩:=hke
      have hid:∀ (r:List (Oper × Eff)) (a:Nat) (s:List PV × Heap),i ≤ a → Cm (fun x => decide (x < i)) a r s=s:=by
        intro r
        induction r with
        | nil => intro a s _; rfl
        | cons q r ih => intro a s ha; simp only [Cm]; rw [if_neg (by simpa using ha)]; exact ih (a + 1) s (by omega)
      have:=hid ((o,e)::os.zip es) i (t,h) (Nat.le_refl _)
      simp only [Nat.add_zero,List.zip_cons_cons]
      rw [this]
      exact h1
    | succ k =>
      simp only [List.zip_cons_cons,List.getElem?_cons_succ] at hke
      have:=hk k o' e' hke
      simp only [List.zip_cons_cons,Cm]
      rw [if_pos (by simp),show i + (k + 1)=i + 1 + k by omega]
      exact this
  | [],_::_,_,_,_,_,he => he.elim
  | _::_,[],_,_,_,_,he => he.elim
theorem Yq (n:Nat) (l:Array Bool) (i:Nat) (hi:i < n) (hs:l.size=n) (h0:l.getD i false=false) :
    ((List.range n).filter fun k => !(l.setIfInBounds i true).getD k false).length < ((List.range n).filter fun k => !l.getD k false).length:=by
  have key:∀ r:List Nat,r.Nodup → (r.filter fun k => !(l.setIfInBounds i true).getD k false).length + (if i ∈ r then 1 else 0)=(r.filter fun k => !l.getD k false).length:=by
    intro r
    induction r with
    | nil => intro _; rfl
    | cons k r ih =>
      intro hn
      have hn':=List.nodup_cons.1 hn
      have ih':=ih hn'.2
      by_cases hk:k=i
      · subst hk
        have h1:(l.setIfInBounds k true).getD k false=true:=by simp [hs,hi]
        simp only [List.filter_cons,h1,h0,Bool.not_true,Bool.not_false,Bool.false_eq_true,if_false,if_true,List.length_cons,List.mem_cons,true_or]
        rw [if_neg hn'.1] at ih'
        omega
      · have h1:(l.setIfInBounds i true).getD k false=l.getD k false:=getD_set_ne false (Ne.symm hk)
        simp only [List.filter_cons,h1,List.mem_cons,Ne.symm hk,false_or]
        split <;> (try simp only [List.length_cons]) <;> omega
  have:=key (List.range n) List.nodup_range
  rw [if_pos (List.mem_range.2 hi)] at this
  omega
theorem Yk {F : Fence} (hF : WideF F) {n m : Nat} (hm : P.follows .mixedOrders = true) {C : B9} (hC : Jq P C) {base : Name} {id : Nat} {ops : Array Oper} {effs : List Eff} {t : List PV} {h : Heap} {R : List PV → Heap → Prop}
    (hok:Na ops effs=true) (he:Effs P C base id ops 0 ops.toList effs t h R) {β0:Pl} {h0:Heap} {w0:World} {Q:Exit → Act → World → Prop}
    (hQ:∀ t h β w a,R t h → HInv β h w → TInv β h w t a.tmps → DOK m a w → Ext β0 h0 w0 β h w → Q .normal a w)
    {w:World} {a:Act} (H:HInv β h w) (T:TInv β h w t a.tmps) (hd:DOK m a w) (E:Ext β0 h0 w0 β h w):(Code.region id ops true).wpIn F n P Q a w:=by
  have D:=DrawOK.of hok
  obtain ⟨hlen,hat,hall⟩:=Ab6 _ _ _ _ _ _ he
  generalize hr:ops.toList.zip effs=r at hat hall
  have hrl:r.length=ops.size:=by rw [← hr,List.length_zip,← hlen]; simp
  have hrget:∀ (k:Nat) (q:Oper × Eff),r[k]?=some q → ops.toList[k]?=some q.1:=fun k q hk => by
    rw [← hr,List.getElem?_zip_eq_some] at hk
    exact hk.1
  have hpair:=D.pair
  rw [hr] at hpair
  refine wpIn_region_any hm ?_
  have key:∀ (fuel:Nat) (listed:Array Bool) (β:Pl) (w:World) (a:Act),listed.size=ops.size →
      ((List.range ops.size).filter fun k => !listed.getD k false).length ≤ fuel →
      (∀ k o,listed.getD k false=true → ops.toList[k]?=some o → ∀ d ∈ dirs o,listed.getD d false=true) →
      HInv β (Cm (fun k => listed.getD k false) 0 r (t,h)).2 w → TInv β (Cm (fun k => listed.getD k false) 0 r (t,h)).2 w (Cm (fun k => listed.getD k false) 0 r (t,h)).1 a.tmps →
      DOK m a w → Ext β0 h0 w0 β (Cm (fun k => listed.getD k false) 0 r (t,h)).2 w → wpAnyIn F n P .any ops Q fuel listed a w:=by
    intro fuel
    induction fuel with
    | zero =>
      intro listed β w a hs hc hdown H T hd E
      have hall':∀ k,k < ops.size → listed.getD k false=true:=fun k hk => by
        have hnil:((List.range ops.size).filter fun k => !listed.getD k false)=[]:=List.eq_nil_of_length_eq_zero (Nat.le_zero.1 hc)
        have:=List.filter_eq_nil_iff.1 hnil k (List.mem_range.2 hk)
        simpa using this
      have hst:Cm (fun k => listed.getD k false) 0 r (t,h)=Cm (fun _ => true) 0 r (t,h):=Gu r 0 _ fun k hk => by simp only [Nat.zero_add]; exact hall' k (by omega)
      refine ⟨?_,hQ _ _ β w a hall (hst ▸ H) (hst ▸ T) hd (hst ▸ E)⟩
      rw [List.eq_nil_iff_forall_not_mem]
      intro j hj
      obtain ⟨h1,o,ho,_⟩:=mem_ready.1 hj
      have hlt:j < ops.size:=(Array.getElem?_eq_some_iff.1 ho).1
      have h2:=hall' j hlt
      have:listed.getD j true=listed.getD j false:=by simp [hs,hlt]
      rw [this,h2] at h1; cases h1
    | succ fuel ih =>
      intro listed β w a hs hc hdown H T hd E
      refine ⟨fun hnil => ?_,fun j hj => ?_⟩
      · -- all are done
        have hall':∀ k,k < ops.size → listed.getD k false=true:=by
          intro k
          induction k using Nat.strongRecOn with
          | _ k ihk =>
            intro hk
            cases hb:listed.getD k false with
            | true => rfl
            | false =>
              exfalso
              have ho:ops[k]?=some ops[k]:=Array.getElem?_eq_getElem hk
              have hbt:listed.getD k true=false:=by
                have:listed.getD k true=listed.getD k false:=by simp [hs,hk]
                rw [this,hb]
              have:k ∈ Region.ready .any ops listed:=mem_ready.2 ⟨hbt,ops[k],ho,fun e hee hbe => by
                have hlt:=D.fwd k ops[k] (by simp) e.on (Ar0 hee hbe)
                exact ihk e.on hlt (by omega)⟩
              rw [hnil] at this; cases this
        have hst:Cm (fun k => listed.getD k false) 0 r (t,h)=Cm (fun _ => true) 0 r (t,h):=Gu r 0 _ fun k hk => by simp only [Nat.zero_add]; exact hall' k (by omega)
        exact hQ _ _ β w a hall (hst ▸ H) (hst ▸ T) hd (hst ▸ E)
      · obtain ⟨h1,o,ho,hafter⟩:=mem_ready.1 hj
        have hlt:j < ops.size:=(Array.getElem?_eq_some_iff.1 ho).1
        have h2 : listed.getD j false = false := by have : listed.getD j true = listed.getD j false := by simp [hs, hlt]
                                                    rw [← this]; exact h1
        obtain ⟨⟨o',e⟩,hje⟩:∃ q,r[j]?=some q:=⟨_,List.getElem?_eq_getElem (by omega)⟩
        have hoo:o'=o:=by
          have:=hrget j _ hje
          simp only [Array.getElem?_toList] at this
          rw [ho] at this; cases this; rfl
        subst hoo
        have hdirs:∀ d ∈ dirs o',listed.getD d false=true:=fun d hdm => by
          obtain ⟨ed,he1,he2,rfl⟩:=Au0 hdm
          exact hafter ed he1 he2
        have hanc:∀ i,Anc ops.toList i j → listed.getD i false=true:=fun i ha => ha (fun k => listed.getD k false=true) hdown fun o2 ho2 d hd2 => by
          simp only [Array.getElem?_toList] at ho2
          rw [ho] at ho2; cases ho2
          exact hdirs d hd2
        have hanc2:∀ i,i < ops.size → listed.getD i false=true → ¬ Anc ops.toList j i:=fun i hi hli ha => by
          have:=ha (fun k => listed.getD k false=true) hdown fun o2 ho2 d hd2 => hdown i o2 hli ho2 d hd2
          rw [h2] at this; cases this
        -- where a place that the operation looks at is written,the order is fixed
        have hmask:∀ (k:Nat) (q:Oper × Eff),r[k]?=some q → k ≠ j → (k < j → Gn ops q.1 q.2 o' e=false) → (j < k → Gn ops o' e q.1 q.2=false) → listed.getD k false=decide (k < j):=fun k q hk hkj ha hb => by
          rcases Nat.lt_or_gt_of_ne hkj with hlt'|hgt
          · rcases hpair k j q.1 q.2 o' e hlt' hk hje with h3|h3
            · rw [hanc k h3]; simp [hlt']
            · rw [ha hlt'] at h3; cases h3
          · rcases hpair j k o' e q.1 q.2 hgt hje hk with h3|h3
            · have hks:k < ops.size:=by have:=(List.getElem?_eq_some_iff.1 hk).1; omega
              have:listed.getD k false ≠ true:=fun hh => hanc2 k hks hh h3
              rw [Bool.eq_false_iff.2 this]; simp; omega
            · rw [hb hgt] at h3; cases h3
        have heff:=hat j o' e hje
        simp only [Nat.zero_add] at heff
        have hagT:∀ x ∈ o'.looksAt ops,(Cm (fun x => decide (x < j)) 0 r (t,h)).1[x]?=(Cm (fun k => listed.getD k false) 0 r (t,h)).1[x]?:=fun x hx => by
          refine Av6 r 0 _ _ rfl rfl fun k q hk hdst => ?_
          simp only [Nat.zero_add]
          by_cases hkj:k=j
          · subst hkj; rw [h2]; simp
          · rw [hmask k q hk hkj (fun _ => ?_) (fun _ => ?_)]
            · cases hap:Gn ops q.1 q.2 o' e with
              | false => rfl
              | true => exact absurd hx ((Oper.apart_spec (Gi hap).1).1 x hdst)
            · cases hap:Gn ops o' e q.1 q.2 with
              | false => rfl
              | true => exact absurd hx ((Oper.apart_spec (Gi hap).1).2.2 x hdst)
        have hagH:∀ b ∈ e.touch,(Cm (fun x => decide (x < j)) 0 r (t,h)).2 b=(Cm (fun k => listed.getD k false) 0 r (t,h)).2 b:=fun b hb => by
          refine Av7 r 0 _ _ rfl fun k q hk hu => ?_
          simp only [Nat.zero_add]
          obtain ⟨u,hu,hub⟩:=hu
          by_cases hkj:k=j
          · subst hkj; rw [h2]; simp
          · rw [hmask k q hk hkj (fun _ => ?_) (fun _ => ?_)]
            · cases hap:Gn ops q.1 q.2 o' e with
              | false => rfl
              | true => exact absurd hub.symm (((Gi hap).2.1 u hu).1 b hb)
            · cases hap:Gn ops o' e q.1 q.2 with
              | false => rfl
              | true => exact absurd hub.symm ((Gi hap).2.2 u hu b hb)
        -- the state behind it
        have hst:Cm (fun k => (listed.setIfInBounds j true).getD k false) 0 r (t,h)=apply1 o' e (Cm (fun k => listed.getD k false) 0 r (t,h)):=by
          refine insert1 (j:=j) r 0 _ (Nat.zero_le _) (by simpa using hje) h2 (by simp [hs,hlt]) (fun k hk => getD_set_ne false (Ne.symm hk)) fun k q hk hjk hmk => ?_
          simp only [Nat.zero_add] at hjk hmk
          have hks:k < ops.size:=by have:=(List.getElem?_eq_some_iff.1 hk).1; omega
          rcases hpair j k o' e q.1 q.2 hjk hje hk with h3|h3
          · exact absurd h3 (hanc2 k hks hmk)
          · obtain ⟨a1,a2,_⟩:=Gi h3
            exact ⟨(Oper.apart_spec a1).2.1,fun u hu v hv => ((a2 u hu).2 v hv).symm⟩
        have hnext:∀ (β':Pl) (w':World) (u:Value),HInv β' ((Cm (fun k => listed.getD k false) 0 r (t,h)).2.ups e.ups) w' →
            Ext β (Cm (fun k => listed.getD k false) 0 r (t,h)).2 w β' ((Cm (fun k => listed.getD k false) 0 r (t,h)).2.ups e.ups) w' → Rep β' ((Cm (fun k => listed.getD k false) 0 r (t,h)).2.ups e.ups) w' e.val u →
            wpAnyIn F n P .any ops Q fuel (listed.setIfInBounds j true) (a.put o'.dst u) w':=fun β' w' u H' E' hru => by
          refine ih (listed.setIfInBounds j true) β' w' _ (by simpa using hs) (by have:=Yq ops.size listed j hlt hs h2; omega) (fun k o2 hk ho2 d hdm => ?_) (by rw [hst]; exact H') (by rw [hst]; exact (T.mono H E').put o'.dst hru) (DOK.put (DOKs.mono H E' hd) _ _) (by rw [hst]; exact E.trans E')
          by_cases hkj:k=j
          · subst hkj
            simp only [Array.getElem?_toList] at ho2
            rw [ho] at ho2; cases ho2
            exact getD_set_true (hdirs d hdm)
          · rw [getD_set_ne false (Ne.symm hkj)] at hk
            exact getD_set_true (hdown k o2 hk ho2 d hdm)
        unfold wpOpIn
        simp only [ho]
        unfold Zh at heff
        rw [V4 hagT] at heff
        split at heff
        · exact heff.elim
        · rename_i hg
          rw [Jc T hg]
          simp only [Bool.false_eq_true,if_false]
          subst heff
          exact ⟨fun f _ => hF.fn f,hnext β w undef H (Ext.refl _ _ _) Gw⟩
        · rename_i hg
          rw [Jc T hg]
          simp only [if_true]
          exact O1 hC H T hF (heff.congr hagT hagH).stepR fun β' w' u H' E' hru => hnext β' w' u H' E' hru
  have hst0:Cm (fun k => (Array.replicate ops.size false).getD k false) 0 r (t,h)=(t,h):=by
    have:∀ (r:List (Oper × Eff)) (i:Nat) (s:List PV × Heap),Cm (fun k => (Array.replicate ops.size false).getD k false) i r s=s:=by
      intro r
      induction r with
      | nil => intro i s; rfl
      | cons q r ih =>
        intro i s
        simp only [Cm]
        rw [if_neg,ih]
        simp only [Array.getD_eq_getD_getElem?,Array.getElem?_replicate]
        split <;> simp
    exact this r 0 _
  refine key ops.size (Array.replicate ops.size false) β _ a (by simp) (by
    refine Nat.le_trans (List.length_filter_le _ _) ?_
    simp) (fun k o hk => ?_) (by rw [hst0]; exact H.drew) (by rw [hst0]; exact T.mono H (Ext.drew β h w)) (DOKs.mono H (Ext.drew β h w) hd) (by rw [hst0]; exact E.trans (Ext.drew β h w))
  simp only [Array.getD_eq_getD_getElem?,Array.getElem?_replicate] at hk
  split at hk <;> simp at hk
end Go.Proofs.Ythnfphgjfpcpbaa.TM
namespace Go.Proofs.Ythnfphgjfpcpbaa.TM
open Go
variable {P:Program} {β:Pl} {h:Heap} {w:World}
def Post (m:Nat) (β0:Pl) (h0:Heap) (w0:World) (Q:Ex → List PV → Heap → Prop):Exit → Act → World → Prop:=fun e a w =>
  ∃ ex t h β,e=Ex.real ex ∧ Q ex t h ∧ HInv β h w ∧ TInv β h w t a.tmps ∧ DOK m a w ∧ Ext β0 h0 w0 β h w
structure Calm (β:Pl) (h:Heap) (m:Nat) (w w':World):Prop where
  os:w'.os=w.os
  tape:w'.tape=w.tape
  output:w'.output=w.output
  size:w.heap.size ≤ w'.heap.size
  at_:∀ k,k < w.heap.size → w'.heap[k]?=w.heap[k]? ∨ (m ≤ k ∧ (∀ c e f,w.heap[k]? ≠ some (.cells c e f)) ∧ ∀ b x,h b=some x → β b ≠ k)
theorem Calm.box {m:Nat} {w':World} (c:Calm β h m w w') (H:HInv β h w) {b:Name} {x:Box} (hb:h b=some x):w'.heap[β b]?=w.heap[β b]?:=by
  rcases c.at_ (β b) (H.lt hb) with h1|⟨_,_,h2⟩
  · exact h1
  · exact absurd rfl (h2 b x hb)
theorem Calm.rd {m:Nat} {w':World} (c:Calm β h m w w') {a:Addr} {v:Value} (hr:Rd β h w a v):Rd β h w' a v:=by
  refine ⟨hr.1,?_⟩
  have hc:=hr.2
  obtain ⟨o,ho,hoc⟩:=cells_of_cell hc
  rcases c.at_ a.block (Array.getElem?_eq_some_iff.1 ho).1 with h1|⟨_,h2,_⟩
  · exact (World.cell?_of_block h1).trans hc
  · cases o with
    | cells cc e f => exact absurd ho (h2 cc e f)
    | _ => cases hoc
theorem Calm.rep {m:Nat} {w':World} (c:Calm β h m w w') (H:HInv β h w) {p:PV} {v:Value} (hp:Rep β h w p v):Rep β h w' p v:=by
  have hR:∀ a v,Rd β h w a v → Rd β h w' a v:=fun a v => c.rd
  induction hp with
  | i x v hx => exact .i x v (hx.mono hR)
  | view b off z n top x a cap hb hrow ht hn ha hv =>
    refine .view b off z n top x a cap hb hrow ht hn ha fun he => ?_
    have hs:szW w' (β b)=szW w (β b):=by unfold szW; rw [c.box H hb]
    rw [hs]
    exact hv he
  | ref b off top x a hb ht hv => exact .ref b off top x a hb ht hv
  | iref cs off a f hr h1 hs => exact .iref cs off a f (fun j hj => hR _ _ (hr j hj)) h1 fun j x hx => (hs j x hx).mono hR
  | agg cs arr hl hs ih => exact .agg cs arr hl ih
  | tup cs arr hl hs ih => exact .tup cs arr hl ih
  | clo f cs arr hl hs ih => exact .clo f cs arr hl ih
  | mref b x hb hm => exact .mref b x hb hm
  | zip a => exact .zip a
  | dead v => exact .dead v
theorem Calm.inv {m:Nat} {w':World} (c:Calm β h m w w') (H:HInv β h w):HInv β h w':=by
  refine ⟨H.inj,H.nf,fun blk hF => Nat.lt_of_lt_of_le (H.flt blk hF) c.size,fun b x hb => ?_⟩
  obtain ⟨o,ho,hr⟩:=H.box b x hb
  refine ⟨o,(c.box H hb).trans ho,?_⟩
  cases x with
  | row fz cs => obtain ⟨cc,e,rfl,h1,h2⟩:=hr; exact ⟨cc,e,rfl,h1,fun j y hj => ⟨(h2 j y hj).1,(h2 j y hj).2.mono fun a v => c.rd⟩⟩
  | var cs => obtain ⟨cc,e,rfl,h1,h2⟩:=hr; exact ⟨cc,e,rfl,h1,fun j y hj => ⟨(h2 j y hj).1,c.rep H (h2 j y hj).2⟩⟩
  | map => exact hr
theorem Calm.tinv {m:Nat} {w':World} (c:Calm β h m w w') (H:HInv β h w) {t:List PV} {tmps:Array Value} (T:TInv β h w t tmps):TInv β h w' t tmps :=
  ⟨T.size,fun j x hj => c.rep H (T.rep j x hj)⟩
theorem Calm.ext {β0:Pl} {h0:Heap} {w0 w':World} {m:Nat} (c:Calm β h m w w') (hm:w0.heap.size ≤ m) (E:Ext β0 h0 w0 β h w):Ext β0 h0 w0 β h w':=by
  have key:∀ blk,blk < w0.heap.size → w'.heap[blk]?=w.heap[blk]?:=fun blk hlt => by
    rcases c.at_ blk (Nat.lt_of_lt_of_le hlt E.size) with h1|⟨h1,_⟩
    · exact h1
    · omega
  refine ⟨c.os.trans E.os,c.tape.trans E.tape,c.output.trans E.output,Nat.le_trans E.size c.size,E.F,fun blk hlt hs => ?_,E.keep,fun blk hlt => ?_⟩
  · obtain ⟨h1,h2⟩:=E.stab blk hlt hs
    exact ⟨h1,(key blk hlt).trans h2⟩
  · have:szW w' blk=szW w blk:=by unfold szW; rw [key blk hlt]
    exact this.trans (E.sz blk hlt)
theorem Calm.of_grown {w':World} {row:Option Nat} {m:Nat} (hg:w.grownBy w' row) (H:HInv β h w) (hn:Aq2 h) (hr:∀ r,row=some r → m ≤ r ∧ ∃ o:Obj,w.heap[r]?=some o ∧ o.isCells=false):Calm β h m w w':=by
  refine ⟨hg.os,hg.tape,hg.output,hg.size,fun k hk => ?_⟩
  by_cases he:some k=row
  · obtain ⟨h1,o,ho,hoc⟩:=hr k he.symm
    refine .inr ⟨h1,fun c e f hc => ?_,fun b x hb hbk => ?_⟩
    · rw [ho] at hc; cases hc; cases hoc
    · obtain ⟨c,e,hc,_⟩:=H.cells hb (hn b x hb)
      rw [hbk,ho] at hc; cases hc; cases hoc
  · exact .inl (hg.block k hk he)
def Fy:List Oper → Act → Act
  | [],a => a
  | o::os,a => match o.op with
    | .assign x => Fy os (a.put o.dst (a.eval x))
    | .move x => Fy os (a.put o.dst (a.eval x))
    | _ => Fy os a
theorem F9:∀ (os:List Oper) (a:Act),(Fy os a).defers=a.defers
  | [],a => rfl
  | o::os,a => by
    unfold Fy
    split
    · rw [F9 os,Le]
    · rw [F9 os,Le]
    · rw [F9 os]
theorem J6 {F:Fence} (hF:WideF F) {n:Nat} {ops:Array Oper} {Q:Exit → Act → World → Prop}:∀ (os:List Oper) (t t':List PV) (a:Act),Ps os t=some t' →
    (∀ W,Q .normal (Fy os a) W → wpListIn F n P ops Q os a W) ∧ (∀ (β:Pl) (h:Heap) (w:World),TInv β h w t a.tmps → TInv β h w t' (Fy os a).tmps)
  | [],t,t',a,hm => by cases hm; exact ⟨fun W hq => hq,fun β h w T => T⟩
  | o::os,t,t',a,hm => by
    unfold Ps at hm
    split at hm
    · rename_i x hg ho
      have ih:=J6 hF (n:=n) (ops:=ops) (Q:=Q) os _ t' (a.put o.dst (a.eval x)) hm
      have e:Fy (o::os) a=Fy os (a.put o.dst (a.eval x)):=by rw [Fy,ho]
      refine ⟨fun W hq => ?_,fun β h w T => ?_⟩
      · unfold wpListIn
        rw [show Region.wanted o (yielded ops a.tmps)=true by unfold Region.wanted; rw [hg]]
        simp only [if_true]
        refine ⟨fun f _ => hF.fn f,?_⟩
        rw [Oper.semAt_eq _ _ _ (by rw [ho]; intro c hc; cases hc)]
        have hrun:(execOp a.eval o).run P W=.ok (.value (a.eval x)) W:=by unfold execOp; simp only [ho]; rfl
        rw [hrun]
        exact ih.1 W (e ▸ hq)
      · rw [e]
        exact ih.2 β h w (T.put o.dst (T.opnd x))
    · rename_i x hg ho
      have ih:=J6 hF (n:=n) (ops:=ops) (Q:=Q) os _ t' (a.put o.dst (a.eval x)) hm
      have e:Fy (o::os) a=Fy os (a.put o.dst (a.eval x)):=by rw [Fy,ho]
      refine ⟨fun W hq => ?_,fun β h w T => ?_⟩
      · unfold wpListIn
        rw [show Region.wanted o (yielded ops a.tmps)=true by unfold Region.wanted; rw [hg]]
        simp only [if_true]
        refine ⟨fun f _ => hF.fn f,?_⟩
        rw [Oper.semAt_eq _ _ _ (by rw [ho]; intro c hc; cases hc)]
        have hrun:(execOp a.eval o).run P W=.ok (.value (a.eval x)) W:=by unfold execOp; simp only [ho]; rfl
        rw [hrun]
        exact ih.1 W (e ▸ hq)
      · rw [e]
        exact ih.2 β h w (T.put o.dst (T.opnd x))
    · cases hm
def Jo:Code → Act → Act
  | .region _ ops false,a => Fy ops.toList a
  | _,a => a
theorem Qc (c:Code) (a:Act):(Jo c a).defers=a.defers:=by
  unfold Jo
  split
  · exact F9 _ _
  · rfl
theorem Ml {F:Fence} (hF:WideF F) {n:Nat} {Q:Exit → Act → World → Prop} {c:Code} {t t':List PV} {a:Act} (hm:T0 c t=some t') :
    (∀ W,Q .normal (Jo c a) W → c.wpIn F n P Q a W) ∧ (∀ (β:Pl) (h:Heap) (w:World),TInv β h w t a.tmps → TInv β h w t' (Jo c a).tmps):=by
  unfold T0 at hm
  split at hm
  · cases hm; exact ⟨fun W hq => wpIn_skip hq,fun β h w T => T⟩
  · rename_i id ops
    have:=J6 (P:=P) hF (n:=n) (ops:=ops) (Q:=Q) _ t t' a hm
    exact ⟨fun W hq => wpIn_region_list (this.1 W hq),this.2⟩
  · cases hm
def Ao1:List Tmp → List Value → Array Value → Array Value
  | p::ps,v::vs,t => Ao1 ps vs (t.setIfInBounds p v)
  | _,_,t => t
theorem O6:∀ (ps:List Tmp) (vs:List Value) (t:Array Value),(ps.zip vs).foldl (fun t (q:Tmp × Value) => t.setIfInBounds q.1 q.2) t=Ao1 ps vs t
  | [],_,t => by cases ‹List Value› <;> rfl
  | _::_,[],t => rfl
  | p::ps,v::vs,t => O6 ps vs (t.setIfInBounds p v)
theorem O5:∀ (ps:List Tmp) (es:List PV) (vs:List Value) (t:List PV) (tmps:Array Value),vs.length=es.length → (∀ j p,es[j]?=some p → Rep β h w p (vs.getD j undef)) → TInv β h w t tmps → TInv β h w (Ao0 ps es t) (Ao1 ps vs tmps)
  | [],es,vs,t,tmps,_,_,T => by cases es <;> cases vs <;> exact T
  | p::ps,[],[],t,tmps,_,_,T => T
  | p::ps,e::es,v::vs,t,tmps,hl,hr,T => by
    refine O5 ps es vs (t.set p e) (tmps.setIfInBounds p v) (by simpa using hl) (fun j q hj => by simpa using hr (j + 1) q (by simpa using hj)) ?_
    exact T.put (a:={ tmps,defers:=[] }) (some p) (by simpa using hr 0 e rfl)
  | p::ps,[],_::_,_,_,hl,_,_ => by simp at hl
  | p::ps,_::_,[],_,_,hl,_,_ => by simp at hl
theorem Bd1 (hm:P.follows .mixedOrders=true) {C:B9} (hC:Jq P C) {base:Name} :
    ∀ (c:Code) {F:Fence} (hF:WideF F) (n:Nat) (hn:Pr c=true ∨ (F.round=none ∧ 2 ≤ n)) {β0:Pl} {h0:Heap} {w0:World} (t:List PV) (h:Heap) (Q:Ex → List PV → Heap → Prop) (β:Pl) (w:World) (a:Act),HInv β h w → TInv β h w t a.tmps → DOK w0.heap.size a w → Ext β0 h0 w0 β h w →
      W P C h0 base c t h Q → c.wpIn F n P (Post w0.heap.size β0 h0 w0 Q) a w:=by
  intro c
  induction c with
  | skip => intro F hF n hn β0 h0 w0 t h Q β w a H T hd E hw; exact wpIn_skip ⟨.normal,t,h,β,rfl,hw,H,T,hd,E⟩
  | exit id => intro F hF n hn β0 h0 w0 t h Q β w a H T hd E hw; exact wpIn_exit ⟨.exit id,t,h,β,rfl,hw,H,T,hd,E⟩
  | ret => intro F hF n hn β0 h0 w0 t h Q β w a H T hd E hw; exact wpIn_ret ⟨.ret,t,h,β,rfl,hw,H,T,hd,E⟩
  | region id ops draw =>
    intro F hF n hn β0 h0 w0 t h Q β w a H T hd E hw
    unfold W at hw
    split at hw
    · rename_i hdr
      subst hdr
      obtain ⟨effs,hok,heff⟩:=hw
      exact Yk hF hm hC hok heff (R:=Q .normal) (fun t h β w a hq H T hd E => ⟨.normal,t,h,β,rfl,hq,H,T,hd,E⟩) H T hd E
    · rename_i hdr
      have:draw=false:=by simpa using hdr
      subst this
      exact wpIn_region_list (Lq hF hC (R:=Q .normal) (fun t h β w a hq H T hd E => ⟨.normal,t,h,β,rfl,hq,H,T,hd,E⟩) _ 0 t h β w a H T hd E hw)
  | seq x y ihx ihy =>
    intro F hF n hn β0 h0 w0 t h Q β w a H T hd E hw
    simp only [Pr,Bool.and_eq_true] at hn
    refine wpIn_seq (wpIn_mono (ihx hF n (hn.imp_left And.left) t h _ β w a H T hd E hw) fun e a' w' hp => ?_)
    obtain ⟨ex,t',h',β',rfl,hq,H',T',hd',E'⟩:=hp
    cases ex with
    | normal => exact ihy hF n (hn.imp_left And.right) t' h' Q β' w' a' H' T' hd' E' hq
    | exit id => exact ⟨.exit id,t',h',β',rfl,hq,H',T',hd',E'⟩
    | ret => exact ⟨.ret,t',h',β',rfl,hq,H',T',hd',E'⟩
  | cond c x y ihx ihy =>
    intro F hF n hn β0 h0 w0 t h Q β w a H T hd E hw
    unfold W at hw
    split at hw
    · rename_i b hb
      have hc:=T.opnd c
      rw [hb] at hc
      simp only [Pr,Bool.and_eq_true] at hn
      refine wpIn_cond (Cj hc) ?_
      cases b
      · exact ihy hF n (hn.imp_left And.right) t h Q β w a H T hd E (by simpa using hw)
      · exact ihx hF n (hn.imp_left And.left) t h Q β w a H T hd E (by simpa using hw)
    · exact hw.elim
  | block id b ih =>
    intro F hF n hn β0 h0 w0 t h Q β w a H T hd E hw
    refine wpIn_block (wpIn_mono (ih hF n hn t h _ β w a H T hd E hw) fun e a' w' hp => ?_)
    obtain ⟨ex,t',h',β',rfl,hq,H',T',hd',E'⟩:=hp
    cases ex with
    | normal => rw [if_neg (by simp)] at hq; exact ⟨.normal,t',h',β',rfl,hq,H',T',hd',E'⟩
    | ret => rw [if_neg (by simp)] at hq; exact ⟨.ret,t',h',β',rfl,hq,H',T',hd',E'⟩
    | exit id' =>
      show Exit.inBlock id _ (.exit id') a' w'
      unfold Exit.inBlock
      simp only
      by_cases hid:id'=id
      · rw [if_pos (by rw [hid])] at hq
        rw [if_pos hid]
        exact ⟨.normal,t',h',β',rfl,hq,H',T',hd',E'⟩
      · rw [if_neg (by simpa using hid)] at hq
        rw [if_neg hid]
        exact ⟨.exit id',t',h',β',rfl,hq,H',T',hd',E'⟩
  | loop b ih =>
    intro F hF n hn β0 h0 w0 t h Q β w a H T hd E hw
    obtain ⟨N,ks,bs,hw⟩:=hw
    refine wpIn_loop_rounds N ?_
    induction N generalizing t h β w a with
    | zero => exact hw.elim
    | succ N ihn =>
      obtain ⟨hf,hw⟩:=hw
      obtain ⟨H1,T1,E1⟩:=Jh H T E hf
      rw [roundsIn_succ]
      refine wpIn_mono (ih hF n hn _ _ _ β w a H1 T1 hd E1 hw) fun e a' w' hp => ?_
      obtain ⟨ex,t',h',β',rfl,hq,H',T',hd',E'⟩:=hp
      cases ex with
      | normal => exact ihn t' h' β' w' a' H' T' hd' E' hq
      | exit id => exact ⟨.exit id,t',h',β',rfl,hq,H',T',hd',E'⟩
      | ret => exact ⟨.ret,t',h',β',rfl,hq,H',T',hd',E'⟩
  | rangeFunc g ps assign body iha ih =>
    intro F hF n hn β0 h0 w0 t h Q β w a H T hd E hw
    obtain ⟨hnb,t',h',⟨f,caps,ks,bs,bs2,α,enc,S,N,t1,Hp,rfl,e2,e3,e4,e5,e6,e7,e8,e9,e10⟩,hq⟩:=hw
    have hro:F.round=none ∧ 2 ≤ n:=hn.resolve_left (by simp [Pr])
    obtain ⟨hro,hn2⟩:=hro
    have hn1:1 ≤ n:=by omega
    have hFw:F=Fence.wide:=by
      rcases hF with rfl|⟨l,rfl⟩
      · rfl
      · cases hro
    subst hFw
    obtain ⟨lb,hg,hlb,hls⟩:∃ lb,a.eval g=.func (.func f) #[] lb ∧ lb.size=caps.length ∧ ∀ j p,caps[j]?=some p → Rep β h w p (lb.getD j undef):=by
      have hf:=T.opnd g
      rw [e2] at hf
      generalize a.eval g=u at hf
      cases hf with|clo f cs arr hl hs => exact ⟨arr,rfl,hl,hs⟩
    obtain ⟨encs,henc,hseq⟩:=e4 β w lb H ⟨hlb,hls⟩
    obtain ⟨H1,T1,E1⟩:=Jh H T E e5
    rw [← e6] at H1 T1 E1 henc hseq
    refine wpIn_rangeFunc_ownF (a:=a) hro hn1 hg trivial (fun args w => My e3 args w) (hseq (n - 1) (by omega))
      (fun {A B C} h1 h2 blk hlt => ⟨fun hs => ((h2 blk hlt).1 hs).trans ((h1 blk hlt).1 hs),(h2 blk hlt).2.trans (h1 blk hlt).2⟩)
      (fun W l o o' hl hlo _ _ blk hlt => ⟨fun _ => World.putObj_heap_other (by omega),by unfold szW; rw [World.putObj_heap_other (by omega)]⟩)
      (RowKit.Below.refl _ _) (fun x => (henc x).1.trans (e7 x).1)
      (fun pre W => ∃ β',HInv β' (Hp pre) W ∧ Ext β (Hp []) w β' (Hp pre) W) (fun _ _ _ => False)
      ?_ (fun _ _ _ _ _ hs _ _ => hs) ⟨β,H1,Ext.refl _ _ _⟩
      (fun x => Jo assign { tmps:=(ps.zip (encs x)).foldl (fun t (p,v) => t.setIfInBounds p v) a.tmps,defers:=[] }) ?_ ?_ ?_ ?_
    · rintro s A B row ⟨β',hI,hE⟩ hg hrow
      have c:=Calm.of_grown hg hI (e8 s) hrow
      exact ⟨β',c.inv hI,c.ext (Nat.le_refl _) hE⟩
    · intro l x W K hK
      exact (Ml (P:=P) (.inr ⟨l,rfl⟩) (e7 x).2).1 W hK
    · rintro l pre x W ⟨β',hI,hE⟩ hpl
      have Tx:TInv β' (Hp pre) W (t1 x) (Jo assign { tmps:=(ps.zip (encs x)).foldl (fun t (p,v) => t.setIfInBounds p v) a.tmps,defers:=[] }).tmps:=by
        refine (Ml (P:=P) (F:=Fence.wide) (n:=0) (Q:=fun _ _ _ => True) (.inl rfl) (e7 x).2).2 β' (Hp pre) W ?_
        show TInv β' (Hp pre) W _ (Array.foldl _ _ _)
        rw [← Array.foldl_toList,Array.toList_zip]
        rw [show (fun (t:Array Value) (x:Tmp × Value) => match x with|(p,v) => t.setIfInBounds p v)=fun t q => t.setIfInBounds q.1 q.2 from rfl,O6]
        exact O5 ps.toList (enc x) (encs x).toList _ _ (by simpa using (henc x).1) (fun j p hj => by simpa using RepP.mono H1 hE ((henc x).2 j p hj)) (T1.mono H1 hE)
      have hdx:DOK W.heap.size (Jo assign { tmps:=(ps.zip (encs x)).foldl (fun t (p,v) => t.setIfInBounds p v) a.tmps,defers:=[] }) W:=by
        unfold DOK; rw [Qc]; trivial
      refine wpIn_mono (ih (F:=Fence.wide.inRound l) (.inr ⟨l,rfl⟩) (n - 1 - 1) (.inl hnb) (β0:=β') (h0:=Hp pre) (w0:=W) (t1 x) (Hp pre) _ β' W _ hI Tx hdx (Ext.refl _ _ _) (e9 pre x hpl)) fun e a' w' hp => ?_
      obtain ⟨ex,t2,h2,β2,rfl,⟨rfl,hfg,hh⟩,H2,T2,hd2,E2⟩:=hp
      obtain ⟨H3,_,E3⟩:=Jh H2 T2 E2 hfg
      rw [hh] at H3 E3
      refine ⟨⟨E3.size,fun k o hk ho => ?_⟩,fun blk hlt => ⟨fun hs => ?_,?_⟩,β2,H3,hE.trans E3⟩
      · have hs:Shut β' (Hp pre) k:=fun b y hb _ hbk => by
          obtain ⟨c,e,hc,_⟩:=hI.cells hb (e8 pre b y hb)
          rw [hbk,hk] at hc; cases hc; cases ho
        exact (E3.stab k (Array.getElem?_eq_some_iff.1 hk).1 hs).2.trans hk
      · have:=hE.stab blk hlt hs
        exact (E3.stab blk (Nat.lt_of_lt_of_le hlt hE.size) this.1).2
      · exact E3.sz blk (Nat.lt_of_lt_of_le hlt hE.size)
    · rintro D xs W hD hS ⟨β',hI,hE⟩ hdef
      rw [e10 xs hS] at hI hE
      refine ⟨.normal,Di ks t,h',β',rfl,hq,hI,T1.mono H1 hE,⟨⟨D,rfl,Nat.le_trans E.size hD,hdef,?_⟩,DOKs.mono H1 hE hd⟩,E1.trans hE⟩
      clear hdef
      have key:∀ ds:List Deferred,DOKs w0.heap.size ds w → ∀ d' ∈ ds,d' ≠ { target:=.collected D,args:=#[] }:=by
        intro ds
        induction ds with
        | nil => intro _ d' hd'; simp at hd'
        | cons d ds ihd =>
          intro hds d' hd'
          obtain ⟨⟨D',h1,_,h3,_⟩,h5⟩:=hds
          rcases List.mem_cons.1 hd' with rfl|hm'
          · rw [h1]
            intro he
            have:D'=D:=by injection he with h6 _; injection h6
            have:=(Array.getElem?_eq_some_iff.1 h3).1
            omega
          · exact ihd h5 d' hm'
      exact key _ hd
    · rintro D c pre W hD _ hf _
      exact hf.elim
  | _ => intro F hF n hn β0 h0 w0 t h Q β w a H T hd E hw; exact hw.elim
theorem Ta (H:HInv β h w) {t:List PV} {a:Act} (T:TInv β h w t a.tmps) {r:ResultVar} {p:PV} (hr:J3 P t h r=some p) :
    ∃ u,(match r with|.tmp k => (pure (a.tmps.getD k undef):Sem Value)|.cell ad ty => do loadVar ty (← asAddr (a.tmps.getD ad undef))).run P w=.ok u w ∧ Rep β h w p u:=by
  cases r with
  | tmp k => cases hr; exact ⟨_,rfl,T.opnd (.tmp k)⟩
  | cell ad ty =>
    simp only [J3] at hr
    split at hr
    · rename_i hu
      obtain ⟨d,hd⟩:=Mq hu
      obtain ⟨u,hrun,hrep⟩:=Px H hd (T.opnd (.tmp ad)) hr
      refine ⟨u,?_,hrep⟩
      have hv:=T.opnd (.tmp ad)
      simp only [St.opnd,Act.eval] at hv
      have:∃ x,a.tmps.getD ad undef=.pointer (some x):=by
        generalize t.getD ad Cr=q at hv hr
        generalize a.tmps.getD ad undef=z at hv
        cases hv with
        | ref => exact ⟨_,rfl⟩
        | iref => exact ⟨_,rfl⟩
        | _ => simp [Ap] at hr
      obtain ⟨x,hx⟩:=this
      simp only [Act.eval,hx,Instr.loadAt,Instr.sureAddr,Sem.run_bind,Sem.run_pure,Result.andThen_ok] at hrun
      simp only [hx,asAddr,Sem.run_bind,Sem.run_pure,Result.andThen_ok]
      exact hrun
    · cases hr
theorem Qp (H:HInv β h w) {t:List PV} {a:Act} (T:TInv β h w t a.tmps) {fn:Func} {p:PV} (hr:Ij P fn t h=some p):∃ u,(results fn a.tmps).run P w=.ok u w ∧ Rep β h w p u:=by
  have key:∀ (l:List ResultVar) (ps:List PV),Cv (J3 P t h) l=some ps → ∃ us:List Value,
      (l.mapM fun (r:ResultVar) => (match r with|.tmp k => (pure (a.tmps.getD k undef):Sem Value)|.cell ad ty => do loadVar ty (← asAddr (a.tmps.getD ad undef)))).run P w=.ok us w ∧ us.length=ps.length ∧ ∀ j x,ps[j]?=some x → Rep β h w x (us.getD j undef):=by
    intro l
    induction l with
    | nil => intro ps hm; cases hm; exact ⟨[],rfl,rfl,fun j x hj => by simp at hj⟩
    | cons r l ih =>
      intro ps hm
      unfold Cv at hm
      split at hm
      · rename_i y ys hy hys
        cases hm
        obtain ⟨u,hu,hru⟩:=Ta H T hy
        obtain ⟨us,hus,hl,hs⟩:=ih ys hys
        refine ⟨u::us,?_,by simp [hl],fun j x hj => ?_⟩
        · rw [List.mapM_cons,Sem.run_bind]
          have hu':=hu
          rw [hu']
          simp only [Result.andThen_ok,Sem.run_bind,hus,Sem.run_pure]
        · cases j with
          | zero => simp at hj; subst hj; simpa using hru
          | succ j => simp at hj; simpa using hs j x hj
      · cases hm
  unfold Ij at hr
  have hres:∀ us:List Value,(fn.results.toList.mapM fun (r:ResultVar) => (match r with|.tmp k => (pure (a.tmps.getD k undef):Sem Value)|.cell ad ty => do loadVar ty (← asAddr (a.tmps.getD ad undef)))).run P w=.ok us w →
      (results fn a.tmps).run P w=.ok (if h:us.toArray.size=1 then us.toArray[0] else .tuple us.toArray) w:=by
    intro us hus
    unfold results
    rw [Array.mapM_eq_mapM_toList]
    simp only [Sem.run_bind,Sem.run_map]
    have hus':=hus
    erw [hus']
    rfl
  split at hr
  · rename_i x hm
    cases hr
    obtain ⟨us,hus,hl,hs⟩:=key _ _ hm
    match us,hl with
    | [u],_ => exact ⟨u,by rw [hres _ hus]; rfl,by simpa using hs 0 _ rfl⟩
  · rename_i xs hne hm
    cases hr
    obtain ⟨us,hus,hl,hs⟩:=key _ _ hm
    refine ⟨.tuple us.toArray,?_,.tup _ _ (by simpa using hl) fun j x hj => by simpa using hs j x hj⟩
    rw [hres _ hus]
    rw [dif_neg]
    intro h1
    match us,xs,hl,h1,hne with
    | [u],[x],_,_,hne => exact hne x rfl
  · cases hr
theorem As7 {fn:Func} {args:List PV} {rargs:Array Value} (hr:Reps β h w args rargs):TInv β h w (V1 fn args) (rargs ++ Array.replicate (fn.ntmps - rargs.size) undef):=by
  unfold V1
  refine ⟨by simp [hr.1],fun j x hj => ?_⟩
  rw [List.getElem?_append] at hj
  by_cases hlt:j < args.length
  · rw [if_pos hlt] at hj
    have:=hr.2 j x hj
    have h2:(rargs ++ Array.replicate (fn.ntmps - rargs.size) undef).getD j undef=rargs.getD j undef:=by
      rw [Array.getD_eq_getD_getElem?,Array.getElem?_append_left (by rw [hr.1]; exact hlt)]
      simp
    rw [h2]; exact this
  · rw [if_neg hlt] at hj
    have hx:x=Cr:=by
      have:=List.mem_of_getElem? hj
      exact (List.mem_replicate.1 this).2
    subst hx
    have h2:(rargs ++ Array.replicate (fn.ntmps - rargs.size) undef).getD j undef=undef:=by
      rw [Array.getD_eq_getD_getElem?,Array.getElem?_append_right (by rw [hr.1]; omega)]
      simp only [Array.getElem?_replicate]
      split <;> rfl
    rw [h2]; exact Gw
theorem Z5 {n m:Nat} {fn:Func} {tmps:Array Value} {R:Ending → World → Prop}:∀ (ds:List Deferred) (w:World),DOKs m ds w → (∀ (β:Pl) (h:Heap),HInv β h w → HInv β h w) →
    (∀ w',(∀ (β:Pl) (h:Heap),HInv β h w → Calm β h m w w') → ∃ v,(results fn tmps).run P w'=.ok v w' ∧ R (.returned v) w') → LeavesInM Fence.wide n P fn tmps R ds .returning w
  | [],w,_,_,hr => by
    obtain ⟨v,h1,h2⟩:=hr w fun β h H => ⟨rfl,rfl,rfl,Nat.le_refl _,fun k _ => .inl rfl⟩
    exact ⟨v,h1,h2⟩
  | d::ds,w,hd,_,hr => by
    obtain ⟨⟨D,h1,h2,h3,h4⟩,h5⟩:=hd
    refine ⟨by simp,.inl ⟨D,_,by rw [h1],run_takeDeferred h3,?_⟩⟩
    have hput:∀ k,k ≠ D → (w.putObj D (.deferred none)).heap[k]?=w.heap[k]?:=fun k hk => World.putObj_heap_other hk
    have hds:∀ ds':List Deferred,DOKs m ds' w → (∀ d' ∈ ds',d' ≠ d) → DOKs m ds' (w.putObj D (.deferred none)):=by
      intro ds'
      induction ds' with
      | nil => intro _ _; trivial
      | cons e es ihe =>
        intro he hne
        obtain ⟨⟨D',g1,g2,g3,g4⟩,g5⟩:=he
        refine ⟨⟨D',g1,g2,(hput D' fun hDD => ?_).trans g3,g4⟩,ihe g5 fun d' hd' => hne d' (List.mem_cons_of_mem _ hd')⟩
        exact hne e (by simp) (by rw [g1,h1,hDD])
    refine Z5 ds _ (hds ds h5 h4) (fun _ _ H => H) fun w' hw' => hr w' fun β h H => ?_
    have hno:=H.shut_of h3 rfl (fun _ _ => by simp)
    have c1:Calm β h m w (w.putObj D (.deferred none)):=⟨rfl,rfl,rfl,by simp,fun k hk => by
      by_cases hkD:k=D
      · subst hkD
        exact .inr ⟨h2,fun c e f hc => (by rw [h3] at hc; cases hc),hno⟩
      · exact .inl (hput k hkD)⟩
    have c2:=hw' β h (c1.inv H)
    refine ⟨c2.os.trans c1.os,c2.tape.trans c1.tape,c2.output.trans c1.output,Nat.le_trans c1.size c2.size,fun k hk => ?_⟩
    by_cases hkD:k=D
    · subst hkD
      exact .inr ⟨h2,fun c e f hc => (by rw [h3] at hc; cases hc),hno⟩
    · rcases c2.at_ k (Nat.lt_of_lt_of_le hk c1.size) with g1|⟨g1,g2,g3⟩
      · exact .inl (g1.trans (hput k hkD))
      · exact .inr ⟨g1,fun c e f => by rw [← hput k hkD]; exact g2 c e f,g3⟩
theorem Km (hm:P.follows .mixedOrders=true):Jq P (CallR P):=by
  intro base f args h v h' hc
  refine hc (fun base f args h v h' => ∀ (β:Pl) (w:World) (rargs:Array Value),HInv β h w → Reps β h w args rargs →
    Calls P f rargs w fun e w' => ∃ rv β',e=.returned rv ∧ HInv β' h' w' ∧ Rep β' h' w' v rv ∧ Ext β h w β' h' w') ?_ (fun _ _ _ _ _ _ hs => hs)
  intro base f fn c args h v h' hf hb hbody β w rargs H hr
  refine callsIn_wide.1 (callsIn_of_wp_marks (n:=2) hf hb trivial ?_)
  refine wpIn_mono (Bd1 hm (C:=fun base f args h v h' => ∀ (β:Pl) (w:World) (rargs:Array Value),HInv β h w → Reps β h w args rargs →
    Calls P f rargs w fun e w' => ∃ rv β',e=.returned rv ∧ HInv β' h' w' ∧ Rep β' h' w' v rv ∧ Ext β h w β' h' w') (fun base f args h v h' hh => hh) c (F:=Fence.wide) (.inl rfl) 2 (.inr ⟨rfl,Nat.le_refl _⟩) _ h _ β w _ H (As7 hr) trivial (Ext.refl _ _ _) hbody) fun e a' w' hp => ?_
  obtain ⟨ex,t',hh,β',rfl,⟨hex,hres,rfl⟩,H',T',hd',E'⟩:=hp
  have key:LeavesInM Fence.wide 2 P fn a'.tmps (fun e w' => ∃ rv β',e=.returned rv ∧ HInv β' hh w' ∧ Rep β' hh w' v rv ∧ Ext β h w β' hh w') a'.defers .returning w':=by
    refine Z5 a'.defers w' hd' (fun _ _ H => H) fun w2 hw2 => ?_
    have c:=hw2 β' hh H'
    obtain ⟨u,hrun,hrep⟩:=Qp (c.inv H') (c.tinv H' T') hres
    exact ⟨u,hrun,u,β',rfl,c.inv H',hrep,c.ext (Nat.le_refl _) E'⟩
  rcases hex with rfl|rfl
  · exact key
  · exact key
end Go.Proofs.Ythnfphgjfpcpbaa.TM
