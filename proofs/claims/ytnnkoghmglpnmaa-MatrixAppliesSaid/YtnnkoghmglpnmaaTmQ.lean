/- TM and the model: a region whose order the model draws. Conditions: none; lemmas. -/
import Derived.Test.YtnnkoghmglpnmaaTmP
namespace Go.Proofs.Ytnnkoghmglpnmaa.TM
open Go
set_option linter.unusedVariables false
set_option linter.defProp false
set_option linter.unusedSimpArgs false

variable {P : Program} {β : Pl} {h : Heap} {w : World}

/-- i comes before j, whatever the order. -/
def Anc (ops : List Oper) (i j : Nat) : Prop :=
  ∀ S : Nat → Prop, (∀ k o, S k → ops[k]? = some o → ∀ d ∈ dirs o, S d) → (∀ o, ops[j]? = some o → ∀ d ∈ dirs o, S d) → S i

theorem foldl_bits (acc : List Nat) (i : Nat) : ∀ (ds : List Nat) (s : Nat), (ds.foldl (fun s d => s ||| 2 ^ d ||| acc.getD d 0) s).testBit i = true → s.testBit i = true ∨ ∃ d ∈ ds, d = i ∨ (acc.getD d 0).testBit i = true
  | [], s, h => .inl h
  | d :: ds, s, h => by
    rcases foldl_bits acc i ds _ h with h1 | ⟨d', hd', h1⟩
    · rw [Nat.testBit_or, Nat.testBit_or] at h1
      simp only [Bool.or_eq_true] at h1
      rcases h1 with (h1 | h1) | h1
      · exact .inl h1
      · refine .inr ⟨d, by simp, .inl ?_⟩
        rw [Nat.testBit_two_pow] at h1
        simpa using h1
      · exact .inr ⟨d, by simp, .inr h1⟩
    · exact .inr ⟨d', by simp [hd'], h1⟩

theorem beforeL_spec (all : List Oper) : ∀ (os : List Oper) (acc : List Nat), all.drop acc.length = os → (∀ j i, ((acc.getD j 0).testBit i) = true → Anc all i j) →
    ∀ j i, (((beforeL os acc).getD j 0).testBit i) = true → Anc all i j
  | [], acc, _, ha, j, i, hb => ha j i hb
  | o :: os, acc, hd, ha, j, i, hb => by
    refine beforeL_spec all os (acc ++ [(dirs o).foldl (fun s d => s ||| 2 ^ d ||| acc.getD d 0) 0]) ?_ ?_ j i hb
    · simp only [List.length_append, List.length_cons, List.length_nil]
      rw [← List.drop_drop, hd]; rfl
    · intro j i hb
      rw [List.getD_eq_getElem?_getD, List.getElem?_append] at hb
      split at hb
      · exact ha j i (by rw [List.getD_eq_getElem?_getD]; exact hb)
      · rename_i hj
        by_cases hj0 : j - acc.length = 0
        · have hje : j = acc.length := by omega
          subst hje
          simp only [Nat.sub_self, List.getElem?_cons_zero, Option.getD_some] at hb
          have ho : all[acc.length]? = some o := by
            have := congrArg (·[0]?) hd
            simpa using this
          rcases foldl_bits acc i _ _ hb with h1 | ⟨d, hdm, h1⟩
          · simp at h1
          · intro S hS hj
            have hSd := hj o ho d hdm
            rcases h1 with h1 | h1
            · rw [← h1]; exact hSd
            · exact ha d i h1 S hS fun o' ho' => hS d o' hSd ho'
        · rw [List.getElem?_eq_none (by simp; omega)] at hb
          simp at hb

theorem mem_dirs {o : Oper} {e : Edge} (he : e ∈ o.after) (hb : Region.binds .any e = true) : e.on ∈ dirs o :=
  List.mem_map.2 ⟨e, List.mem_filter.2 ⟨by simpa using he, hb⟩, rfl⟩
theorem dirs_mem {o : Oper} {d : Nat} (hd : d ∈ dirs o) : ∃ e ∈ o.after, Region.binds .any e = true ∧ e.on = d := by
  obtain ⟨e, he, rfl⟩ := List.mem_map.1 hd
  obtain ⟨h1, h2⟩ := List.mem_filter.1 he
  exact ⟨e, by simpa using h1, h2, rfl⟩

theorem key_ne {b c : Name} (h : (keyN b == keyN c) = false) : b ≠ c := fun e => by subst e; simp at h

/-- The check, as it is used. -/
structure DrawOK (ops : Array Oper) (effs : List Eff) : Prop where
  fwd : ∀ j o, ops.toList[j]? = some o → ∀ d ∈ dirs o, d < j
  pair : ∀ i j oi ei oj ej, i < j → (ops.toList.zip effs)[i]? = some (oi, ei) → (ops.toList.zip effs)[j]? = some (oj, ej) → Anc ops.toList i j ∨ apartE ops oi ei oj ej = true
theorem DrawOK.of {ops : Array Oper} {effs : List Eff} (h : drawOK ops effs = true) : DrawOK ops effs := by
  unfold drawOK at h
  rw [Bool.and_eq_true] at h
  obtain ⟨h1, h2⟩ := h
  refine ⟨fun j o ho d hd => ?_, fun i j oi ei oj ej hij hi hj => ?_⟩
  · have hm : (o, j) ∈ ops.toList.zipIdx := List.mem_zipIdx_iff_getElem?.2 ho
    have := List.all_eq_true.1 (List.all_eq_true.1 h1 _ hm) d hd
    simpa using this
  · have hm : ((oj, ej), j) ∈ (ops.toList.zip effs).zipIdx := List.mem_zipIdx_iff_getElem?.2 hj
    have h3 := List.all_eq_true.1 h2 _ hm
    have hm2 : ((oi, ei), i) ∈ ((ops.toList.zip effs).take j).zipIdx := List.mem_zipIdx_iff_getElem?.2 (by simp only; rw [List.getElem?_take, if_pos hij]; exact hi)
    have h4 := List.all_eq_true.1 h3 _ hm2
    rcases Bool.or_eq_true_iff.1 h4 with h4 | h4
    · exact .inl (beforeL_spec ops.toList ops.toList [] rfl (fun j i hb => by simp at hb) j i h4)
    · exact .inr h4

theorem apartE_spec {ops : Array Oper} {oi oj : Oper} {ei ej : Eff} (h : apartE ops oi ei oj ej = true) :
    oi.apart ops oj = true ∧ (∀ u ∈ ei.ups, (∀ b ∈ ej.touch, b ≠ u.1) ∧ ∀ v ∈ ej.ups, v.1 ≠ u.1) ∧ ∀ u ∈ ej.ups, ∀ b ∈ ei.touch, b ≠ u.1 := by
  unfold apartE at h
  rw [Bool.and_eq_true, Bool.and_eq_true] at h
  obtain ⟨⟨h1, h2⟩, h3⟩ := h
  refine ⟨h1, fun u hu => ?_, fun u hu b hb => ?_⟩
  · have := List.all_eq_true.1 h2 u hu
    rw [Bool.and_eq_true] at this
    refine ⟨fun b hb => key_ne ?_, fun v hv => key_ne ?_⟩
    · have h4 := this.1
      rw [Bool.not_eq_true', List.any_eq_false] at h4
      simpa using h4 b hb
    · have h4 := this.2
      rw [Bool.not_eq_true', List.any_eq_false] at h4
      simpa using h4 v hv
  · have := List.all_eq_true.1 h3 u hu
    rw [Bool.not_eq_true', List.any_eq_false] at this
    exact key_ne (by simpa using this b hb)

/-- The effects one by one. -/
theorem Effs_at {C : CallRel} {base : Name} {id : Nat} {ops : Array Oper} : ∀ (os : List Oper) (es : List Eff) (i : Nat) (t : List PV) (h : Heap) (Q : List PV → Heap → Prop), Effs P C base id ops i os es t h Q →
    os.length = es.length ∧ (∀ k o e, (os.zip es)[k]? = some (o, e) → EffR P C base id ops (i + k) (applyS (fun x => decide (x < i + k)) i (os.zip es) (t, h)).1 (applyS (fun x => decide (x < i + k)) i (os.zip es) (t, h)).2 o e) ∧
    Q (applyS (fun _ => true) i (os.zip es) (t, h)).1 (applyS (fun _ => true) i (os.zip es) (t, h)).2
  | [], [], i, t, h, Q, he => ⟨rfl, fun k o e hk => by simp at hk, he⟩
  | o :: os, e :: es, i, t, h, Q, he => by
    obtain ⟨h1, h2⟩ := he
    obtain ⟨hl, hk, hq⟩ := Effs_at os es (i + 1) _ _ Q h2
    refine ⟨by simp [hl], fun k o' e' hke => ?_, hq⟩
    cases k with
    | zero =>
      simp only [List.zip_cons_cons, List.getElem?_cons_zero, Option.some.injEq, Prod.mk.injEq] at hke
      obtain ⟨rfl, rfl⟩ := hke
      have hid : ∀ (r : List (Oper × Eff)) (a : Nat) (s : List PV × Heap), i ≤ a → applyS (fun x => decide (x < i)) a r s = s := by
        intro r
        induction r with
        | nil => intro a s _; rfl
        | cons q r ih => intro a s ha; simp only [applyS]; rw [if_neg (by simpa using ha)]; exact ih (a + 1) s (by omega)
      have := hid ((o, e) :: os.zip es) i (t, h) (Nat.le_refl _)
      simp only [Nat.add_zero, List.zip_cons_cons]
      rw [this]
      exact h1
    | succ k =>
      simp only [List.zip_cons_cons, List.getElem?_cons_succ] at hke
      have := hk k o' e' hke
      simp only [List.zip_cons_cons, applyS]
      rw [if_pos (by simp), show i + (k + 1) = i + 1 + k by omega]
      exact this
  | [], _ :: _, _, _, _, _, he => he.elim
  | _ :: _, [], _, _, _, _, he => he.elim

theorem countP_set (n : Nat) (l : Array Bool) (i : Nat) (hi : i < n) (hs : l.size = n) (h0 : l.getD i false = false) :
    ((List.range n).filter fun k => !(l.setIfInBounds i true).getD k false).length < ((List.range n).filter fun k => !l.getD k false).length := by
  have key : ∀ r : List Nat, r.Nodup → (r.filter fun k => !(l.setIfInBounds i true).getD k false).length + (if i ∈ r then 1 else 0) = (r.filter fun k => !l.getD k false).length := by
    intro r
    induction r with
    | nil => intro _; rfl
    | cons k r ih =>
      intro hn
      have hn' := List.nodup_cons.1 hn
      have ih' := ih hn'.2
      by_cases hk : k = i
      · subst hk
        have h1 : (l.setIfInBounds k true).getD k false = true := by simp [hs, hi]
        simp only [List.filter_cons, h1, h0, Bool.not_true, Bool.not_false, Bool.false_eq_true, if_false, if_true, List.length_cons, List.mem_cons, true_or]
        rw [if_neg hn'.1] at ih'
        omega
      · have h1 : (l.setIfInBounds i true).getD k false = l.getD k false := getD_set_ne false (Ne.symm hk)
        simp only [List.filter_cons, h1, List.mem_cons, Ne.symm hk, false_or]
        split <;> (try simp only [List.length_cons]) <;> omega
  have := key (List.range n) List.nodup_range
  rw [if_pos (List.mem_range.2 hi)] at this
  omega

theorem draw_sound (hm : P.follows .mixedOrders = true) {C : CallRel} (hC : CSound P C) {base : Name} {id : Nat} {ops : Array Oper} {effs : List Eff} {t : List PV} {h : Heap} {R : List PV → Heap → Prop}
    (hok : drawOK ops effs = true) (he : Effs P C base id ops 0 ops.toList effs t h R) {β0 : Pl} {h0 : Heap} {w0 : World} {Q : Exit → Act → World → Prop}
    (hQ : ∀ t h β w a, R t h → HInv β h w → TInv β h w t a.tmps → a.defers = [] → Ext β0 h0 w0 β h w → Q .normal a w)
    {w : World} {a : Act} (H : HInv β h w) (T : TInv β h w t a.tmps) (hd : a.defers = []) (E : Ext β0 h0 w0 β h w) : (Code.region id ops true).wp P Q a w := by
  have D := DrawOK.of hok
  obtain ⟨hlen, hat, hall⟩ := Effs_at _ _ _ _ _ _ he
  generalize hr : ops.toList.zip effs = r at hat hall
  have hrl : r.length = ops.size := by rw [← hr, List.length_zip, ← hlen]; simp
  have hrget : ∀ (k : Nat) (q : Oper × Eff), r[k]? = some q → ops.toList[k]? = some q.1 := fun k q hk => by
    rw [← hr, List.getElem?_zip_eq_some] at hk
    exact hk.1
  have hpair := D.pair
  rw [hr] at hpair
  refine wp_region_any hm ?_
  have key : ∀ (fuel : Nat) (listed : Array Bool) (β : Pl) (w : World) (a : Act), listed.size = ops.size →
      ((List.range ops.size).filter fun k => !listed.getD k false).length ≤ fuel →
      (∀ k o, listed.getD k false = true → ops.toList[k]? = some o → ∀ d ∈ dirs o, listed.getD d false = true) →
      HInv β (applyS (fun k => listed.getD k false) 0 r (t, h)).2 w → TInv β (applyS (fun k => listed.getD k false) 0 r (t, h)).2 w (applyS (fun k => listed.getD k false) 0 r (t, h)).1 a.tmps →
      a.defers = [] → Ext β0 h0 w0 β (applyS (fun k => listed.getD k false) 0 r (t, h)).2 w → wpAny P .any ops Q fuel listed a w := by
    intro fuel
    induction fuel with
    | zero =>
      intro listed β w a hs hc hdown H T hd E
      have hall' : ∀ k, k < ops.size → listed.getD k false = true := fun k hk => by
        have hnil : ((List.range ops.size).filter fun k => !listed.getD k false) = [] := List.eq_nil_of_length_eq_zero (Nat.le_zero.1 hc)
        have := List.filter_eq_nil_iff.1 hnil k (List.mem_range.2 hk)
        simpa using this
      have hst : applyS (fun k => listed.getD k false) 0 r (t, h) = applyS (fun _ => true) 0 r (t, h) := applyS_congr r 0 _ fun k hk => by simp only [Nat.zero_add]; exact hall' k (by omega)
      refine ⟨?_, hQ _ _ β w a hall (hst ▸ H) (hst ▸ T) hd (hst ▸ E)⟩
      rw [List.eq_nil_iff_forall_not_mem]
      intro j hj
      obtain ⟨h1, o, ho, _⟩ := mem_ready.1 hj
      have hlt : j < ops.size := (Array.getElem?_eq_some_iff.1 ho).1
      have h2 := hall' j hlt
      have : listed.getD j true = listed.getD j false := by simp [hs, hlt]
      rw [this, h2] at h1; cases h1
    | succ fuel ih =>
      intro listed β w a hs hc hdown H T hd E
      refine ⟨fun hnil => ?_, fun j hj => ?_⟩
      · -- all are done
        have hall' : ∀ k, k < ops.size → listed.getD k false = true := by
          intro k
          induction k using Nat.strongRecOn with
          | _ k ihk =>
            intro hk
            cases hb : listed.getD k false with
            | true => rfl
            | false =>
              exfalso
              have ho : ops[k]? = some ops[k] := Array.getElem?_eq_getElem hk
              have hbt : listed.getD k true = false := by
                have : listed.getD k true = listed.getD k false := by simp [hs, hk]
                rw [this, hb]
              have : k ∈ Region.ready .any ops listed := mem_ready.2 ⟨hbt, ops[k], ho, fun e hee hbe => by
                have hlt := D.fwd k ops[k] (by simp) e.on (mem_dirs hee hbe)
                exact ihk e.on hlt (by omega)⟩
              rw [hnil] at this; cases this
        have hst : applyS (fun k => listed.getD k false) 0 r (t, h) = applyS (fun _ => true) 0 r (t, h) := applyS_congr r 0 _ fun k hk => by simp only [Nat.zero_add]; exact hall' k (by omega)
        exact hQ _ _ β w a hall (hst ▸ H) (hst ▸ T) hd (hst ▸ E)
      · obtain ⟨h1, o, ho, hafter⟩ := mem_ready.1 hj
        have hlt : j < ops.size := (Array.getElem?_eq_some_iff.1 ho).1
        have h2 : listed.getD j false = false := by have : listed.getD j true = listed.getD j false := by simp [hs, hlt]
                                                    rw [← this]; exact h1
        obtain ⟨⟨o', e⟩, hje⟩ : ∃ q, r[j]? = some q := ⟨_, List.getElem?_eq_getElem (by omega)⟩
        have hoo : o' = o := by
          have := hrget j _ hje
          simp only [Array.getElem?_toList] at this
          rw [ho] at this; cases this; rfl
        subst hoo
        have hdirs : ∀ d ∈ dirs o', listed.getD d false = true := fun d hdm => by
          obtain ⟨ed, he1, he2, rfl⟩ := dirs_mem hdm
          exact hafter ed he1 he2
        have hanc : ∀ i, Anc ops.toList i j → listed.getD i false = true := fun i ha => ha (fun k => listed.getD k false = true) hdown fun o2 ho2 d hd2 => by
          simp only [Array.getElem?_toList] at ho2
          rw [ho] at ho2; cases ho2
          exact hdirs d hd2
        have hanc2 : ∀ i, i < ops.size → listed.getD i false = true → ¬ Anc ops.toList j i := fun i hi hli ha => by
          have := ha (fun k => listed.getD k false = true) hdown fun o2 ho2 d hd2 => hdown i o2 hli ho2 d hd2
          rw [h2] at this; cases this
        -- where a place that the operation looks at is written, the order is fixed
        have hmask : ∀ (k : Nat) (q : Oper × Eff), r[k]? = some q → k ≠ j → (k < j → apartE ops q.1 q.2 o' e = false) → (j < k → apartE ops o' e q.1 q.2 = false) → listed.getD k false = decide (k < j) := fun k q hk hkj ha hb => by
          rcases Nat.lt_or_gt_of_ne hkj with hlt' | hgt
          · rcases hpair k j q.1 q.2 o' e hlt' hk hje with h3 | h3
            · rw [hanc k h3]; simp [hlt']
            · rw [ha hlt'] at h3; cases h3
          · rcases hpair j k o' e q.1 q.2 hgt hje hk with h3 | h3
            · have hks : k < ops.size := by have := (List.getElem?_eq_some_iff.1 hk).1; omega
              have : listed.getD k false ≠ true := fun hh => hanc2 k hks hh h3
              rw [Bool.eq_false_iff.2 this]; simp; omega
            · rw [hb hgt] at h3; cases h3
        have heff := hat j o' e hje
        simp only [Nat.zero_add] at heff
        have hagT : ∀ x ∈ o'.looksAt ops, (applyS (fun x => decide (x < j)) 0 r (t, h)).1[x]? = (applyS (fun k => listed.getD k false) 0 r (t, h)).1[x]? := fun x hx => by
          refine agreeT r 0 _ _ rfl rfl fun k q hk hdst => ?_
          simp only [Nat.zero_add]
          by_cases hkj : k = j
          · subst hkj; rw [h2]; simp
          · rw [hmask k q hk hkj (fun _ => ?_) (fun _ => ?_)]
            · cases hap : apartE ops q.1 q.2 o' e with
              | false => rfl
              | true => exact absurd hx ((Oper.apart_spec (apartE_spec hap).1).1 x hdst)
            · cases hap : apartE ops o' e q.1 q.2 with
              | false => rfl
              | true => exact absurd hx ((Oper.apart_spec (apartE_spec hap).1).2.2 x hdst)
        have hagH : ∀ b ∈ e.touch, (applyS (fun x => decide (x < j)) 0 r (t, h)).2 b = (applyS (fun k => listed.getD k false) 0 r (t, h)).2 b := fun b hb => by
          refine agreeH r 0 _ _ rfl fun k q hk hu => ?_
          simp only [Nat.zero_add]
          obtain ⟨u, hu, hub⟩ := hu
          by_cases hkj : k = j
          · subst hkj; rw [h2]; simp
          · rw [hmask k q hk hkj (fun _ => ?_) (fun _ => ?_)]
            · cases hap : apartE ops q.1 q.2 o' e with
              | false => rfl
              | true => exact absurd hub.symm (((apartE_spec hap).2.1 u hu).1 b hb)
            · cases hap : apartE ops o' e q.1 q.2 with
              | false => rfl
              | true => exact absurd hub.symm ((apartE_spec hap).2.2 u hu b hb)
        -- the state behind it
        have hst : applyS (fun k => (listed.setIfInBounds j true).getD k false) 0 r (t, h) = apply1 o' e (applyS (fun k => listed.getD k false) 0 r (t, h)) := by
          refine insert1 (j := j) r 0 _ (Nat.zero_le _) (by simpa using hje) h2 (by simp [hs, hlt]) (fun k hk => getD_set_ne false (Ne.symm hk)) fun k q hk hjk hmk => ?_
          simp only [Nat.zero_add] at hjk hmk
          have hks : k < ops.size := by have := (List.getElem?_eq_some_iff.1 hk).1; omega
          rcases hpair j k o' e q.1 q.2 hjk hje hk with h3 | h3
          · exact absurd h3 (hanc2 k hks hmk)
          · obtain ⟨a1, a2, _⟩ := apartE_spec h3
            exact ⟨(Oper.apart_spec a1).2.1, fun u hu v hv => ((a2 u hu).2 v hv).symm⟩
        have hnext : ∀ (β' : Pl) (w' : World) (u : Value), HInv β' ((applyS (fun k => listed.getD k false) 0 r (t, h)).2.ups e.ups) w' →
            Ext β (applyS (fun k => listed.getD k false) 0 r (t, h)).2 w β' ((applyS (fun k => listed.getD k false) 0 r (t, h)).2.ups e.ups) w' → Rep β' ((applyS (fun k => listed.getD k false) 0 r (t, h)).2.ups e.ups) w' e.val u →
            wpAny P .any ops Q fuel (listed.setIfInBounds j true) (a.put o'.dst u) w' := fun β' w' u H' E' hru => by
          refine ih (listed.setIfInBounds j true) β' w' _ (by simpa using hs) (by have := countP_set ops.size listed j hlt hs h2; omega) (fun k o2 hk ho2 d hdm => ?_) (by rw [hst]; exact H') (by rw [hst]; exact (T.mono H E').put o'.dst hru) (put_defers hd _ _) (by rw [hst]; exact E.trans E')
          by_cases hkj : k = j
          · subst hkj
            simp only [Array.getElem?_toList] at ho2
            rw [ho] at ho2; cases ho2
            exact getD_set_true (hdirs d hdm)
          · rw [getD_set_ne false (Ne.symm hkj)] at hk
            exact getD_set_true (hdown k o2 hk ho2 d hdm)
        unfold wpOp
        simp only [ho]
        unfold EffR at heff
        rw [guard_congr hagT] at heff
        split at heff
        · exact heff.elim
        · rename_i hg
          rw [guard_real T hg]
          simp only [Bool.false_eq_true, if_false]
          subst heff
          exact hnext β w undef H (Ext.refl _ _ _) undef_rep
        · rename_i hg
          rw [guard_real T hg]
          simp only [if_true]
          exact .inl (step_sound hC H T hd (heff.congr hagT hagH).stepR fun β' w' u H' E' hru => hnext β' w' u H' E' hru)
  have hst0 : applyS (fun k => (Array.replicate ops.size false).getD k false) 0 r (t, h) = (t, h) := by
    have : ∀ (r : List (Oper × Eff)) (i : Nat) (s : List PV × Heap), applyS (fun k => (Array.replicate ops.size false).getD k false) i r s = s := by
      intro r
      induction r with
      | nil => intro i s; rfl
      | cons q r ih =>
        intro i s
        simp only [applyS]
        rw [if_neg, ih]
        simp only [Array.getD_eq_getD_getElem?, Array.getElem?_replicate]
        split <;> simp
    exact this r 0 _
  refine key ops.size (Array.replicate ops.size false) β _ a (by simp) (by
    refine Nat.le_trans (List.length_filter_le _ _) ?_
    simp) (fun k o hk => ?_) (by rw [hst0]; exact H.drew) (by rw [hst0]; exact T.mono H (Ext.drew β h w)) hd (by rw [hst0]; exact E.trans (Ext.drew β h w))
  simp only [Array.getD_eq_getD_getElem?, Array.getElem?_replicate] at hk
  split at hk <;> simp at hk
end Go.Proofs.Ytnnkoghmglpnmaa.TM
