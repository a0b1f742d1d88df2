/- TM: the drawn order of a region comes to the text's order. Conditions: none; definitions and lemmas. -/
import Derived.Test.YtnnkoghmglpnmaaTmO
namespace Go.Proofs.Ytnnkoghmglpnmaa.TM
open Go
set_option linter.unusedVariables false
set_option linter.defProp false
set_option linter.unusedSimpArgs false

/-! ### local calls -/
section
variable {P : Program} {h h' : Heap}
theorem lowerC_local {p : PV} (hx : ∀ b ∈ boxesC p, h b = h' b) : lowerC h p = lowerC h' p := by
  unfold lowerC
  split
  · rfl
  · rfl
  · rfl
  · rw [hx _ (by simp [boxesC])]
  · rfl
theorem mapO_congr {α γ : Type} {f g : α → Option γ} : ∀ {l : List α}, (∀ x ∈ l, f x = g x) → mapO f l = mapO g l
  | [], _ => rfl
  | x :: l, hx => by
    simp only [mapO]
    rw [hx x (by simp), mapO_congr fun y hy => hx y (by simp [hy])]
theorem lowerA_local {p : PV} (hx : ∀ b ∈ boxesA p, h b = h' b) : lowerA h p = lowerA h' p := by
  cases p with
  | agg cs => simp only [lowerA]; rw [mapO_congr fun x hm => lowerC_local fun b hb => hx b (List.mem_flatMap.2 ⟨x, hm, hb⟩)]
  | view b off z n top => exact lowerC_local (p := .view b off z n top) hx
  | i x => exact lowerC_local (p := .i x) hx
  | _ => rfl
theorem freezeOf_local : ∀ {bs : List Name}, (∀ b ∈ bs, h b = h' b) → freezeOf h bs = freezeOf h' bs
  | [], _ => rfl
  | b :: bs, hx => by
    have ih := freezeOf_local (bs := bs) fun c hc => hx c (by simp [hc])
    unfold freezeOf at ih ⊢
    simp only [List.filterMap_cons, hx b (by simp), ih]
theorem pure_local {C : CallRel} {s : Name} {g : FuncId} {args : List PV} {v : PV} {us : List (Name × Box)} (hx : ∀ b ∈ args.flatMap boxesA, h b = h' b) (hp : PureCall C s g args h v us) : PureCall C s g args h' v us := by
  obtain ⟨largs, u, hu, h1, h2, h3, h4⟩ := hp
  refine ⟨largs, u, hu, ?_, h2, h3, ?_⟩
  · rw [← h1]; exact (mapO_congr fun x hm => lowerA_local fun b hb => hx b (List.mem_flatMap.2 ⟨x, hm, hb⟩)).symm
  · rw [h4, freezeOf_local hx]
end

theorem opnd_congr {t t' : List PV} {x : Operand} (hx : ∀ k, x = .tmp k → t[k]? = t'[k]?) : St.opnd t x = St.opnd t' x := by
  cases x with
  | tmp k => simp only [St.opnd]; rw [List.getD_eq_getElem?_getD, List.getD_eq_getElem?_getD, hx k rfl]
  | _ => rfl
theorem opnds_congr {ops : Array Oper} {o : Oper} {t t' : List PV} (ht : ∀ k ∈ o.looksAt ops, t[k]? = t'[k]?) : ∀ x ∈ o.op.operands.toList, St.opnd t x = St.opnd t' x := by
  intro x hx
  refine opnd_congr fun k hk => ht k ?_
  subst hk
  exact List.mem_append_left _ (List.mem_filterMap.2 ⟨.tmp k, hx, rfl⟩)
theorem stepOp_congr {P : Program} {h : Heap} {s : Name} {ρ ρ' : Operand → PV} {op : Op} (hr : ∀ x ∈ op.operands.toList, ρ x = ρ' x) : stepOp P h s ρ op = stepOp P h s ρ' op := by
  have pairs : ∀ ps : Array (Nat × Operand), (∀ x ∈ ps.toList.map (·.2), ρ x = ρ' x) → (ps.toList.map fun p => (p.1, ρ p.2)) = (ps.toList.map fun p => (p.1, ρ' p.2)) := fun ps hp =>
    List.map_congr_left fun p hm => by rw [hp p.2 (List.mem_map.2 ⟨p, hm, rfl⟩)]
  unfold stepOp
  cases op with
  | move x => simp only [hr x (by simp [Op.operands])]
  | assign x => simp only [hr x (by simp [Op.operands])]
  | pick c a b => simp only [hr c (by simp [Op.operands]), hr a (by simp [Op.operands]), hr b (by simp [Op.operands])]
  | box t x => simp only [hr x (by simp [Op.operands])]
  | build t ps => simp only [pairs ps fun x hx => hr x (by simpa [Op.operands] using hx)]
  | buildSlice t n ps => simp only [pairs ps fun x hx => hr x (by simpa [Op.operands] using hx)]
  | load t a => simp only [hr a (by simp [Op.operands])]
  | store t a x => simp only [hr a (by simp [Op.operands]), hr x (by simp [Op.operands])]
  | nilCheck x => simp only [hr x (by simp [Op.operands])]
  | binOp op t x y ty => simp only [hr x (by simp [Op.operands]), hr y (by simp [Op.operands])]
  | unOp op t x => simp only [hr x (by simp [Op.operands])]
  | convert a b x => simp only [hr x (by simp [Op.operands])]
  | makeFunc fn first caps =>
    cases fn with
    | func f =>
      have : caps.toList.map ρ = caps.toList.map ρ' := List.map_congr_left fun x hx => hr x (by simp [Op.operands]; exact .inr (by simpa using hx))
      simp only [this]
    | _ => rfl
  | makeSlice t l c => simp only [hr l (by simp [Op.operands]), hr c (by simp [Op.operands])]
  | slice t x lo hi mx => cases lo <;> cases hi <;> cases mx <;> simp_all [Op.operands]
  | fieldAddr t x f => simp only [hr x (by simp [Op.operands])]
  | field t x f => simp only [hr x (by simp [Op.operands])]
  | indexAddr t x ix => simp only [hr x (by simp [Op.operands]), hr ix (by simp [Op.operands])]
  | index t x ix => simp only [hr x (by simp [Op.operands]), hr ix (by simp [Op.operands])]
  | extract x ix => simp only [hr x (by simp [Op.operands])]
  | call c =>
    obtain ⟨callee, args, ts⟩ := c
    cases callee with
    | builtin b =>
      have : args.toList.map ρ = args.toList.map ρ' := List.map_congr_left fun x hx => hr x (by simpa [Op.operands, Call.operands] using hx)
      simp only [this]
    | _ => rfl
  | _ => rfl

theorem LocalR.congr {P : Program} {C : CallRel} {s : Name} {ops : Array Oper} {o : Oper} {t t' : List PV} {h h' : Heap} {e : Eff} (ht : ∀ k ∈ o.looksAt ops, t[k]? = t'[k]?) (hl : LocalR P C s t h o.op e) (hh : ∀ b ∈ e.touch, h b = h' b) : LocalR P C s t' h' o.op e := by
  have ho := opnds_congr ht
  have hop : opndsP t o.op = opndsP t' o.op := List.map_congr_left ho
  rcases hl with ⟨out, h1, rfl⟩ | ⟨c, g, args, v, us, h1, h2, h3, h4, rfl⟩
  · refine .inl ⟨out, ?_, by rw [hop]⟩
    rw [← stepOp_congr ho, ← h1]
    exact (stepOp_local (hh s (by simp)) fun b hb => hh b (List.mem_cons_of_mem _ hb)).symm
  · refine .inr ⟨c, g, args, v, us, h1, ?_, h3, ?_, by rw [hop]⟩
    · rw [← h2]
      rw [h1] at ho
      have ho' : ∀ x ∈ c.operands.toList, St.opnd t x = St.opnd t' x := ho
      obtain ⟨callee, cargs, ts⟩ := c
      have hargs : cargs.toList.map (St.opnd t') = cargs.toList.map (St.opnd t) := List.map_congr_left fun x hx => (ho' x (by simp [Call.operands]; exact .inr (by simpa using hx))).symm
      unfold calleeOf
      cases callee with
      | value f => simp only [hargs, ho' f (by simp [Call.operands])]
      | _ => rfl
    · exact pure_local (fun b hb => hh b (by simp only [List.mem_cons, List.mem_append]; exact .inr (.inl hb))) h4

theorem guard_congr {ops : Array Oper} {o : Oper} {t t' : List PV} (ht : ∀ k ∈ o.looksAt ops, t[k]? = t'[k]?) : guardB ops t o = guardB ops t' o := by
  unfold guardB
  cases hg : o.guard with
  | none => rfl
  | some jw =>
    obtain ⟨j, want⟩ := jw
    simp only
    cases hd : (ops[j]?).bind (·.dst) with
    | none => rfl
    | some d =>
      simp only [Option.bind_some]
      rw [ht d (by simp [Oper.looksAt, hg, hd])]

/-! ### effects, in any order -/
def apply1 (o : Oper) (e : Eff) (s : List PV × Heap) : List PV × Heap := (putT s.1 o.dst e.val, s.2.ups e.ups)
def applyS (m : Nat → Bool) : Nat → List (Oper × Eff) → List PV × Heap → List PV × Heap
  | _, [], s => s
  | i, (o, e) :: r, s => applyS m (i + 1) r (if m i then apply1 o e s else s)

theorem putT_get_ne {t : List PV} {dst : Option Tmp} {v : PV} {x : Nat} (h : dst ≠ some x) : (putT t dst v)[x]? = t[x]? := by
  cases dst with
  | none => rfl
  | some d => simp only [putT]; rw [List.getElem?_set_ne (fun e => h (by rw [e]))]
theorem putT_len {t : List PV} {dst : Option Tmp} {v : PV} : (putT t dst v).length = t.length := by
  cases dst <;> simp [putT]
theorem ups_ne {h : Heap} : ∀ {us : List (Name × Box)} {b : Name}, (∀ u ∈ us, u.1 ≠ b) → h.ups us b = h b
  | [], b, _ => rfl
  | u :: us, b, hn => by
    rw [Heap.ups_cons, ups_ne fun v hv => hn v (by simp [hv]), Heap.put_ne _ _ fun e => hn u (by simp) e.symm]
theorem ups_eq {h h' : Heap} : ∀ {us : List (Name × Box)} {b : Name}, h b = h' b → h.ups us b = h'.ups us b
  | [], b, he => he
  | u :: us, b, he => by
    rw [Heap.ups_cons, Heap.ups_cons]
    refine ups_eq ?_
    simp only [Heap.put, he]
theorem ups_mem {h h' : Heap} : ∀ {us : List (Name × Box)} {b : Name}, (∃ u ∈ us, u.1 = b) → h.ups us b = h'.ups us b
  | [], b, ⟨u, hu, _⟩ => by simp at hu
  | u :: us, b, hm => by
    rw [Heap.ups_cons, Heap.ups_cons]
    by_cases h1 : ∃ v ∈ us, v.1 = b
    · exact ups_mem h1
    · obtain ⟨v, hv, he⟩ := hm
      rcases List.mem_cons.1 hv with rfl | hv
      · refine ups_eq ?_
        rw [← he, Heap.put_same, Heap.put_same]
      · exact absurd ⟨v, hv, he⟩ h1
theorem putT_eq {t t' : List PV} {dst : Option Tmp} {v : PV} {x : Nat} (hl : t.length = t'.length) (he : t[x]? = t'[x]?) : (putT t dst v)[x]? = (putT t' dst v)[x]? := by
  cases dst with
  | none => exact he
  | some d =>
    simp only [putT, List.getElem?_set, hl]
    split
    · rfl
    · exact he
theorem applyS_len (m : Nat → Bool) : ∀ (r : List (Oper × Eff)) (i : Nat) (s : List PV × Heap), (applyS m i r s).1.length = s.1.length
  | [], i, s => rfl
  | (o, e) :: r, i, s => by
    simp only [applyS]
    rw [applyS_len m r]
    split
    · exact putT_len
    · rfl

theorem agreeT {m m' : Nat → Bool} {x : Nat} : ∀ (r : List (Oper × Eff)) (i : Nat) (s s' : List PV × Heap), s.1.length = s'.1.length → s.1[x]? = s'.1[x]? →
    (∀ k q, r[k]? = some q → q.1.dst = some x → m (i + k) = m' (i + k)) → (applyS m i r s).1[x]? = (applyS m' i r s').1[x]?
  | [], i, s, s', _, he, _ => he
  | (o, e) :: r, i, s, s', hl, he, hm => by
    simp only [applyS]
    refine agreeT r (i + 1) _ _ ?_ ?_ fun k q hq hd => by have := hm (k + 1) q (by simpa using hq) hd; rwa [show i + (k + 1) = i + 1 + k by omega] at this
    · split <;> split <;> simp [apply1, putT_len, hl]
    · by_cases hd : o.dst = some x
      · have := hm 0 (o, e) rfl hd
        simp only [Nat.add_zero] at this
        rw [this]
        split
        · exact putT_eq hl he
        · exact he
      · have h1 : ∀ s : List PV × Heap, (apply1 o e s).1[x]? = s.1[x]? := fun s => putT_get_ne hd
        split <;> split <;> simp [h1, he]
theorem agreeH {m m' : Nat → Bool} {b : Name} : ∀ (r : List (Oper × Eff)) (i : Nat) (s s' : List PV × Heap), s.2 b = s'.2 b →
    (∀ k q, r[k]? = some q → (∃ u ∈ q.2.ups, u.1 = b) → m (i + k) = m' (i + k)) → (applyS m i r s).2 b = (applyS m' i r s').2 b
  | [], i, s, s', he, _ => he
  | (o, e) :: r, i, s, s', he, hm => by
    simp only [applyS]
    refine agreeH r (i + 1) _ _ ?_ fun k q hq hd => by have := hm (k + 1) q (by simpa using hq) hd; rwa [show i + (k + 1) = i + 1 + k by omega] at this
    by_cases hd : ∃ u ∈ e.ups, u.1 = b
    · have := hm 0 (o, e) rfl hd
      simp only [Nat.add_zero] at this
      rw [this]
      split
      · exact ups_eq he
      · exact he
    · have h1 : ∀ s : List PV × Heap, (apply1 o e s).2 b = s.2 b := fun s => ups_ne fun u hu hb => hd ⟨u, hu, hb⟩
      split <;> split <;> simp [h1, he]

/-- Two operations that write nothing in common change places. -/
def Apart2 (o : Oper) (e : Eff) (o' : Oper) (e' : Eff) : Prop := (∀ d, o.dst = some d → o'.dst ≠ some d) ∧ ∀ u ∈ e.ups, ∀ v ∈ e'.ups, u.1 ≠ v.1
theorem apply1_comm {o o' : Oper} {e e' : Eff} (ha : Apart2 o e o' e') (s : List PV × Heap) : apply1 o e (apply1 o' e' s) = apply1 o' e' (apply1 o e s) := by
  unfold apply1
  refine Prod.ext ?_ ?_
  · simp only
    cases hd : o.dst with
    | none => rfl
    | some d =>
      cases hd' : o'.dst with
      | none => rfl
      | some d' =>
        have : d ≠ d' := fun h => ha.1 d hd (by rw [hd', h])
        simp only [putT]
        rw [List.set_comm _ _ (Ne.symm this)]
  · funext b
    simp only
    by_cases h1 : ∃ u ∈ e.ups, u.1 = b
    · have h2 : ¬ ∃ v ∈ e'.ups, v.1 = b := fun ⟨v, hv, hb⟩ => by
        obtain ⟨u, hu, hb'⟩ := h1
        exact ha.2 u hu v hv (hb'.trans hb.symm)
      rw [ups_mem (h' := s.2) h1, ups_ne (h := s.2.ups e.ups) fun v hv hb => h2 ⟨v, hv, hb⟩]
    · rw [ups_ne (h := s.2.ups e'.ups) fun u hu hb => h1 ⟨u, hu, hb⟩]
      refine ups_eq ?_
      rw [ups_ne fun u hu hb => h1 ⟨u, hu, hb⟩]

theorem push {m : Nat → Bool} {o : Oper} {e : Eff} : ∀ (r : List (Oper × Eff)) (i : Nat) (s : List PV × Heap), (∀ k q, r[k]? = some q → m (i + k) = true → Apart2 o e q.1 q.2) →
    applyS m i r (apply1 o e s) = apply1 o e (applyS m i r s)
  | [], i, s, _ => rfl
  | (o', e') :: r, i, s, ha => by
    simp only [applyS]
    have ih := fun s => push (m := m) r (i + 1) s fun k q hq hm => ha (k + 1) q (by simpa using hq) (by rwa [show i + (k + 1) = i + 1 + k by omega])
    by_cases hm : m i = true
    · rw [if_pos hm, if_pos hm]
      have h0 := ha 0 (o', e') rfl (by simpa using hm)
      rw [show apply1 o' e' (apply1 o e s) = apply1 o e (apply1 o' e' s) from (apply1_comm h0 s).symm]
      exact ih _
    · rw [if_neg hm, if_neg hm]
      exact ih _
theorem applyS_congr {m m' : Nat → Bool} : ∀ (r : List (Oper × Eff)) (i : Nat) (s : List PV × Heap), (∀ k, k < r.length → m (i + k) = m' (i + k)) → applyS m i r s = applyS m' i r s
  | [], i, s, _ => rfl
  | (o, e) :: r, i, s, hm => by
    simp only [applyS]
    rw [show m i = m' i from hm 0 (by simp)]
    exact applyS_congr r (i + 1) _ fun k hk => by have := hm (k + 1) (by simpa using hk); rwa [show i + (k + 1) = i + 1 + k by omega] at this
/-- One operation more. -/
theorem insert1 {m m' : Nat → Bool} {j : Nat} {o : Oper} {e : Eff} : ∀ (r : List (Oper × Eff)) (i : Nat) (s : List PV × Heap), i ≤ j → r[j - i]? = some (o, e) → m j = false → m' j = true → (∀ k, k ≠ j → m' k = m k) →
    (∀ k q, r[k]? = some q → j < i + k → m (i + k) = true → Apart2 o e q.1 q.2) → applyS m' i r s = apply1 o e (applyS m i r s)
  | [], i, s, _, hj, _, _, _, _ => by simp at hj
  | (o', e') :: r, i, s, hij, hj, h0, h1, hne, ha => by
    simp only [applyS]
    by_cases hi : i = j
    · subst hi
      simp only [Nat.sub_self, List.getElem?_cons_zero, Option.some.injEq, Prod.mk.injEq] at hj
      obtain ⟨rfl, rfl⟩ := hj
      rw [if_pos h1, if_neg (by simp [h0])]
      rw [applyS_congr (m := m') (m' := m) r (i + 1) _ fun k hk => hne _ (by omega)]
      exact push r (i + 1) s fun k q hq hm => ha (k + 1) q (by simpa using hq) (by omega) (by rwa [show i + (k + 1) = i + 1 + k by omega])
    · rw [hne i hi]
      refine insert1 r (i + 1) _ (by omega) ?_ h0 h1 hne fun k q hq hk hm => ha (k + 1) q (by simpa using hq) (by omega) (by rwa [show i + (k + 1) = i + 1 + k by omega])
      rw [show j - i = (j - (i + 1)) + 1 by omega, List.getElem?_cons_succ] at hj
      exact hj
end Go.Proofs.Ytnnkoghmglpnmaa.TM
