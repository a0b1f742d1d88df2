/- TM and the model: one operation that calls nothing. Conditions: none; lemmas. -/
import Derived.Test.YtnnkoghmglpnmaaTmJ
namespace Go.Proofs.Ytnnkoghmglpnmaa.TM
open Go
set_option linter.unusedVariables false
set_option linter.defProp false
set_option linter.unusedSimpArgs false

variable {P : Program} {β : Pl} {h : Heap} {w : World}

/-- What an operation's run comes to. -/
def Ran (P : Program) (β : Pl) (h : Heap) (w : World) (s : Sem Next) (o : Out) : Prop :=
  ∃ β' w' v, (s.run P w = .ok (.value v) w' ∨ (s.run P w = .ok .skip w' ∧ v = undef)) ∧ HInv β' (h.ups o.ups) w' ∧ Ext β h w β' (h.ups o.ups) w' ∧ Rep β' (h.ups o.ups) w' o.val v

theorem Ran.of_just (H : HInv β h w) {s : Sem Value} {p : PV} (hs : ∃ u, s.run P w = .ok u w ∧ Rep β h w p u) {o : Out} (ho : o = ⟨p, []⟩) : Ran P β h w (do pure (.value (← s))) o := by
  subst ho
  obtain ⟨u, hu, hr⟩ := hs
  exact ⟨β, w, u, .inl (by rw [Sem.run_bind, hu]; rfl), H, Ext.refl _ _ _, hr⟩
theorem Ran.of_does {s : Sem Value} {o : Out} (hs : Does P β h w s o.ups fun β h w u => Rep β h w o.val u) : Ran P β h w (do pure (.value (← s))) o := by
  obtain ⟨β', w', v, hr, H', E, hv⟩ := hs
  exact ⟨β', w', v, .inl (by rw [Sem.run_bind, hr]; rfl), H', E, hv⟩
theorem just_some {p : Option PV} {o : Out} (h : just p = some o) : ∃ q, p = some q ∧ o = ⟨q, []⟩ := by
  unfold just at h
  cases p with
  | none => cases h
  | some q => cases h; exact ⟨q, rfl, rfl⟩

theorem ofVal_rep (v : Value) : Rep β h w (ofVal v) v := by
  unfold ofVal
  split
  · rename_i cs
    refine .agg _ _ (by simp) fun j x hj => ?_
    rw [List.getElem?_map] at hj
    cases hg : cs.toList[j]? with
    | none => simp [hg] at hj
    | some u =>
      simp [hg] at hj; subst hj
      have h2 : cs[j]? = some u := by simpa using hg
      have : cs.getD j undef = u := by simp [h2]
      rw [this]
      exact .i _ _ (.v u)
  · exact .i _ _ (.v _)
theorem undef_rep : Rep β h w undefP undef := .tup [] #[] rfl fun j x hj => by simp at hj

/-- The slots as they are. -/
structure TInv (β : Pl) (h : Heap) (w : World) (t : List PV) (tmps : Array Value) : Prop where
  size : tmps.size = t.length
  rep : ∀ j x, t[j]? = some x → Rep β h w x (tmps.getD j undef)

theorem TInv.opnd {t : List PV} {a : Act} (T : TInv β h w t a.tmps) (x : Operand) : Rep β h w (St.opnd t x) (a.eval x) := by
  cases x with
  | tmp k =>
    simp only [St.opnd, Act.eval]
    cases hg : t[k]? with
    | none =>
      have h1 : t.length ≤ k := List.getElem?_eq_none_iff.1 hg
      have h2 : a.tmps[k]? = none := by simp; rw [T.size]; exact h1
      rw [List.getD_eq_getElem?_getD, hg]
      simp only [Array.getD_eq_getD_getElem?, h2]
      exact undef_rep
    | some y =>
      rw [List.getD_eq_getElem?_getD, hg]
      exact T.rep k y hg
  | const v => exact ofVal_rep v
  | global g => exact .dead _
  | func f => exact .i _ _ (.v _)
theorem TInv.put {t : List PV} {a : Act} (T : TInv β h w t a.tmps) (dst : Option Tmp) {p : PV} {v : Value} (hp : Rep β h w p v) : TInv β h w (putT t dst p) (a.put dst v).tmps := by
  cases dst with
  | none => exact T
  | some d =>
    simp only [putT, Act.put]
    refine ⟨by simp [T.size], fun j x hj => ?_⟩
    rw [List.getElem?_set] at hj
    by_cases hd : d = j
    · subst hd
      rw [if_pos rfl] at hj
      by_cases hlt : d < t.length
      · rw [if_pos hlt] at hj; cases hj
        have : d < a.tmps.size := by rw [T.size]; exact hlt
        have h2 : (a.tmps.setIfInBounds d v).getD d undef = v := by simp [this]
        rw [h2]; exact hp
      · rw [if_neg hlt] at hj; cases hj
    · rw [if_neg hd] at hj
      have h2 : (a.tmps.setIfInBounds d v).getD j undef = a.tmps.getD j undef := by
        simp only [Array.getD_eq_getD_getElem?, Array.getElem?_setIfInBounds_ne hd]
      rw [h2]; exact T.rep j x hj
theorem TInv.mono {β' : Pl} {h' : Heap} {w' : World} (H : HInv β h w) (E : Ext β h w β' h' w') {t : List PV} {tmps : Array Value} (T : TInv β h w t tmps) : TInv β' h' w' t tmps :=
  ⟨T.size, fun j x hj => RepP.mono H E (T.rep j x hj)⟩

theorem args2 {ρ : Operand → PV} {args : Array Operand} {x y : PV} (hx : args.toList.map ρ = [x, y]) : ∃ p q, args = #[p, q] ∧ ρ p = x ∧ ρ q = y := by
  obtain ⟨l⟩ := args
  match l, hx with
  | [p, q], hx => simp at hx; exact ⟨p, q, rfl, hx.1, hx.2⟩
  | [], hx => simp at hx
  | [_], hx => simp at hx
  | _ :: _ :: _ :: _, hx => simp at hx
theorem args1 {ρ : Operand → PV} {args : Array Operand} {x : PV} (hx : args.toList.map ρ = [x]) : ∃ p, args = #[p] ∧ ρ p = x := by
  obtain ⟨l⟩ := args
  match l, hx with
  | [p], hx => simp at hx; exact ⟨p, rfl, hx⟩
  | [], hx => simp at hx
  | _ :: _ :: _, hx => simp at hx

theorem stepOp_sound (H : HInv β h w) (s : Name) {ρ : Operand → PV} {r : Operand → Value} (hρ : ∀ x, Rep β h w (ρ x) (r x)) (o : Oper) {out : Out} (hst : stepOp P h s ρ o.op = some out) : Ran P β h w (execOp r o) out := by
  obtain ⟨dst, op, type, pos, after, guard⟩ := o
  unfold stepOp at hst
  unfold execOp
  cases op with
  | move x => obtain ⟨q, hq, rfl⟩ := just_some hst; cases hq; exact ⟨β, w, _, .inl rfl, H, Ext.refl _ _ _, hρ x⟩
  | assign x => obtain ⟨q, hq, rfl⟩ := just_some hst; cases hq; exact ⟨β, w, _, .inl rfl, H, Ext.refl _ _ _, hρ x⟩
  | pick c a b =>
    simp only at hst
    split at hst
    · rename_i t hc
      obtain ⟨q, hq, rfl⟩ := just_some hst
      cases hq
      have h1 := hρ c
      rw [hc] at h1
      have h2 := rep_plain h1
      simp only [h2]
      refine ⟨β, w, if t then r a else r b, .inl (by simp [asBool]), H, Ext.refl _ _ _, ?_⟩
      cases t
      · exact hρ b
      · exact hρ a
    · cases hst
  | alloc t => exact Ran.of_does (alloc_sound H hst)
  | box t x => exact Ran.of_does (box_sound H (hρ x) hst)
  | build t ps =>
    obtain ⟨q, hq, rfl⟩ := just_some hst
    have hL : Parts β h w (ps.toList.map fun p => (p.1, ρ p.2, r p.2)) := ⟨fun q hq => by
      obtain ⟨p, hp, rfl⟩ := List.mem_map.1 hq; exact hρ p.2⟩
    have h1 : (ps.toList.map fun p => (p.1, ρ p.2)) = ((ps.toList.map fun p => (p.1, ρ p.2, r p.2)).map fun q => (q.1, q.2.1)) := by rw [List.map_map]; rfl
    have h2 : (ps.map fun p => (p.1, r p.2)) = (((ps.toList.map fun p => (p.1, ρ p.2, r p.2)).map fun q => (q.1, q.2.2))).toArray := by rw [List.map_map]; apply Array.ext'; simp
    rw [h1] at hq
    have := build_sound hL hq
    rw [← h2] at this
    exact Ran.of_just H this rfl
  | buildSlice t n ps =>
    have hL : Parts β h w (ps.toList.map fun p => (p.1, ρ p.2, r p.2)) := ⟨fun q hq => by
      obtain ⟨p, hp, rfl⟩ := List.mem_map.1 hq; exact hρ p.2⟩
    have h1 : (ps.toList.map fun p => (p.1, ρ p.2)) = ((ps.toList.map fun p => (p.1, ρ p.2, r p.2)).map fun q => (q.1, q.2.1)) := by rw [List.map_map]; rfl
    have h2 : (ps.map fun p => (p.1, r p.2)) = (((ps.toList.map fun p => (p.1, ρ p.2, r p.2)).map fun q => (q.1, q.2.2))).toArray := by rw [List.map_map]; apply Array.ext'; simp
    simp only [h1] at hst
    have := buildSlice_sound H hL hst
    rw [← h2] at this
    exact Ran.of_does this
  | load t a =>
    simp only at hst
    split at hst
    · rename_i hu
      obtain ⟨d, hd⟩ := undB_some hu
      obtain ⟨q, hq, rfl⟩ := just_some hst
      exact Ran.of_just H (load_sound H hd (hρ a) hq) rfl
    · cases hst
  | store t a x =>
    simp only at hst
    split at hst
    · rename_i hi
      obtain ⟨i, hi⟩ := infoB_some hi
      cases hs : opStore P h t (ρ a) (ρ x) with
      | none => simp [hs] at hst
      | some us =>
        simp [hs] at hst
        subst hst
        obtain ⟨β', w', v, hr, H', E, _⟩ := store_sound H hi (hρ a) (hρ x) hs
        refine ⟨β', w', undef, .inr ⟨?_, rfl⟩, H', E, undef_rep⟩
        cases v
        rw [Sem.run_bind, hr]; rfl
    · cases hst
  | nilCheck x =>
    simp only at hst
    have h1 := hρ x
    split at hst
    · rename_i b o p hx
      obtain ⟨q, hq, rfl⟩ := just_some hst
      cases hq
      rw [hx] at h1
      obtain ⟨a, ha⟩ : ∃ a, r x = .pointer (some a) := by
        generalize r x = rx at h1
        cases h1; exact ⟨_, rfl⟩
      exact ⟨β, w, r x, .inl (by simp only [ha]; rfl), H, Ext.refl _ _ _, h1⟩
    · rename_i cs o hx
      obtain ⟨q, hq, rfl⟩ := just_some hst
      cases hq
      rw [hx] at h1
      obtain ⟨a, ha⟩ : ∃ a, r x = .pointer (some a) := by
        generalize r x = rx at h1
        cases h1; exact ⟨_, rfl⟩
      exact ⟨β, w, r x, .inl (by simp only [ha]; rfl), H, Ext.refl _ _ _, h1⟩
    · rename_i f cs hx
      obtain ⟨q, hq, rfl⟩ := just_some hst
      cases hq
      rw [hx] at h1
      obtain ⟨a, ha⟩ : ∃ a, r x = .func (.func f) #[] a := by
        generalize r x = rx at h1
        cases h1; exact ⟨_, rfl⟩
      exact ⟨β, w, r x, .inl (by simp only [ha]; rfl), H, Ext.refl _ _ _, h1⟩
    · rename_i f a c hx
      obtain ⟨q, hq, rfl⟩ := just_some hst
      cases hq
      rw [hx] at h1
      have ha := rep_plain h1
      exact ⟨β, w, r x, .inl (by simp only [ha]; rfl), H, Ext.refl _ _ _, h1⟩
    · cases hst
  | binOp op t x y ty =>
    simp only at hst
    split at hst
    · rename_i a b hx hy
      obtain ⟨q, hq, rfl⟩ := just_some hst
      cases hs : scalBin P op t a b with
      | none => simp [hs] at hq
      | some v =>
        simp [hs] at hq
        subst hq
        have h1 := hρ x
        rw [hx] at h1
        have h2 := hρ y
        rw [hy] at h2
        refine Ran.of_just (s := (do eqGuard op t x y (r x) (r y); binOp op t (r x) (r y))) H ⟨v, ?_, .i _ _ (.v _)⟩ rfl
        rw [rep_plain h1, rep_plain h2]
        exact scalBin_sound hs w
    · cases hst
  | unOp op t x =>
    simp only at hst
    split at hst
    · rename_i a hx
      obtain ⟨q, hq, rfl⟩ := just_some hst
      cases hs : scalUn op a with
      | none => simp [hs] at hq
      | some v =>
        simp [hs] at hq
        subst hq
        have h1 := hρ x
        rw [hx] at h1
        refine Ran.of_just (s := Op.unary op (r x)) H ⟨v, ?_, .i _ _ (.v _)⟩ rfl
        rw [rep_plain h1]
        exact scalUn_sound hs w
    · cases hst
  | convert a b x =>
    obtain ⟨q, hq, rfl⟩ := just_some hst
    exact Ran.of_just H (convert_sound H (hρ x) hq) rfl
  | makeFunc fn first caps =>
    cases fn with
    | func f =>
      simp only at hst
      split at hst
      · rename_i hf
        have hf0 : first = #[] := Array.eq_empty_of_size_eq_zero hf
        subst hf0
        split at hst
        · rename_i hc
          have hc0 : caps = #[] := Array.eq_empty_of_size_eq_zero hc
          subst hc0
          obtain ⟨q, hq, rfl⟩ := just_some hst
          cases hq
          exact ⟨β, w, .func (.func f) #[] #[], .inl (by simp [Instr.makeFunc]), H, Ext.refl _ _ _, .i _ _ (.v _)⟩
        · obtain ⟨q, hq, rfl⟩ := just_some hst
          cases hq
          refine ⟨β, w, .func (.func f) #[] (caps.map r), .inl (by simp [Instr.makeFunc]), H, Ext.refl _ _ _, .clo _ _ _ (by simp) fun j x hj => ?_⟩
          rw [List.getElem?_map] at hj
          cases hg : caps.toList[j]? with
          | none => simp [hg] at hj
          | some u =>
            simp [hg] at hj; subst hj
            have h2 : caps[j]? = some u := by simpa using hg
            have : (caps.map r).getD j undef = r u := by simp [h2]
            rw [this]
            exact hρ u
      · cases hst
    | _ => simp at hst
  | makeSlice t l c => exact Ran.of_does (make_sound H (hρ l) (hρ c) hst)
  | slice t x lo hi mx =>
    obtain ⟨q, hq, rfl⟩ := just_some hst
    have hm : ∀ y : Option Operand, ORep β h w (y.map ρ) (y.map r) := fun y => by
      cases y with
      | none => trivial
      | some y => exact hρ y
    exact Ran.of_just H (slice_sound (hρ x) (hm lo) (hm hi) (hm mx) hq) rfl
  | fieldAddr t x f =>
    obtain ⟨q, hq, rfl⟩ := just_some hst
    exact Ran.of_just H (fieldAddr_sound (hρ x) hq) rfl
  | field t x f =>
    obtain ⟨q, hq, rfl⟩ := just_some hst
    exact Ran.of_just H (field_sound (hρ x) hq) rfl
  | indexAddr t x ix =>
    obtain ⟨q, hq, rfl⟩ := just_some hst
    exact Ran.of_just H (indexAddr_sound (hρ x) (hρ ix) hq) rfl
  | index t x ix =>
    obtain ⟨q, hq, rfl⟩ := just_some hst
    exact Ran.of_just H (index_sound (hρ x) (hρ ix) hq) rfl
  | extract x ix =>
    simp only at hst
    split at hst
    · rename_i vs hx
      obtain ⟨q, hq, rfl⟩ := just_some hst
      exact Ran.of_just H (extract_sound (hρ x) hx hq) rfl
    · cases hst
  | call c =>
    obtain ⟨callee, args, ts⟩ := c
    cases callee with
    | builtin b =>
      simp only at hst
      unfold opBuiltin at hst
      simp only [resolve, invoke, Sem.run_bind, Sem.run_pure, Result.andThen_ok, pure_bind]
      split at hst
      · rename_i t t' x y hts hxs
        split at hst
        case isFalse => cases hst
        rename_i he'
        obtain ⟨e', he'⟩ := Option.isSome_iff_exists.1 he'
        have hts' : ts = #[t, t'] := by apply Array.ext'; simpa using hts
        obtain ⟨p, q, rfl, rfl, rfl⟩ := args2 hxs
        subst hts'
        have hm : (#[p, q] : Array Operand).map r = #[r p, r q] := by simp
        rw [hm]
        exact Ran.of_does (append_sound H (elemB_some he') (hρ p) (hρ q) hst)
      · rename_i t t' x y hts hxs
        have hts' : ts = #[t, t'] := by apply Array.ext'; simpa using hts
        obtain ⟨p, q, rfl, rfl, rfl⟩ := args2 hxs
        subst hts'
        have hm : (#[p, q] : Array Operand).map r = #[r p, r q] := by simp
        rw [hm]
        exact Ran.of_does (copy_sound H (hρ p) (hρ q) hst)
      · rename_i t x hts hxs
        have hts' : ts = #[t] := by apply Array.ext'; simpa using hts
        obtain ⟨p, rfl, rfl⟩ := args1 hxs
        subst hts'
        have hm : (#[p] : Array Operand).map r = #[r p] := by simp
        rw [hm]
        cases hl : opLen P t (ρ p) with
        | none => simp [hl] at hst
        | some q =>
          simp [hl] at hst
          subst hst
          exact Ran.of_just H (len_sound (hρ p) hl) rfl
      · rename_i k a k' b hxs
        cases hst
        obtain ⟨p, q, rfl, hp, hq⟩ := args2 hxs
        have h1 := hρ p
        rw [hp] at h1
        have h2 := hρ q
        rw [hq] at h2
        have hm : (#[p, q] : Array Operand).map r = #[r p, r q] := by simp
        rw [hm]
        refine Ran.of_just (s := Builtin.min_ ts type #[r p, r q]) H ⟨.int k (if b < a then b else a), ?_, .i _ _ (.v _)⟩ rfl
        simp [Builtin.min_, rep_plain h1, rep_plain h2, Builtin.min2]
      · rename_i k a k' b hxs
        cases hst
        obtain ⟨p, q, rfl, hp, hq⟩ := args2 hxs
        have h1 := hρ p
        rw [hp] at h1
        have h2 := hρ q
        rw [hq] at h2
        have hm : (#[p, q] : Array Operand).map r = #[r p, r q] := by simp
        rw [hm]
        refine Ran.of_just (s := Builtin.max_ ts type #[r p, r q]) H ⟨.int k (if b > a then b else a), ?_, .i _ _ (.v _)⟩ rfl
        simp [Builtin.max_, rep_plain h1, rep_plain h2, Builtin.max2]
      · cases hst
    | _ => simp at hst
  | _ => simp at hst
end Go.Proofs.Ytnnkoghmglpnmaa.TM
