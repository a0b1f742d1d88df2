/- TM and the model: regions, loops, functions: what TM's calls come to, the model's calls come to. Conditions: none; lemmas. -/
import Derived.Test.YtnnkoghmglpnmaaTmM
namespace Go.Proofs.Ytnnkoghmglpnmaa.TM
open Go
set_option linter.unusedVariables false
set_option linter.defProp false
set_option linter.unusedSimpArgs false

variable {P : Program} {β : Pl} {h : Heap} {w : World}

theorem guard_real {ops : Array Oper} {t : List PV} {o : Oper} {b : Bool} {a : Act} (T : TInv β h w t a.tmps) (hg : guardB ops t o = some b) : Region.wanted o (yielded ops a.tmps) = b := by
  unfold guardB at hg
  unfold Region.wanted
  split at hg
  · rename_i h1; rw [h1]; cases hg; rfl
  · rename_i j want h1
    rw [h1]
    simp only
    unfold yielded
    cases hd : (ops[j]?).bind (·.dst) with
    | none => simp [hd] at hg
    | some d =>
      simp only [hd, Option.bind_some] at hg ⊢
      cases hx : t[d]? with
      | none => simp [hx] at hg
      | some x =>
        have hr := T.rep d x hx
        have hlt : d < a.tmps.size := by rw [T.size]; exact (List.getElem?_eq_some_iff.1 hx).1
        have he : a.tmps[d]? = some (a.tmps.getD d undef) := by simp [hlt]
        rw [hx] at hg
        rw [he]
        split at hg
        · rename_i b' hxe
          cases hxe
          cases hg
          rw [rep_plain hr]
          rfl
        · rename_i hxe
          cases hxe
          cases hg
          generalize a.tmps.getD d undef = u at hr
          cases hr with
          | tup cs arr hl hs => rfl
        · cases hg

theorem run_enter {g : FuncId} (he : enterB P g = true) (args : Array Value) (w : World) : (callFunc g args).run P w = .ok (.enter g args) w := by
  unfold enterB at he
  split at he
  · rename_i fn hf
    obtain ⟨h1, h2⟩ := Bool.and_eq_true_iff.1 he
    have h1' : ¬ fn.name = "runtime.NumGoroutine" := by simpa using h1
    obtain ⟨c, hc⟩ := Option.isSome_iff_exists.1 h2
    simp [callFunc, hf, h1', hc]
  · cases he

theorem call_run {t : List PV} {a : Act} (T : TInv β h w t a.tmps) {c : Call} {g : FuncId} {args : List PV} (hc : calleeOf t c = some (g, args)) (he : enterB P g = true) {o : Oper} (ho : o.op = .call c) :
    ∃ rargs, (execOp a.eval o).run P w = .ok (.enter g rargs) w ∧ Reps β h w args rargs := by
  obtain ⟨callee, cargs, ts⟩ := c
  have hargs : ∀ extra : Array Value, ∀ ex : List PV, extra.size = ex.length → (∀ j p, ex[j]? = some p → Rep β h w p (extra.getD j undef)) → Reps β h w (cargs.toList.map (St.opnd t) ++ ex) (cargs.map a.eval ++ extra) := by
    intro extra ex hl hs
    refine ⟨by simp [hl], fun j p hj => ?_⟩
    rw [List.getElem?_append] at hj
    simp only [List.length_map, Array.length_toList] at hj
    by_cases hlt : j < cargs.size
    · rw [if_pos hlt, List.getElem?_map] at hj
      cases hx : cargs.toList[j]? with
      | none => simp [hx] at hj
      | some x =>
        simp [hx] at hj; subst hj
        have h2 : cargs[j]? = some x := by simpa using hx
        have : (cargs.map a.eval ++ extra).getD j undef = a.eval x := by
          rw [Array.getD_eq_getD_getElem?, Array.getElem?_append_left (by simpa using hlt)]
          simp [h2]
        rw [this]
        exact T.opnd x
    · rw [if_neg hlt] at hj
      have : (cargs.map a.eval ++ extra).getD j undef = extra.getD (j - cargs.size) undef := by
        rw [Array.getD_eq_getD_getElem?, Array.getElem?_append_right (by simpa using hlt)]
        simp
      rw [this]
      exact hs _ _ hj
  unfold calleeOf at hc
  split at hc
  case h_2 => cases hc
  rename_i f hcal
  simp only at hcal
  subst hcal
  have hf := T.opnd f
  split at hc
  · rename_i g' first captured hx
    split at hc
    case isFalse => cases hc
    rename_i h0
    cases hc
    rw [hx] at hf
    have hv := rep_plain hf
    have h1 : first = #[] := Array.eq_empty_of_size_eq_zero h0.1
    have h2 : captured = #[] := Array.eq_empty_of_size_eq_zero h0.2
    subst h1; subst h2
    refine ⟨cargs.map a.eval ++ #[], ?_, by simpa using hargs #[] [] rfl fun j p hj => by simp at hj⟩
    unfold execOp
    simp only [ho, resolve, hv, Deferred.ofValue, Sem.run_bind, Sem.run_pure, Result.andThen_ok, invoke]
    rw [run_enter he]
    simp
  · rename_i g' caps hx
    cases hc
    rw [hx] at hf
    obtain ⟨arr, hv, hl, hs⟩ : ∃ arr, a.eval f = .func (.func g) #[] arr ∧ arr.size = caps.length ∧ ∀ j p, caps[j]? = some p → Rep β h w p (arr.getD j undef) := by
      generalize a.eval f = u at hf
      cases hf with | clo f cs arr hl hs => exact ⟨arr, rfl, hl, hs⟩
    refine ⟨cargs.map a.eval ++ arr, ?_, hargs arr caps hl hs⟩
    unfold execOp
    simp only [ho, resolve, hv, Deferred.ofValue, Sem.run_bind, Sem.run_pure, Result.andThen_ok, invoke]
    rw [run_enter he]
    simp
  · cases hc

/-- One operation that is done, in the model. -/
theorem step_sound {C : CallRel} (hC : CSound P C) (H : HInv β h w) {t : List PV} {a : Act} (T : TInv β h w t a.tmps) (hd : a.defers = []) {s : Name} {o : Oper} {v : PV} {h' : Heap} (hst : StepR P C s t h o.op v h')
    {K : Act → World → Prop} {Q : Exit → Act → World → Prop}
    (hK : ∀ β' w' u, HInv β' h' w' → Ext β h w β' h' w' → Rep β' h' w' v u → K (a.put o.dst u) w') : o.wp P a w K Q := by
  rcases hst with ⟨out, hs, rfl, rfl⟩ | ⟨c, g, args, ho, hc, he, hcall⟩
  · obtain ⟨β', w', u, hrun, H', E, hr⟩ := stepOp_sound H s (fun x => T.opnd x) o hs
    have := hK β' w' u H' E hr
    unfold Oper.wp
    rcases hrun with hrun | ⟨hrun, rfl⟩
    · rw [hrun]; exact this
    · rw [hrun]; exact this
  · obtain ⟨rargs, hrun, hra⟩ := call_run T hc he ho
    unfold Oper.wp
    rw [hrun]
    show Calls P g rargs w _
    rcases hcall with hcall | ⟨us, hcall, rfl⟩
    · refine (hC _ _ _ _ _ _ hcall β w rargs H hra).mono ?_
      rintro e w' ⟨rv, β', rfl, H', hr, E⟩
      exact hK β' w' rv H' E hr
    · refine (pure_sound hC H hra hcall).mono ?_
      rintro e w' ⟨rv, β', rfl, H', hr, E⟩
      exact hK β' w' rv H' E hr

theorem put_defers {a : Act} (hd : a.defers = []) (dst : Option Tmp) (v : Value) : (a.put dst v).defers = [] := by
  cases dst <;> exact hd

theorem WOps_sound {C : CallRel} (hC : CSound P C) {base : Name} {id : Nat} {ops : Array Oper} {β0 : Pl} {h0 : Heap} {w0 : World} {R : List PV → Heap → Prop} {Q : Exit → Act → World → Prop}
    (hQ : ∀ t h β w a, R t h → HInv β h w → TInv β h w t a.tmps → a.defers = [] → Ext β0 h0 w0 β h w → Q .normal a w) :
    ∀ (os : List Oper) (i : Nat) (t : List PV) (h : Heap) (β : Pl) (w : World) (a : Act), HInv β h w → TInv β h w t a.tmps → a.defers = [] → Ext β0 h0 w0 β h w → WOps P C base id ops i os t h R → wpList P ops Q os a w
  | [], i, t, h, β, w, a, H, T, hd, E, hw => hQ t h β w a hw H T hd E
  | o :: os, i, t, h, β, w, a, H, T, hd, E, hw => by
    unfold WOps at hw
    unfold wpList
    split at hw
    · exact hw.elim
    · rename_i hg
      rw [guard_real T hg]
      simp only [Bool.false_eq_true, if_false]
      exact WOps_sound hC hQ os (i + 1) _ h β w _ H (T.put o.dst undef_rep) (put_defers hd _ _) E hw
    · rename_i hg
      rw [guard_real T hg]
      simp only [if_true]
      obtain ⟨v, h', hs, hw⟩ := hw
      exact .inl (step_sound hC H T hd hs fun β' w' u H' E' hr => WOps_sound hC hQ os (i + 1) _ h' β' w' _ H' ((T.mono H E').put o.dst hr) (put_defers hd _ _) (E.trans E') hw)

/-! ### forgetting -/
theorem keepT_get : ∀ {ks : List Bool} {t : List PV}, ks.length = t.length → (keepT ks t).length = t.length ∧ ∀ (j : Nat) (x : PV), (keepT ks t)[j]? = some x → x = .dead ∨ t[j]? = some x
  | [], [], _ => ⟨rfl, fun j x hj => by simp [keepT] at hj⟩
  | k :: ks, y :: t, hl => by
    obtain ⟨h1, h2⟩ := keepT_get (ks := ks) (t := t) (by simpa using hl)
    refine ⟨by simp [keepT, h1], fun j x hj => ?_⟩
    cases j with
    | zero =>
      simp only [keepT, List.getElem?_cons_zero, Option.some.injEq] at hj
      cases k with
      | true => exact .inr (by simpa using hj)
      | false => exact .inl (by simpa using hj.symm)
    | succ j => simp only [keepT, List.getElem?_cons_succ] at hj ⊢; exact h2 j x hj
  | [], _ :: _, hl => by simp at hl
  | _ :: _, [], hl => by simp at hl

theorem refsL_mem : ∀ {ps : List PV} {p : PV} {b : Name}, p ∈ ps → b ∈ refsP p → b ∈ refsL ps
  | q :: ps, p, b, hp, hb => by
    rcases List.mem_cons.1 hp with rfl | hp
    · exact List.mem_append.2 (.inl hb)
    · exact List.mem_append.2 (.inr (refsL_mem hp hb))

theorem rep_drop {bs : List Name} {p : PV} {v : Value} (hp : Rep β h w p v) (hb : ∀ b ∈ bs, b ∉ refsP p) : Rep β (h.drop bs) w p v := by
  have hR : ∀ a v, Rd β h w a v → Rd β (h.drop bs) w a v := fun a v hr => ⟨⟨hr.1.1, fun b x hx ho => by
    unfold Heap.drop at hx
    split at hx
    · cases hx
    · exact hr.1.2 b x hx ho⟩, hr.2⟩
  have hk : ∀ b x, h b = some x → b ∉ bs → h.drop bs b = some x := fun b x hx hn => by unfold Heap.drop; rw [if_neg hn]; exact hx
  induction hp with
  | i x v hx => exact .i _ _ (hx.mono hR)
  | view b off z n top x a cap hb' hrow ht hn ha hva =>
    exact .view b off z n top x a cap (hk b x hb' fun hm => hb b hm (by simp [refsP])) hrow ht hn ha hva
  | ref b off top x a hb' ht hva => exact .ref b off top x a (hk b x hb' fun hm => hb b hm (by simp [refsP])) ht hva
  | iref cs off a f hr h1 hs => exact .iref cs off a f (fun j hj => hR _ _ (hr j hj)) h1 fun j x hj => (hs j x hj).mono hR
  | agg cs arr hl hs ih => exact .agg cs arr hl fun j x hj => ih j x hj fun b hm hmr => hb b hm (refsL_mem (List.mem_of_getElem? hj) hmr)
  | tup cs arr hl hs ih => exact .tup cs arr hl fun j x hj => ih j x hj fun b hm hmr => hb b hm (refsL_mem (List.mem_of_getElem? hj) hmr)
  | clo f cs arr hl hs ih => exact .clo f cs arr hl fun j x hj => ih j x hj fun b hm hmr => hb b hm (refsL_mem (List.mem_of_getElem? hj) hmr)
  | dead v => exact .dead v

theorem forget_sound {β0 : Pl} {h0 : Heap} {w0 : World} (H : HInv β h w) {t : List PV} {tmps : Array Value} (T : TInv β h w t tmps) (E : Ext β0 h0 w0 β h w) {ks : List Bool} {bs : List Name} (hf : Forget h0 t h ks bs) :
    HInv β (h.drop bs) w ∧ TInv β (h.drop bs) w (keepT ks t) tmps ∧ Ext β0 h0 w0 β (h.drop bs) w := by
  obtain ⟨h1, h2, h3, h4⟩ := hf
  have hk : ∀ b x, h.drop bs b = some x → h b = some x ∧ b ∉ bs := fun b x hx => by
    unfold Heap.drop at hx
    split at hx
    · cases hx
    · exact ⟨hx, by assumption⟩
  have hR : ∀ a v, Rd β h w a v → Rd β (h.drop bs) w a v := fun a v hr => ⟨⟨hr.1.1, fun b x hx ho => hr.1.2 b x (hk b x hx).1 ho⟩, hr.2⟩
  obtain ⟨hl, hg⟩ := keepT_get h1
  refine ⟨⟨fun b b' x x' hb hb' => H.inj b b' x x' (hk b x hb).1 (hk b' x' hb').1, fun b x hb => H.nf b x (hk b x hb).1, H.flt, fun b x hb => ?_⟩, ⟨by rw [hl]; exact T.size, fun j x hj => ?_⟩, ?_⟩
  · obtain ⟨c, e, hc, hr⟩ := H.box b x (hk b x hb).1
    refine ⟨c, e, hc, ?_⟩
    cases x with
    | row fz cs => exact ⟨hr.1, fun j y hj => ⟨(hr.2 j y hj).1, (hr.2 j y hj).2.mono hR⟩⟩
    | var cs => exact ⟨hr.1, fun j y hj => ⟨(hr.2 j y hj).1, rep_drop (hr.2 j y hj).2 fun b' hm hmr => h4 b cs hb b' hm (refsL_mem (List.mem_of_getElem? hj) hmr)⟩⟩
  · rcases hg j x hj with rfl | hx
    · exact .dead _
    · exact rep_drop (T.rep j x hx) fun b hm hmr => h3 b hm (refsL_mem (List.mem_of_getElem? hj) hmr)
  · refine ⟨E.os, E.tape, E.output, E.size, E.F, fun blk hlt hs => ?_, fun b x hb => ?_, E.sz⟩
    · obtain ⟨hs', he⟩ := E.stab blk hlt hs
      exact ⟨fun b x hb ho => hs' b x (hk b x hb).1 ho, he⟩
    · obtain ⟨x', hb', hr⟩ := E.keep b x hb
      refine ⟨x', ?_, hr⟩
      unfold Heap.drop
      rw [if_neg fun hm => by rw [h2 b hm] at hb; cases hb]
      exact hb'

end Go.Proofs.Ytnnkoghmglpnmaa.TM
