/- TM and the model: loops and functions: what TM's calls come to, the model's calls come to. Conditions: none; lemmas. -/
import Derived.Test.YtnnkoghmglpnmaaTmQ
namespace Go.Proofs.Ytnnkoghmglpnmaa.TM
open Go
set_option linter.unusedVariables false
set_option linter.defProp false
set_option linter.unusedSimpArgs false

variable {P : Program} {β : Pl} {h : Heap} {w : World}

/-- What the model's code comes to. -/
def Post (β0 : Pl) (h0 : Heap) (w0 : World) (Q : Ex → List PV → Heap → Prop) : Exit → Act → World → Prop := fun e a w =>
  ∃ ex t h β, e = Ex.real ex ∧ Q ex t h ∧ HInv β h w ∧ TInv β h w t a.tmps ∧ a.defers = [] ∧ Ext β0 h0 w0 β h w

theorem W_sound (hm : P.follows .mixedOrders = true) {C : CallRel} (hC : CSound P C) {base : Name} {β0 : Pl} {h0 : Heap} {w0 : World} :
    ∀ (c : Code) (t : List PV) (h : Heap) (Q : Ex → List PV → Heap → Prop) (β : Pl) (w : World) (a : Act), HInv β h w → TInv β h w t a.tmps → a.defers = [] → Ext β0 h0 w0 β h w →
      W P C h0 base c t h Q → c.wp P (Post β0 h0 w0 Q) a w := by
  intro c
  induction c with
  | skip => intro t h Q β w a H T hd E hw; exact wp_skip ⟨.normal, t, h, β, rfl, hw, H, T, hd, E⟩
  | exit id => intro t h Q β w a H T hd E hw; exact wp_exit ⟨.exit id, t, h, β, rfl, hw, H, T, hd, E⟩
  | ret => intro t h Q β w a H T hd E hw; exact wp_ret ⟨.ret, t, h, β, rfl, hw, H, T, hd, E⟩
  | region id ops draw =>
    intro t h Q β w a H T hd E hw
    unfold W at hw
    split at hw
    · rename_i hdr
      subst hdr
      obtain ⟨effs, hok, heff⟩ := hw
      exact draw_sound hm hC hok heff (R := Q .normal) (fun t h β w a hq H T hd E => ⟨.normal, t, h, β, rfl, hq, H, T, hd, E⟩) H T hd E
    · rename_i hdr
      have : draw = false := by simpa using hdr
      subst this
      exact wp_region_list (WOps_sound hC (R := Q .normal) (fun t h β w a hq H T hd E => ⟨.normal, t, h, β, rfl, hq, H, T, hd, E⟩) _ 0 t h β w a H T hd E hw)
  | seq x y ihx ihy =>
    intro t h Q β w a H T hd E hw
    refine wp_seq (wp_mono (ihx t h _ β w a H T hd E hw) fun e a' w' hp => ?_)
    obtain ⟨ex, t', h', β', rfl, hq, H', T', hd', E'⟩ := hp
    cases ex with
    | normal => exact ihy t' h' Q β' w' a' H' T' hd' E' hq
    | exit id => exact ⟨.exit id, t', h', β', rfl, hq, H', T', hd', E'⟩
    | ret => exact ⟨.ret, t', h', β', rfl, hq, H', T', hd', E'⟩
  | cond c x y ihx ihy =>
    intro t h Q β w a H T hd E hw
    unfold W at hw
    split at hw
    · rename_i b hb
      have hc := T.opnd c
      rw [hb] at hc
      refine wp_cond (rep_plain hc) ?_
      cases b
      · exact ihy t h Q β w a H T hd E (by simpa using hw)
      · exact ihx t h Q β w a H T hd E (by simpa using hw)
    · exact hw.elim
  | block id b ih =>
    intro t h Q β w a H T hd E hw
    refine wp_block (wp_mono (ih t h _ β w a H T hd E hw) fun e a' w' hp => ?_)
    obtain ⟨ex, t', h', β', rfl, hq, H', T', hd', E'⟩ := hp
    cases ex with
    | normal => rw [if_neg (by simp)] at hq; exact ⟨.normal, t', h', β', rfl, hq, H', T', hd', E'⟩
    | ret => rw [if_neg (by simp)] at hq; exact ⟨.ret, t', h', β', rfl, hq, H', T', hd', E'⟩
    | exit id' =>
      show Exit.inBlock id _ (.exit id') a' w'
      unfold Exit.inBlock
      simp only
      by_cases hid : id' = id
      · rw [if_pos (by rw [hid])] at hq
        rw [if_pos hid]
        exact ⟨.normal, t', h', β', rfl, hq, H', T', hd', E'⟩
      · rw [if_neg (by simpa using hid)] at hq
        rw [if_neg hid]
        exact ⟨.exit id', t', h', β', rfl, hq, H', T', hd', E'⟩
  | loop b ih =>
    intro t h Q β w a H T hd E hw
    obtain ⟨n, ks, bs, hw⟩ := hw
    refine wp_loop_rounds n ?_
    induction n generalizing t h β w a with
    | zero => exact hw.elim
    | succ n ihn =>
      obtain ⟨hf, hw⟩ := hw
      obtain ⟨H1, T1, E1⟩ := forget_sound H T E hf
      rw [rounds_succ]
      refine wp_mono (ih _ _ _ β w a H1 T1 hd E1 hw) fun e a' w' hp => ?_
      obtain ⟨ex, t', h', β', rfl, hq, H', T', hd', E'⟩ := hp
      cases ex with
      | normal => exact ihn t' h' β' w' a' H' T' hd' E' hq
      | exit id => exact ⟨.exit id, t', h', β', rfl, hq, H', T', hd', E'⟩
      | ret => exact ⟨.ret, t', h', β', rfl, hq, H', T', hd', E'⟩
  | _ => intro t h Q β w a H T hd E hw; exact hw.elim

theorem resVar_sound (H : HInv β h w) {t : List PV} {a : Act} (T : TInv β h w t a.tmps) {r : ResultVar} {p : PV} (hr : resVar P t h r = some p) :
    ∃ u, (match r with | .tmp k => (pure (a.tmps.getD k undef) : Sem Value) | .cell ad ty => do loadVar ty (← asAddr (a.tmps.getD ad undef))).run P w = .ok u w ∧ Rep β h w p u := by
  cases r with
  | tmp k => cases hr; exact ⟨_, rfl, T.opnd (.tmp k)⟩
  | cell ad ty =>
    simp only [resVar] at hr
    split at hr
    · rename_i hu
      obtain ⟨d, hd⟩ := undB_some hu
      obtain ⟨u, hrun, hrep⟩ := load_sound H hd (T.opnd (.tmp ad)) hr
      refine ⟨u, ?_, hrep⟩
      have hv := T.opnd (.tmp ad)
      simp only [St.opnd, Act.eval] at hv
      have : ∃ x, a.tmps.getD ad undef = .pointer (some x) := by
        generalize t.getD ad undefP = q at hv hr
        generalize a.tmps.getD ad undef = z at hv
        cases hv with
        | ref => exact ⟨_, rfl⟩
        | iref => exact ⟨_, rfl⟩
        | _ => simp [opLoad] at hr
      obtain ⟨x, hx⟩ := this
      simp only [Act.eval, hx, Instr.loadAt, Instr.sureAddr, Sem.run_bind, Sem.run_pure, Result.andThen_ok] at hrun
      simp only [hx, asAddr, Sem.run_bind, Sem.run_pure, Result.andThen_ok]
      exact hrun
    · cases hr

theorem results_sound (H : HInv β h w) {t : List PV} {a : Act} (T : TInv β h w t a.tmps) {fn : Func} {p : PV} (hr : resultsB P fn t h = some p) : ∃ u, (results fn a.tmps).run P w = .ok u w ∧ Rep β h w p u := by
  have key : ∀ (l : List ResultVar) (ps : List PV), mapO (resVar P t h) l = some ps → ∃ us : List Value,
      (l.mapM fun (r : ResultVar) => (match r with | .tmp k => (pure (a.tmps.getD k undef) : Sem Value) | .cell ad ty => do loadVar ty (← asAddr (a.tmps.getD ad undef)))).run P w = .ok us w ∧ us.length = ps.length ∧ ∀ j x, ps[j]? = some x → Rep β h w x (us.getD j undef) := by
    intro l
    induction l with
    | nil => intro ps hm; cases hm; exact ⟨[], rfl, rfl, fun j x hj => by simp at hj⟩
    | cons r l ih =>
      intro ps hm
      unfold mapO at hm
      split at hm
      · rename_i y ys hy hys
        cases hm
        obtain ⟨u, hu, hru⟩ := resVar_sound H T hy
        obtain ⟨us, hus, hl, hs⟩ := ih ys hys
        refine ⟨u :: us, ?_, by simp [hl], fun j x hj => ?_⟩
        · rw [List.mapM_cons, Sem.run_bind]
          have hu' := hu
          rw [hu']
          simp only [Result.andThen_ok, Sem.run_bind, hus, Sem.run_pure]
        · cases j with
          | zero => simp at hj; subst hj; simpa using hru
          | succ j => simp at hj; simpa using hs j x hj
      · cases hm
  unfold resultsB at hr
  have hres : ∀ us : List Value, (fn.results.toList.mapM fun (r : ResultVar) => (match r with | .tmp k => (pure (a.tmps.getD k undef) : Sem Value) | .cell ad ty => do loadVar ty (← asAddr (a.tmps.getD ad undef)))).run P w = .ok us w →
      (results fn a.tmps).run P w = .ok (if h : us.toArray.size = 1 then us.toArray[0] else .tuple us.toArray) w := by
    intro us hus
    unfold results
    rw [Array.mapM_eq_mapM_toList]
    simp only [Sem.run_bind, Sem.run_map]
    have hus' := hus
    erw [hus']
    rfl
  split at hr
  · rename_i x hm
    cases hr
    obtain ⟨us, hus, hl, hs⟩ := key _ _ hm
    match us, hl with
    | [u], _ => exact ⟨u, by rw [hres _ hus]; rfl, by simpa using hs 0 _ rfl⟩
  · rename_i xs hne hm
    cases hr
    obtain ⟨us, hus, hl, hs⟩ := key _ _ hm
    refine ⟨.tuple us.toArray, ?_, .tup _ _ (by simpa using hl) fun j x hj => by simpa using hs j x hj⟩
    rw [hres _ hus]
    rw [dif_neg]
    intro h1
    match us, xs, hl, h1, hne with
    | [u], [x], _, _, hne => exact hne x rfl
  · cases hr

theorem init_rep {fn : Func} {args : List PV} {rargs : Array Value} (hr : Reps β h w args rargs) : TInv β h w (initT fn args) (rargs ++ Array.replicate (fn.ntmps - rargs.size) undef) := by
  unfold initT
  refine ⟨by simp [hr.1], fun j x hj => ?_⟩
  rw [List.getElem?_append] at hj
  by_cases hlt : j < args.length
  · rw [if_pos hlt] at hj
    have := hr.2 j x hj
    have h2 : (rargs ++ Array.replicate (fn.ntmps - rargs.size) undef).getD j undef = rargs.getD j undef := by
      rw [Array.getD_eq_getD_getElem?, Array.getElem?_append_left (by rw [hr.1]; exact hlt)]
      simp
    rw [h2]; exact this
  · rw [if_neg hlt] at hj
    have hx : x = undefP := by
      have := List.mem_of_getElem? hj
      exact (List.mem_replicate.1 this).2
    subst hx
    have h2 : (rargs ++ Array.replicate (fn.ntmps - rargs.size) undef).getD j undef = undef := by
      rw [Array.getD_eq_getD_getElem?, Array.getElem?_append_right (by rw [hr.1]; omega)]
      simp only [Array.getElem?_replicate]
      split <;> rfl
    rw [h2]; exact undef_rep

/-- The calls of TM are calls of the model. -/
theorem CallR_sound (hm : P.follows .mixedOrders = true) : CSound P (CallR P) := by
  intro base f args h v h' hc
  refine hc (fun base f args h v h' => ∀ (β : Pl) (w : World) (rargs : Array Value), HInv β h w → Reps β h w args rargs →
    Calls P f rargs w fun e w' => ∃ rv β', e = .returned rv ∧ HInv β' h' w' ∧ Rep β' h' w' v rv ∧ Ext β h w β' h' w') ?_
  intro base f fn c args h v h' hf hb hbody β w rargs H hr
  refine calls_of_wp hf hb ?_
  refine wp_mono (W_sound hm (C := fun base f args h v h' => ∀ (β : Pl) (w : World) (rargs : Array Value), HInv β h w → Reps β h w args rargs →
    Calls P f rargs w fun e w' => ∃ rv β', e = .returned rv ∧ HInv β' h' w' ∧ Rep β' h' w' v rv ∧ Ext β h w β' h' w') (fun base f args h v h' hh => hh) c _ h _ β w _ H (init_rep hr) rfl (Ext.refl _ _ _) hbody) fun e a' w' hp => ?_
  obtain ⟨ex, t', hh, β', rfl, ⟨hex, hres, rfl⟩, H', T', hd', E'⟩ := hp
  obtain ⟨u, hrun, hrep⟩ := results_sound H' T' hres
  rcases hex with rfl | rfl
  · exact ⟨hd', u, hrun, u, β', rfl, H', hrep, E'⟩
  · exact ⟨hd', u, hrun, u, β', rfl, H', hrep, E'⟩
end Go.Proofs.Ytnnkoghmglpnmaa.TM
