/- TM and the model: calls that are handed data alone. Conditions: none; lemmas. -/
import Derived.Test.YtnnkoghmglpnmaaTmL
namespace Go.Proofs.Ytnnkoghmglpnmaa.TM
open Go
set_option linter.unusedVariables false
set_option linter.defProp false
set_option linter.unusedSimpArgs false

variable {P : Program} {β : Pl} {h : Heap} {w : World}

/-- A list of values, as they are. -/
def Reps (β : Pl) (h : Heap) (w : World) (ps : List PV) (vs : Array Value) : Prop := vs.size = ps.length ∧ ∀ j p, ps[j]? = some p → Rep β h w p (vs.getD j undef)

/-- What the model owes for a relation of calls. -/
def CSound (P : Program) (C : CallRel) : Prop := ∀ base f args h v h', C base f args h v h' → ∀ (β : Pl) (w : World) (rargs : Array Value), HInv β h w → Reps β h w args rargs →
  Calls P f rargs w fun e w' => ∃ rv β', e = .returned rv ∧ HInv β' h' w' ∧ Rep β' h' w' v rv ∧ Ext β h w β' h' w'

theorem mapO_get {α γ : Type} {f : α → Option γ} : ∀ {l : List α} {r : List γ}, mapO f l = some r → r.length = l.length ∧ ∀ (j : Nat) (x : α), l[j]? = some x → ∃ y, f x = some y ∧ r[j]? = some y
  | [], r, h => by cases h; exact ⟨rfl, fun j x hj => by simp at hj⟩
  | x :: l, r, h => by
    unfold mapO at h
    split at h
    · rename_i y ys hy hys
      cases h
      obtain ⟨hl, hg⟩ := mapO_get hys
      refine ⟨by simp [hl], fun j z hj => ?_⟩
      cases j with
      | zero => simp at hj; subst hj; exact ⟨y, hy, rfl⟩
      | succ j => simp at hj; simpa using hg j z hj
    · cases h

theorem lowerC_rep {h1 : Heap} (H1 : HInv β h1 w) {R : Addr → Value → Prop} {β0 : Pl} {h0 : Heap} {S0 : Nat → Nat} {p q : PV} {v : Value} (hp : Rep β h1 w p v) (hl : lowerC h p = some q)
    (hsame : ∀ b ∈ boxesC p, ∀ fz cs, h b = some (.row fz cs) → ∃ fz', h1 b = some (.row fz' cs))
    (hR1 : ∀ a v, Rd β h1 w a v → R a v) (hR2 : ∀ b ∈ boxesC p, ∀ x, h1 b = some x → ∀ j v, w.cell? ⟨β b, j, none⟩ = some v → R ⟨β b, j, none⟩ v) : RepP β0 h0 R S0 q v := by
  unfold lowerC at hl
  split at hl
  · cases hl
    rw [rep_plain hp]
    exact .i _ _ .nil
  · cases hl
    cases hp with | i x v hx => exact .i _ _ (hx.mono hR1)
  · cases hl
    cases hp with | iref cs off a f hr h1 hs => exact .iref _ _ a f (fun j hj => hR1 _ _ (hr j hj)) h1 fun j x hj => (hs j x hj).mono hR1
  · rename_i b off z n top
    split at hl
    case h_2 => cases hl
    rename_i fz cs hb
    split at hl
    case isFalse => cases hl
    rename_i hc
    cases hl
    obtain ⟨fz', hb1⟩ := hsame b (by simp [boxesC]) fz cs hb
    have hR3 := hR2 b (by simp [boxesC]) _ hb1
    cases hp with
    | view b off z n top x a cap hbx hrow ht hn ha hva =>
      rw [hb1] at hbx; cases hbx
      rcases hva hc.1 with ⟨h0, hc0⟩ | ⟨h0, hs0⟩
      · subst h0
        cases a with
        | none => rw [hc0]; simpa using (RepP.i (β := β0) (h := h0) (S := S0) _ _ (RepI.nil (R := R)))
        | some a => exact .i _ _ (.l _ _ a cap (fun _ => undef) hn (fun j hj => by simp at hj) (fun j hj => by simp at hj) (fun j y hj => by simp at hj))
      · subst h0
        obtain ⟨c, e, hcc, hr, hcell⟩ := box_cell H1 hb1
        have hlen : ((cs.drop off).take (n * z)).length = n * z := by simp; omega
        refine .i _ _ (.l _ _ _ cap (fun j => c.getD (off + j) undef) hn (fun j hj => ?_) (fun j hj => ?_) (fun j y hj => ?_))
        · rw [add_lit]
          exact hR3 _ _ (hcell _ (by have := hr.1; omega))
        · have hlt : off + j < cs.length := by omega
          exact (hr.2 (off + j) cs[off + j] (List.getElem?_eq_getElem hlt)).1
        · exact (hr.2 _ _ (take_drop_get hj).2).2.mono hR1
  · cases hl

theorem lowerA_rep {h1 : Heap} (H1 : HInv β h1 w) {R : Addr → Value → Prop} {β0 : Pl} {h0 : Heap} {S0 : Nat → Nat} {p q : PV} {v : Value} (hp : Rep β h1 w p v) (hl : lowerA h p = some q)
    (hsame : ∀ b ∈ boxesA p, ∀ fz cs, h b = some (.row fz cs) → ∃ fz', h1 b = some (.row fz' cs))
    (hR1 : ∀ a v, Rd β h1 w a v → R a v) (hR2 : ∀ b ∈ boxesA p, ∀ x, h1 b = some x → ∀ j v, w.cell? ⟨β b, j, none⟩ = some v → R ⟨β b, j, none⟩ v) : RepP β0 h0 R S0 q v := by
  unfold lowerA at hl
  split at hl
  · rename_i cs
    cases hm : mapO (lowerC h) cs with
    | none => simp [hm] at hl
    | some qs =>
      simp [hm] at hl
      subst hl
      obtain ⟨hlen, hg⟩ := mapO_get hm
      cases hp with
      | agg cs arr hla hs =>
        refine .agg _ _ (by omega) fun j x hj => ?_
        have hlt : j < cs.length := by rw [← hlen]; exact (List.getElem?_eq_some_iff.1 hj).1
        obtain ⟨y, hy, hqy⟩ := hg j _ (List.getElem?_eq_getElem hlt)
        rw [hqy] at hj; cases hj
        have hmem : cs[j] ∈ cs := List.getElem_mem hlt
        exact lowerC_rep H1 (hs j _ (List.getElem?_eq_getElem hlt)) hy (fun b hb => hsame b (List.mem_flatMap.2 ⟨_, hmem, hb⟩)) hR1 fun b hb => hR2 b (List.mem_flatMap.2 ⟨_, hmem, hb⟩)
  · rename_i hn
    have : boxesA p = boxesC p := by cases p <;> first | rfl | exact absurd rfl (hn _)
    rw [this] at hsame hR2
    exact lowerC_rep H1 hp hl hsame hR1 hR2

theorem lowerT_rep {h1 : Heap} (H1 : HInv β h1 w) {R : Addr → Value → Prop} {β0 : Pl} {h0 : Heap} {S0 : Nat → Nat} {p q : PV} {v : Value} (hp : Rep β h1 w p v) (hl : lowerT h1 p = some q)
    (hR1 : ∀ a v, Rd β h1 w a v → R a v) (hR2 : ∀ b x, h1 b = some x → ∀ j v, w.cell? ⟨β b, j, none⟩ = some v → R ⟨β b, j, none⟩ v) : RepP β0 h0 R S0 q v := by
  unfold lowerT at hl
  split at hl
  · rename_i cs
    cases hm : mapO (lowerA h1) cs with
    | none => simp [hm] at hl
    | some qs =>
      simp [hm] at hl
      subst hl
      obtain ⟨hlen, hg⟩ := mapO_get hm
      cases hp with
      | tup cs arr hla hs =>
        refine .tup _ _ (by omega) fun j x hj => ?_
        have hlt : j < cs.length := by rw [← hlen]; exact (List.getElem?_eq_some_iff.1 hj).1
        obtain ⟨y, hy, hqy⟩ := hg j _ (List.getElem?_eq_getElem hlt)
        rw [hqy] at hj; cases hj
        exact lowerA_rep H1 (hs j _ (List.getElem?_eq_getElem hlt)) hy (fun b _ fz cs hb => ⟨fz, hb⟩) hR1 fun b _ => hR2 b
  · exact lowerA_rep H1 hp hl (fun b _ fz cs hb => ⟨fz, hb⟩) hR1 fun b _ => hR2 b

theorem scalC_rep {R R' : Addr → Value → Prop} {β0 β1 : Pl} {h0 h1 : Heap} {S0 S1 : Nat → Nat} {p : PV} {v : Value} (hs : scalC p = true) (hp : RepP β0 h0 R S0 p v) : RepP β1 h1 R' S1 p v := by
  unfold scalC at hs
  split at hs
  · cases hp with | i x v hx => cases hx; exact .i _ _ (.v _)
  · cases hs
theorem scalA_rep {R R' : Addr → Value → Prop} {β0 β1 : Pl} {h0 h1 : Heap} {S0 S1 : Nat → Nat} {p : PV} {v : Value} (hs : scalA p = true) (hp : RepP β0 h0 R S0 p v) : RepP β1 h1 R' S1 p v := by
  unfold scalA at hs
  split at hs
  · cases hp with | agg cs arr hl hr => exact .agg _ _ hl fun j x hj => scalC_rep (List.all_eq_true.1 hs x (List.mem_of_getElem? hj)) (hr j x hj)
  · exact scalC_rep hs hp
theorem scalT_rep {R R' : Addr → Value → Prop} {β0 β1 : Pl} {h0 h1 : Heap} {S0 S1 : Nat → Nat} {p : PV} {v : Value} (hs : scalT p = true) (hp : RepP β0 h0 R S0 p v) : RepP β1 h1 R' S1 p v := by
  unfold scalT at hs
  split at hs
  · cases hp with | tup cs arr hl hr => exact .tup _ _ hl fun j x hj => scalA_rep (List.all_eq_true.1 hs x (List.mem_of_getElem? hj)) (hr j x hj)
  · exact scalA_rep hs hp

theorem boxesC_row {R : Addr → Value → Prop} {S : Nat → Nat} {p : PV} {v : Value} (hp : RepP β h R S p v) {b : Name} (hb : b ∈ boxesC p) {x : Box} (hx : h b = some x) : x.isRow = true := by
  unfold boxesC at hb
  split at hb
  · simp at hb; subst hb
    cases hp with | view b off z n top x' a cap hb' hrow ht hn ha hv => rw [hx] at hb'; cases hb'; exact hrow
  · simp at hb
theorem boxesA_row {R : Addr → Value → Prop} {S : Nat → Nat} {p : PV} {v : Value} (hp : RepP β h R S p v) {b : Name} (hb : b ∈ boxesA p) {x : Box} (hx : h b = some x) : x.isRow = true := by
  unfold boxesA at hb
  split at hb
  · obtain ⟨q, hq, hbq⟩ := List.mem_flatMap.1 hb
    cases hp with
    | agg cs arr hl hs =>
      obtain ⟨j, hj⟩ := List.getElem?_of_mem hq
      exact boxesC_row (hs j q hj) hbq hx
  · exact boxesC_row hp hb hx
theorem freezeOf_freezes (h : Heap) (bs : List Name) : Freezes h (freezeOf h bs) := by
  intro u hu
  obtain ⟨b, hb, he⟩ := List.mem_filterMap.1 hu
  split at he
  · rename_i fz cs hh
    cases he
    exact ⟨fz, cs, hh, rfl⟩
  · cases he
theorem freezeOf_mem {h : Heap} {bs : List Name} {b : Name} (hb : b ∈ bs) {fz : Bool} {cs : List IV} (hh : h b = some (.row fz cs)) : (b, Box.row true cs) ∈ freezeOf h bs :=
  List.mem_filterMap.2 ⟨b, hb, by simp [hh]⟩

/-- The callee changes nothing that was there. -/
theorem Ext.over {β0 β1 : Pl} {hu : Heap} {w' : World} (H : HInv β h w) (E : Ext β0 Heap.none w β1 hu w') : Ext β h w β h w' ∧ HInv β h w' := by
  have E' : Ext β h w β h w' := ⟨E.os, E.tape, E.output, E.size, rfl, fun blk hl hs => ⟨hs, (E.stab blk hl fun b x hb => by cases hb).2⟩, fun b x hb => ⟨x, hb, rfl, Nat.le_refl _, fun _ => rfl⟩, E.sz⟩
  refine ⟨E', H.inj, H.nf, fun blk hF => Nat.lt_of_lt_of_le (H.flt blk hF) E.size, fun b x hb => ?_⟩
  obtain ⟨c, e, hc, hr⟩ := H.box b x hb
  refine ⟨c, e, ?_, hr.mono H E'⟩
  rw [(E.stab (β b) (H.lt hb) fun b x hb => by cases hb).2]
  exact hc

theorem HInv.none {β : Pl} {w : World} (hF : ∀ blk, β.F blk → blk < w.heap.size) : HInv β Heap.none w := by
  refine ⟨?_, ?_, hF, ?_⟩
  · intro b b' x x' hb; cases hb
  · intro b x hb; cases hb
  · intro b x hb; cases hb
theorem shut_none (β : Pl) (blk : Nat) : Shut β Heap.none blk := by
  intro b x hb; cases hb

theorem pure_sound {C : CallRel} (hC : CSound P C) (H : HInv β h w) {s : Name} {g : FuncId} {args : List PV} {rargs : Array Value} (hr : Reps β h w args rargs) {v : PV} {us : List (Name × Box)} (hp : PureCall C s g args h v us) :
    Calls P g rargs w fun e w' => ∃ rv β', e = .returned rv ∧ HInv β' (h.ups us) w' ∧ Rep β' (h.ups us) w' v rv ∧ Ext β h w β' (h.ups us) w' := by
  obtain ⟨largs, u, hu, hla, hc, hlu, hus⟩ := hp
  obtain ⟨hlen, hg⟩ := mapO_get hla
  by_cases hsc : scalT v = true
  · rw [if_pos hsc] at hus
    subst hus
    have H0 : HInv β Heap.none w := HInv.none H.flt
    refine (hC _ _ _ _ _ _ hc β w rargs H0 ⟨by rw [hlen]; exact hr.1, fun j q hj => ?_⟩).mono ?_
    · have hlt : j < args.length := by rw [← hlen]; exact (List.getElem?_eq_some_iff.1 hj).1
      obtain ⟨y, hy, hqy⟩ := hg j _ (List.getElem?_eq_getElem hlt)
      rw [hqy] at hj; cases hj
      exact lowerA_rep H (hr.2 j _ (List.getElem?_eq_getElem hlt)) hy (fun b _ fz cs hb => ⟨fz, hb⟩) (fun a v hrd => ⟨⟨hrd.1.1, shut_none _ _⟩, hrd.2⟩) fun b _ x hb j v hcell => ⟨⟨H.nf b x hb, shut_none _ _⟩, hcell⟩
    · rintro e w' ⟨rv, β1, rfl, H1, hrep, E1⟩
      obtain ⟨E2, H2⟩ := Ext.over H E1
      refine ⟨rv, β, rfl, H2, ?_, E2⟩
      have : RepP β1 hu (fun a v => w'.cell? a = some v) (szW w') v rv := lowerT_rep H1 hrep hlu (fun a v h => h.2) fun b x hb j v hcell => hcell
      exact scalT_rep hsc this
  · rw [if_neg hsc] at hus
    have hF : Freezes h us := by rw [hus]; exact freezeOf_freezes h _
    obtain ⟨Ef, Hf, hnot, hyes⟩ := freezes us H hF
    generalize hhf : h.ups us = hf at *
    let β0 : Pl := ⟨β.b, fun blk => β.F blk ∨ ∃ b x, hf b = some x ∧ x.open = true ∧ β b = blk⟩
    have H0 : HInv β0 Heap.none w := HInv.none fun blk hb => by
      rcases hb with hb | ⟨b, x, hb, _, rfl⟩
      · exact H.flt blk hb
      · exact Hf.lt hb
    have hstab : ∀ blk, Stable β hf blk → ¬ β0.F blk := fun blk hs hb => by
      rcases hb with hb | ⟨b, x, hb, ho, he⟩
      · exact hs.1 hb
      · exact hs.2 b x hb ho he
    have hstab' : ∀ blk, ¬ β0.F blk → Stable β hf blk := fun blk hs => ⟨fun hb => hs (.inl hb), fun b x hb ho he => hs (.inr ⟨b, x, hb, ho, he⟩)⟩
    have hfro : ∀ b ∈ args.flatMap boxesA, ∀ fz cs, h b = some (.row fz cs) → hf b = some (.row true cs) := fun b hb fz cs hh => by
      have hmem : b ∈ us.map (·.1) := by rw [hus]; exact List.mem_map.2 ⟨_, freezeOf_mem hb hh, rfl⟩
      obtain ⟨fz', cs', h1, h2⟩ := hyes b hmem
      rw [hh] at h1; cases h1
      exact h2
    refine (hC _ _ _ _ _ _ hc β0 w rargs H0 ⟨by rw [hlen]; exact hr.1, fun j q hj => ?_⟩).mono ?_
    · have hlt : j < args.length := by rw [← hlen]; exact (List.getElem?_eq_some_iff.1 hj).1
      obtain ⟨y, hy, hqy⟩ := hg j _ (List.getElem?_eq_getElem hlt)
      rw [hqy] at hj; cases hj
      have hmem : args[j] ∈ args := List.getElem_mem hlt
      refine lowerA_rep Hf (RepP.mono H Ef (hr.2 j _ (List.getElem?_eq_getElem hlt))) hy (fun b hb fz cs hh => ⟨true, hfro b (List.mem_flatMap.2 ⟨_, hmem, hb⟩) fz cs hh⟩)
        (fun a v hrd => ⟨⟨hstab _ hrd.1, shut_none _ _⟩, hrd.2⟩) fun b hb x hbx jj v hcell => ⟨⟨hstab _ ?_, shut_none _ _⟩, hcell⟩
      refine ⟨Hf.nf b x hbx, fun b2 x2 hb2 ho he => ?_⟩
      have := Hf.inj b2 b x2 x hb2 hbx he
      subst this
      obtain ⟨x0, hx0, hrow0, _⟩ : ∃ x0, h b2 = some x0 ∧ x0.isRow = true ∧ True := by
        by_cases hm : b2 ∈ us.map (·.1)
        · obtain ⟨fz', cs', h1, h2⟩ := hyes b2 hm
          exact ⟨_, h1, rfl, trivial⟩
        · have h1 := hnot b2 hm
          rw [hb2] at h1
          refine ⟨x2, h1.symm, ?_, trivial⟩
          -- a view's box is a row
          have hrp := hr.2 j _ (List.getElem?_eq_getElem hlt)
          exact boxesA_row hrp hb h1.symm
      cases x0 with
      | var _ => simp [Box.isRow] at hrow0
      | row fz cs =>
        have := hfro b2 (List.mem_flatMap.2 ⟨_, hmem, hb⟩) fz cs hx0
        rw [hb2] at this; cases this
        simp [Box.open] at ho
    · rintro e w' ⟨rv, β1, rfl, H1, hrep, E1⟩
      obtain ⟨E2, H2⟩ := Ext.over Hf E1
      refine ⟨rv, β, rfl, H2, ?_, Ef.trans E2⟩
      refine lowerT_rep H1 hrep hlu (fun a v hrd => ⟨hstab' _ ?_, hrd.2⟩) fun b x hb j v hcell => ⟨hstab' _ ?_, hcell⟩
      · have := hrd.1.1; rw [E1.F] at this; exact this
      · have := H1.nf b x hb; rw [E1.F] at this; exact this
end Go.Proofs.Ytnnkoghmglpnmaa.TM
