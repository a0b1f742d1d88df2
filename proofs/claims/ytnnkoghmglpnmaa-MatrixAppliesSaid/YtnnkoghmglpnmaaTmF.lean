/- TM and the model: each operation that makes memory or writes it. Conditions: none; lemmas. -/
import Derived.Test.YtnnkoghmglpnmaaTmE
import Derived.Great.BuildSlice
namespace Go.Proofs.Ytnnkoghmglpnmaa.TM
open Go
set_option linter.unusedVariables false
set_option linter.defProp false
set_option linter.unusedSimpArgs false

variable {P : Program} {β : Pl} {h : Heap} {w : World}

theorem oneP_sound {p : PV} (ho : oneP p = true) {v : Value} (hp : Rep β h w p v) : v.oneCell' = true := by
  cases hp with
  | i x v hx => cases hx with
    | v x => exact ho
    | nil => rfl
    | l => rfl
  | view => rfl
  | ref => rfl
  | clo => rfl
  | iref => simp [oneP] at ho
  | agg => simp [oneP] at ho
  | tup => simp [oneP] at ho
  | dead => simp [oneP] at ho

theorem cells_of_one {v : Value} (h : v.oneCell' = true) : v.cells = #[v] := by
  cases v <;> first | rfl | simp [Value.oneCell'] at h

/-- The cells of a value, side by side. -/
theorem cells_rep {p : PV} (ho : (cellsP p).all oneP = true) {v : Value} (hp : Rep β h w p v) :
    v.cells.size = (cellsP p).length ∧ (∀ j x, (cellsP p)[j]? = some x → Rep β h w x (v.cells.getD j undef)) ∧ ∀ u ∈ v.cells.toList, u.oneCell' = true := by
  have key : v.cells.size = (cellsP p).length ∧ (∀ j x, (cellsP p)[j]? = some x → Rep β h w x (v.cells.getD j undef)) := by
    cases hp with
    | agg cs arr hl hs => exact ⟨hl, hs⟩
    | i x v hx =>
      have h1 : v.oneCell' = true := oneP_sound (by simpa [cellsP] using ho) (.i x v hx : Rep β h w _ _)
      rw [cells_of_one h1]
      refine ⟨rfl, fun j y hj => ?_⟩
      cases j with
      | zero => simp [cellsP] at hj; subst hj; exact .i _ _ hx
      | succ j => simp [cellsP] at hj
    | view b off z n top x a cap hb hrow ht hn ha hv =>
      refine ⟨rfl, fun j y hj => ?_⟩
      cases j with
      | zero => simp [cellsP] at hj; subst hj; exact .view b off z n top x a cap hb hrow ht hn ha hv
      | succ j => simp [cellsP] at hj
    | ref b off top x a hb ht hv =>
      refine ⟨rfl, fun j y hj => ?_⟩
      cases j with
      | zero => simp [cellsP] at hj; subst hj; exact .ref b off top x a hb ht hv
      | succ j => simp [cellsP] at hj
    | clo f cs arr hl hs =>
      refine ⟨rfl, fun j y hj => ?_⟩
      cases j with
      | zero => simp [cellsP] at hj; subst hj; exact .clo f cs arr hl hs
      | succ j => simp [cellsP] at hj
    | iref => simp [cellsP, oneP] at ho
    | tup => simp [cellsP, oneP] at ho
    | dead => simp [cellsP, oneP] at ho
  refine ⟨key.1, key.2, fun u hu => ?_⟩
  obtain ⟨j, hj⟩ := List.getElem?_of_mem hu
  have hlt : j < v.cells.size := by simpa using (List.getElem?_eq_some_iff.1 hj).1
  have hlt' : j < (cellsP p).length := by rw [← key.1]; exact hlt
  have hr := key.2 j _ (List.getElem?_eq_getElem hlt')
  have : v.cells.getD j undef = u := by
    have : v.cells[j]? = some u := by simpa using hj
    simp [this]
  rw [this] at hr
  exact oneP_sound (List.all_eq_true.1 ho _ (List.getElem_mem hlt')) hr

theorem splice_get {α : Type} {cs vs : List α} {off : Nat} (hf : off + vs.length ≤ cs.length) (j : Nat) :
    (spliceL cs off vs)[j]? = if off ≤ j ∧ j < off + vs.length then vs[j - off]? else cs[j]? := by
  unfold spliceL
  rw [List.append_assoc, List.getElem?_append]
  have h1 : (cs.take off).length = off := by simp; omega
  rw [h1]
  by_cases hj : j < off
  · rw [if_pos hj, if_neg (by omega), List.getElem?_take, if_pos hj]
  · rw [if_neg hj, List.getElem?_append]
    by_cases hj2 : j - off < vs.length
    · rw [if_pos hj2, if_pos (by omega)]
    · rw [if_neg hj2, if_neg (by omega), List.getElem?_drop]
      congr 1
      omega
theorem splice_len {α : Type} {cs vs : List α} {off : Nat} (hf : off + vs.length ≤ cs.length) : (spliceL cs off vs).length = cs.length := by
  simp [spliceL]; omega

theorem splice_getD {c : Array Value} {vs : List Value} {off : Nat} (hf : off + vs.length ≤ c.size) (j : Nat) :
    (spliceL c.toList off vs).toArray.getD j undef = if off ≤ j ∧ j < off + vs.length then vs.getD (j - off) undef else c.getD j undef := by
  have := splice_get (cs := c.toList) (vs := vs) (off := off) (by simpa using hf) j
  rw [Array.getD_eq_getD_getElem?, List.getElem?_toArray, this]
  split
  · rw [List.getD_eq_getElem?_getD]
  · simp

theorem toIV_freezes {p : PV} {x : IV} {us : List (Name × Box)} (ht : toIV h p = some (x, us)) : Freezes h us := by
  unfold toIV at ht
  split at ht
  · cases ht; intro u hu; cases hu
  · rename_i b off z n top
    split at ht
    · rename_i fz cs hb
      split at ht
      · cases ht
        intro u hu
        simp at hu; subst hu
        exact ⟨fz, cs, hb, rfl⟩
      · cases ht
    · cases ht
  · cases ht
theorem toIVs_freezes : ∀ {ps : List PV} {xs : List IV} {us : List (Name × Box)}, toIVs h ps = some (xs, us) → Freezes h us
  | [], xs, us, ht => by cases ht; intro u hu; cases hu
  | p :: ps, xs, us, ht => by
    unfold toIVs at ht
    split at ht
    · rename_i x u xs' us' h1 h2
      cases ht
      intro v hv
      rcases List.mem_append.1 hv with hv | hv
      · exact toIV_freezes h1 v hv
      · exact toIVs_freezes h2 v hv
    · cases ht

theorem toIV_rep (H : HInv β h w) {p : PV} {x : IV} {us : List (Name × Box)} (ht : toIV h p = some (x, us)) {v : Value} (hp : Rep β h w p v) {h' : Heap} (H' : HInv β h' w) (E : Ext β h w β h' w)
    (hu : ∀ u ∈ us, h' u.1 = some u.2) : RepI (Rd β h' w) x v := by
  unfold toIV at ht
  split at ht
  · cases ht
    cases hp with | i x v hx => exact hx.mono fun a v => Rd.mono E
  · rename_i b off z n top
    split at ht
    · rename_i fz cs hb
      split at ht
      · rename_i hc
        cases ht
        have hu' := hu _ (List.mem_singleton.2 rfl)
        simp only at hu'
        have hp' := RepP.mono H E hp
        cases hp' with
        | view b off z n top x' a cap hb' hrow ht' hn ha hv =>
          rw [hu'] at hb'; cases hb'
          rcases hv hc.1 with ⟨h0, hc0⟩ | ⟨h0, hs0⟩
          · subst h0
            cases a with
            | none => simpa [hc0] using (RepI.nil : RepI (Rd β h' w) (.l 0 []) (.slice none 0 0))
            | some a => exact .l _ _ a cap (fun _ => undef) hn (fun j hj => by simp at hj) (fun j hj => by simp at hj) (fun j y hj => by simp at hj)
          · subst h0
            obtain ⟨c, e, hcc, hr, hcell⟩ := box_cell H' hu'
            have hlen : ((cs.drop off).take (n * z)).length = n * z := by simp; omega
            refine .l _ _ _ cap (fun j => c.getD (off + j) undef) hn (fun j hj => ⟨?_, ?_⟩) (fun j hj => ?_) (fun j y hj => ?_)
            · rw [add_lit]
              refine ⟨H'.nf _ _ hu', ?_⟩
              intro b2 y hb2 ho he
              have := H'.inj b2 b y _ hb2 hu' he
              subst this
              rw [hu'] at hb2; cases hb2
              simp [Box.open] at ho
            · rw [add_lit]; exact hcell _ (by have := hr.1; omega)
            · have hlt : off + j < cs.length := by omega
              exact (hr.2 (off + j) cs[off + j] (List.getElem?_eq_getElem hlt)).1
            · exact (hr.2 _ _ (take_drop_get hj).2).2
      · cases ht
    · cases ht
  · cases ht

theorem toIVs_rep (H : HInv β h w) {h' : Heap} (H' : HInv β h' w) (E : Ext β h w β h' w) : ∀ {ps : List PV} {xs : List IV} {us : List (Name × Box)}, toIVs h ps = some (xs, us) → (∀ u ∈ us, h' u.1 = some u.2) →
    xs.length = ps.length ∧ ∀ (j : Nat) (p : PV) (x : IV) (v : Value), ps[j]? = some p → xs[j]? = some x → Rep β h w p v → RepI (Rd β h' w) x v
  | [], xs, us, ht, _ => by
    cases ht
    refine ⟨rfl, ?_⟩
    intro j p x v hj
    simp at hj
  | p :: ps, xs, us, ht, hu => by
    unfold toIVs at ht
    split at ht
    · rename_i x u xs' us' h1 h2
      cases ht
      obtain ⟨hl, hr⟩ := toIVs_rep H H' E h2 fun u hu' => hu u (List.mem_append.2 (.inr hu'))
      refine ⟨by simp [hl], fun j q y v hj hy hq => ?_⟩
      cases j with
      | zero =>
        simp at hj hy; subst hj; subst hy
        exact toIV_rep H h1 hq H' E fun u hu' => hu u (List.mem_append.2 (.inl hu'))
      | succ j => simp at hj hy; exact hr j q y v hj hy hq
    · cases ht

/-- Behind the freezing of all that a conversion asks for. -/
theorem frozen_ups (H : HInv β h w) {us : List (Name × Box)} (hF : Freezes h us) : ∀ u ∈ us, h.ups us u.1 = some u.2 := by
  intro u hu
  obtain ⟨fz, cs, hb, he⟩ := hF u hu
  obtain ⟨_, _, _, hy⟩ := freezes us H hF
  obtain ⟨fz', cs', h3, h4⟩ := hy u.1 (List.mem_map_of_mem hu)
  rw [hb] at h3; cases h3
  rw [h4, he]
theorem ups_not (H : HInv β h w) {us : List (Name × Box)} (hF : Freezes h us) {b : Name} (hb : b ∉ us.map (·.1)) : h.ups us b = h b := (freezes us H hF).2.2.1 b hb

/-! ### storing -/
def Does (P : Program) (β : Pl) (h : Heap) (w : World) {α : Type} (s : Sem α) (us : List (Name × Box)) (R : Pl → Heap → World → α → Prop) : Prop :=
  ∃ β' w' v, s.run P w = .ok v w' ∧ HInv β' (h.ups us) w' ∧ Ext β h w β' (h.ups us) w' ∧ R β' (h.ups us) w' v

theorem store_sound (H : HInv β h w) {t : TypeId} {i : TypeInfo} (hi : P.info? t = some i) {x p : PV} {a v : Value} (hx : Rep β h w x a) (hv : Rep β h w p v) {us : List (Name × Box)} (hp : opStore P h t x p = some us) :
    Does P β h w (Instr.storeAt t a v) us fun _ _ _ _ => True := by
  unfold opStore at hp
  cases hx with
  | ref b off top x a hb ht hva =>
    simp only [hb] at hp
    obtain ⟨c, e, hc, hr, hcell⟩ := box_cell H hb
    cases x with
    | var cs =>
      simp only at hp
      split at hp
      case isFalse => cases hp
      rename_i hcond
      obtain ⟨h1, h2, h3, h4⟩ := hcond
      cases hp
      obtain ⟨hsz, hcr, hone⟩ := cells_rep h4 hv
      have ha := hva h1; subst ha
      have hfit : off + v.cells.toList.length ≤ c.size := by have := hr.1; simp; omega
      have hst := run_storeCells_at P (β b) off e v.cells.toList 0 c w hc (by simpa using hfit) hone
      simp only [Nat.add_zero] at hst
      have hsp : (spliceL c.toList off v.cells.toList).toArray.size = c.size := by simp [splice_len (cs := c.toList) (vs := v.cells.toList) (off := off) (by simpa using hfit)]
      have hx' : (Box.var (spliceL cs off (cellsP p))).len = (Box.var cs).len := by simp [Box.len, splice_len (cs := cs) (vs := cellsP p) (off := off) (by omega)]
      have E := Ext.write (x' := .var (spliceL cs off (cellsP p))) H hb rfl rfl hc hsp rfl (Nat.le_of_eq hx'.symm)
      refine ⟨β, _, (), ?_, ?_, E, trivial⟩
      · simp only [Instr.storeAt, Instr.sureAddr, Sem.run_bind, Sem.run_pure, Result.andThen_ok, storeVar, sizeOf_run hi]
        rw [if_neg (by omega)]
        simpa [spliceL] using hst
      · refine HInv.write H hb rfl rfl hc hsp rfl (Nat.le_of_eq hx'.symm) ⟨?_, fun j y hj => ?_⟩
        · rw [hsp, splice_len (by omega)]; exact hr.1
        · rw [splice_getD hfit]
          rw [splice_get (by omega)] at hj
          have hvl : v.cells.toList.length = (cellsP p).length := by simpa using hsz
          rw [hvl]
          split at hj
          · rename_i hin
            rw [if_pos hin]
            have h5 := hcr _ _ hj
            have h6 : v.cells.toList.getD (j - off) undef = v.cells.getD (j - off) undef := by simp
            rw [h6]
            exact ⟨oneP_sound (List.all_eq_true.1 h4 _ (List.mem_of_getElem? hj)) h5, RepP.mono H E h5⟩
          · rename_i hin
            rw [if_neg hin]
            exact ⟨(hr.2 j y hj).1, RepP.mono H E (hr.2 j y hj).2⟩
    | row fz cs =>
      cases fz with
      | true => cases hp
      | false =>
        simp only at hp
        split at hp
        case h_2 => cases hp
        rename_i vs us' hiv
        split at hp
        case isFalse => cases hp
        rename_i hcond
        obtain ⟨h1, h2, h3, h4, h5⟩ := hcond
        cases hp
        have hF := toIVs_freezes hiv
        obtain ⟨E0, H0, hnot, _⟩ := freezes us' H hF
        have hbn : b ∉ us'.map (·.1) := fun hm => by
          obtain ⟨u, hu, he⟩ := List.mem_map.1 hm
          have := List.all_eq_true.1 h5 u hu
          simp [he] at this
        have hb0 : h.ups us' b = some (.row false cs) := by rw [hnot b hbn]; exact hb
        obtain ⟨hl, hri⟩ := toIVs_rep H H0 E0 hiv (frozen_ups H hF)
        obtain ⟨hsz, hcr, hone⟩ := cells_rep h4 hv
        have ha := hva h1; subst ha
        obtain ⟨c0, e0, hc0, hr0⟩ := H0.box b _ hb0
        rw [hc] at hc0; cases hc0
        have hfit : off + v.cells.toList.length ≤ c.size := by have := hr.1; simp; omega
        have hst := run_storeCells_at P (β b) off e v.cells.toList 0 c w hc (by simpa using hfit) hone
        simp only [Nat.add_zero] at hst
        have hsp : (spliceL c.toList off v.cells.toList).toArray.size = c.size := by simp [splice_len (cs := c.toList) (vs := v.cells.toList) (off := off) (by simpa using hfit)]
        have hx' : (Box.row false (spliceL cs off vs)).len = (Box.row false cs).len := by simp [Box.len, splice_len (cs := cs) (vs := vs) (off := off) (by omega)]
        have E := Ext.write (x' := .row false (spliceL cs off vs)) H0 hb0 rfl rfl hc hsp rfl (Nat.le_of_eq hx'.symm)
        unfold Does
        rw [Heap.ups_append, Heap.ups_cons, Heap.ups_nil]
        refine ⟨β, _, (), ?_, ?_, E0.trans E, trivial⟩
        · simp only [Instr.storeAt, Instr.sureAddr, Sem.run_bind, Sem.run_pure, Result.andThen_ok, storeVar, sizeOf_run hi]
          rw [if_neg (by omega)]
          simpa [spliceL] using hst
        · refine HInv.write H0 hb0 rfl rfl hc hsp rfl (Nat.le_of_eq hx'.symm) ⟨?_, fun j y hj => ?_⟩
          · rw [hsp, splice_len (by omega)]; exact hr.1
          · rw [splice_getD hfit]
            rw [splice_get (by omega)] at hj
            have hvl : v.cells.toList.length = vs.length := by simp; omega
            rw [hvl]
            split at hj
            · rename_i hin
              rw [if_pos hin]
              have hlt := (List.getElem?_eq_some_iff.1 hj).1
              have hlt' : j - off < (cellsP p).length := by omega
              have h6 : v.cells.toList.getD (j - off) undef = v.cells.getD (j - off) undef := by simp
              rw [h6]
              have h7 := hcr _ _ (List.getElem?_eq_getElem hlt')
              exact ⟨oneP_sound (List.all_eq_true.1 h4 _ (List.getElem_mem hlt')) h7, (hri _ _ _ _ (List.getElem?_eq_getElem hlt') hj h7).mono fun a v => Rd.mono E⟩
            · rename_i hin
              rw [if_neg hin]
              exact ⟨(hr0.2 j y hj).1, (hr0.2 j y hj).2.mono fun a v => Rd.mono E⟩
  | _ => simp at hp
end Go.Proofs.Ytnnkoghmglpnmaa.TM
