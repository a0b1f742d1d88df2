/- TM and the model: each operation that reads, or makes an address. Conditions: none; lemmas. -/
import Derived.Test.YtnnkoghmglpnmaaTmB
import Derived.DataElems
namespace Go.Proofs.Ytnnkoghmglpnmaa.TM
open Go
set_option linter.unusedVariables false
set_option linter.defProp false
set_option linter.unusedSimpArgs false

variable {P : Program} {β : Pl} {h : Heap} {w : World}

theorem add_lit (b o n : Nat) : Addr.add ⟨b, o, none⟩ n = ⟨b, o + n, none⟩ := Addr.add_lit b o n

theorem tkB_some {t : TypeId} {k : TK} (h : tkB P t = some k) : ∃ d, P.underlying t = some d ∧
    match k with
    | .sl e => d = .slice e
    | .arr n e => d = .array n e
    | .str => d = .string
    | .int k => d = .int k
    | .bool => d = .bool
    | .other => True := by
  unfold tkB at h
  split at h <;> first | (cases h; exact ⟨_, by assumption, rfl⟩) | (cases h; exact ⟨_, by assumption, trivial⟩) | cases h
theorem tk_sl {t e : TypeId} (h : tkB P t = some (.sl e)) : P.underlying t = some (.slice e) := by
  obtain ⟨d, h1, h2⟩ := tkB_some h; rw [h1, h2]
theorem tk_arr {t e : TypeId} {n : Nat} (h : tkB P t = some (.arr n e)) : P.underlying t = some (.array n e) := by
  obtain ⟨d, h1, h2⟩ := tkB_some h; rw [h1, h2]
theorem tk_str {t : TypeId} (h : tkB P t = some .str) : P.underlying t = some .string := by
  obtain ⟨d, h1, h2⟩ := tkB_some h; rw [h1, h2]
theorem tk_int {t : TypeId} {k : IntKind} (h : tkB P t = some (.int k)) : P.underlying t = some (.int k) := by
  obtain ⟨d, h1, h2⟩ := tkB_some h; rw [h1, h2]
theorem tk_bool {t : TypeId} (h : tkB P t = some .bool) : P.underlying t = some .bool := by
  obtain ⟨d, h1, h2⟩ := tkB_some h; rw [h1, h2]
theorem fieldB_some {s t : TypeId} {f o : Nat} (h : fieldB P s f = some (t, o)) : ∃ (fs : Array Field) (q : Field) (i : TypeInfo) (d : TypeDesc), P.underlying s = some (.struct fs) ∧ fs[f]? = some q ∧ q.type = t ∧ q.offset = o ∧ P.info? t = some i ∧ 0 < i.size ∧ P.underlying t = some d := by
  unfold fieldB at h
  split at h
  case h_2 => cases h
  rename_i fs hu
  split at h
  case h_2 => cases h
  rename_i q hq
  split at h
  case isFalse => cases h
  rename_i hc
  cases h
  rw [Bool.and_eq_true] at hc
  obtain ⟨d, hd⟩ := Option.isSome_iff_exists.1 hc.2
  have h1 := hc.1
  obtain ⟨i, hi⟩ : ∃ i, P.info? q.type = some i := by
    cases hi : P.info? q.type with
    | none => rw [hi] at h1; cases h1
    | some i => exact ⟨i, rfl⟩
  exact ⟨fs, q, i, d, hu, hq, rfl, rfl, hi, by simpa [hi] using h1, hd⟩
theorem infoB_some {t : TypeId} (h : infoB P t = true) : ∃ i, P.info? t = some i := Option.isSome_iff_exists.1 h
theorem undB_some {t : TypeId} (h : undB P t = true) : ∃ d, P.underlying t = some d := Option.isSome_iff_exists.1 h

theorem aggB_run {t : TypeId} {d : TypeDesc} (hu : P.underlying t = some d) (w : World) : (isAgg t).run P w = .ok (isAggB P t) w := by
  unfold isAgg isAggB
  rw [Sem.run_bind, run_underlying hu w, hu]
  cases d <;> rfl
theorem info_of_underlying {t : TypeId} {d : TypeDesc} (hu : P.underlying t = some d) : ∃ i, P.info? t = some i := by
  unfold Program.underlying at hu
  cases hi : P.info? t with
  | some i => exact ⟨i, rfl⟩
  | none => simp [hi] at hu
theorem sizeOf_run {t : TypeId} {i : TypeInfo} (hi : P.info? t = some i) (w : World) : (sizeOf t).run P w = .ok (szOf P t) w := by
  simp [sizeOf, typeInfo, hi, szOf, Program.cellsOf]

/-- Reading a run of cells whose values are known. -/
theorem loadCells_run (a : Addr) (n : Nat) (f : Nat → Value) (hf : ∀ j, j < n → w.cell? (a.add j) = some (f j)) :
    (loadCells a n).run P w = .ok ((List.range n).map f).toArray w := by
  have := run_loadCells_list (P := P) w a ((List.range n).map f) (fun j v hj => by
    rw [List.getElem?_map] at hj
    by_cases hlt : j < n
    · rw [List.getElem?_range hlt] at hj
      simp at hj
      rw [← hj]; exact hf j hlt
    · rw [List.getElem?_eq_none (by simpa using hlt)] at hj
      simp at hj)
  simpa using this

/-- A variable of type t is read, whose cells are known. -/
theorem loadVar_run {t : TypeId} {d : TypeDesc} (hu : P.underlying t = some d) (a : Addr) (f : Nat → Value)
    (hf : ∀ j, j < (if isAggB P t then szOf P t else 1) → w.cell? (a.add j) = some (f j)) :
    (loadVar t a).run P w = .ok (if isAggB P t then .agg ((List.range (szOf P t)).map f).toArray else f 0) w := by
  obtain ⟨i, hi⟩ := info_of_underlying hu
  unfold loadVar
  rw [Sem.run_bind, aggB_run hu]
  simp only [Result.andThen_ok]
  cases hb : isAggB P t with
  | true =>
    simp only [hb, if_true] at hf ⊢
    simp only [Sem.run_bind, sizeOf_run hi, Result.andThen_ok, loadCells_run a _ f hf, Sem.run_pure]
  | false =>
    simp only [hb, Bool.false_eq_true, if_false] at hf ⊢
    have h0 := hf 0 (by omega)
    rw [Addr.add_zero'] at h0
    rw [run_load, h0]

theorem getD_toArray_map (n : Nat) (f : Nat → Value) (j : Nat) (hj : j < n) : (((List.range n).map f).toArray).getD j undef = f j := by
  simp [hj]

theorem rep_agg_range {cs : List PV} {n : Nat} {f : Nat → Value} (hn : cs.length = n) (hs : ∀ j x, cs[j]? = some x → Rep β h w x (f j)) : Rep β h w (.agg cs) (.agg ((List.range n).map f).toArray) := by
  refine .agg _ _ (by simp [hn]) fun j x hj => ?_
  have hlt : j < n := by rw [← hn]; exact (List.getElem?_eq_some_iff.1 hj).1
  rw [getD_toArray_map n f j hlt]
  exact hs j x hj

theorem take_drop_get {α : Type} {cs : List α} {off n j : Nat} {x : α} (h : ((cs.drop off).take n)[j]? = some x) : j < n ∧ cs[off + j]? = some x := by
  rw [List.getElem?_take] at h
  by_cases hj : j < n
  · rw [if_pos hj, List.getElem?_drop] at h; exact ⟨hj, h⟩
  · rw [if_neg hj] at h; cases h

/-- The cells of a box. -/
theorem box_cell (H : HInv β h w) {b : Name} {x : Box} (hb : h b = some x) : ∃ c e, w.heap[β b]? = some (.cells c e (0, 0)) ∧ BoxRep β h w x c ∧
    ∀ j, j < c.size → w.cell? ⟨β b, j, none⟩ = some (c.getD j undef) := by
  obtain ⟨c, e, hc, hr⟩ := H.box b x hb
  refine ⟨c, e, hc, hr, fun j hj => ?_⟩
  rw [cell_of_row w (β b) j c e (0, 0) hc]
  simp [hj]

theorem load_sound (H : HInv β h w) {t : TypeId} {d : TypeDesc} (hu : P.underlying t = some d) {x p : PV} {v : Value} (hx : Rep β h w x v) (hl : opLoad P h t x = some p) :
    ∃ u, (Instr.loadAt t v).run P w = .ok u w ∧ Rep β h w p u := by
  cases hx with
  | ref b off top x a hb ht hv =>
    obtain ⟨c, e, hc, hr, hcell⟩ := box_cell H hb
    simp only [opLoad, hb] at hl
    have hlen : x.len = top ∧ x.len ≤ c.size := by
      cases x with
      | row fz cs => exact ⟨by by_cases h1 : cs.length = top; exact h1; simp [h1] at hl, hr.1⟩
      | var cs => exact ⟨by by_cases h1 : cs.length = top; exact h1; simp [h1] at hl, hr.1⟩
    have ha := hv hlen.1
    subst ha
    have hrun := loadVar_run (w := w) (P := P) hu ⟨β b, off, none⟩ (fun j => c.getD (off + j) undef)
    simp only [add_lit] at hrun
    simp only [Instr.loadAt, Instr.sureAddr, Sem.run_bind, Sem.run_pure, Result.andThen_ok]
    cases x with
    | row fz cs =>
      simp only [Box.len] at hlen
      simp only [hlen.1, if_true] at hl
      cases hb' : isAggB P t with
      | true =>
        simp only [hb', if_true] at hl hrun
        by_cases hfit : off + szOf P t ≤ top
        · rw [if_pos hfit] at hl
          cases hl
          refine ⟨_, hrun fun j hj => hcell _ (by omega), rep_agg_range (by simp; omega) fun j y hj => ?_⟩
          rw [List.getElem?_map] at hj
          cases hg : ((cs.drop off).take (szOf P t))[j]? with
          | none => simp [hg] at hj
          | some z =>
            simp [hg] at hj
            subst hj
            exact .i _ _ (hr.2 _ _ (take_drop_get hg).2).2
        · rw [if_neg hfit] at hl; cases hl
      | false =>
        simp only [hb', Bool.false_eq_true, if_false] at hl hrun
        cases hg : cs[off]? with
        | none => simp [hg] at hl
        | some z =>
          simp [hg] at hl
          subst hl
          have hlt : off < cs.length := (List.getElem?_eq_some_iff.1 hg).1
          refine ⟨_, hrun fun j hj => hcell _ (by omega), ?_⟩
          exact .i _ _ (hr.2 _ _ hg).2
    | var cs =>
      simp only [Box.len] at hlen
      simp only [hlen.1, if_true] at hl
      cases hb' : isAggB P t with
      | true =>
        simp only [hb', if_true] at hl hrun
        by_cases hfit : off + szOf P t ≤ top
        · rw [if_pos hfit] at hl
          cases hl
          refine ⟨_, hrun fun j hj => hcell _ (by omega), rep_agg_range (by simp; omega) fun j y hj => ?_⟩
          exact (hr.2 _ _ (take_drop_get hj).2).2
        · rw [if_neg hfit] at hl; cases hl
      | false =>
        simp only [hb', Bool.false_eq_true, if_false] at hl hrun
        have hlt : off < cs.length := (List.getElem?_eq_some_iff.1 hl).1
        refine ⟨_, hrun fun j hj => hcell _ (by omega), ?_⟩
        exact (hr.2 _ _ hl).2
  | iref cs off a f hr h1 hs =>
    simp only [opLoad] at hl
    have hrun := loadVar_run (w := w) (P := P) hu (a.add off) (fun j => f (off + j))
    simp only [Addr.add_add] at hrun
    simp only [Instr.loadAt, Instr.sureAddr, Sem.run_bind, Sem.run_pure, Result.andThen_ok]
    cases hb' : isAggB P t with
    | true =>
      simp only [hb', if_true] at hl hrun
      by_cases hfit : off + szOf P t ≤ cs.length
      · rw [if_pos hfit] at hl
        cases hl
        refine ⟨_, hrun fun j hj => (hr _ (by omega)).2, rep_agg_range (by simp; omega) fun j y hj => ?_⟩
        rw [List.getElem?_map] at hj
        cases hg : ((cs.drop off).take (szOf P t))[j]? with
        | none => simp [hg] at hj
        | some z =>
          simp [hg] at hj
          subst hj
          exact .i _ _ (hs _ _ (take_drop_get hg).2)
      · rw [if_neg hfit] at hl; cases hl
    | false =>
      simp only [hb', Bool.false_eq_true, if_false] at hl hrun
      cases hg : cs[off]? with
      | none => simp [hg] at hl
      | some z =>
        simp [hg] at hl
        subst hl
        have hlt : off < cs.length := (List.getElem?_eq_some_iff.1 hg).1
        refine ⟨_, hrun fun j hj => (hr _ (by omega)).2, ?_⟩
        exact .i _ _ (hs _ _ hg)
  | _ => simp [opLoad] at hl

/-! ### numbers -/
theorem natOf_some {p : PV} {n : Nat} (hn : natOf p = some n) {v : Value} (hp : Rep β h w p v) : ∃ (k : IntKind) (i : Int), v = .int k i ∧ 0 ≤ i ∧ i.toNat = n := by
  unfold natOf at hn
  split at hn
  · rename_i k i
    cases hp with
    | i x v hx => cases hx; split at hn
                  · cases hn; exact ⟨k, i, rfl, by assumption, rfl⟩
                  · cases hn
  · cases hn

/-! ### slices -/
theorem sk_rep {p : PV} {k : SK} (hk : p.sk = some k) : p = k.pv := by
  unfold PV.sk at hk
  split at hk <;> first | (cases hk; rfl) | cases hk
theorem sk_slice {p : PV} {k : SK} (hk : p.sk = some k) {v : Value} (hp : Rep β h w p v) : ∃ a cap, v = .slice a k.len cap ∧ k.len ≤ cap ∧ (a = none → k.len = 0 ∧ cap = 0) := by
  have := sk_rep hk; subst this
  cases k with
  | nil => cases hp with | i x v hx => cases hx; exact ⟨none, 0, rfl, Nat.le_refl _, fun _ => ⟨rfl, rfl⟩⟩
  | imm n cs => cases hp with
    | i x v hx => cases hx with
      | nil => exact ⟨none, 0, rfl, Nat.le_refl _, fun _ => ⟨rfl, rfl⟩⟩
      | l n cs a cap f hc hr h1 hs => exact ⟨some a, cap, rfl, hc, fun he => by cases he⟩
  | own b off z n top => cases hp with
    | view b off z n top x a cap hb hrow ht hn ha hv => exact ⟨a, cap, rfl, hn, ha⟩

/-- The cells of a slice, as they lie. -/
theorem sk_cells (H : HInv β h w) {p : PV} {k : SK} (hk : p.sk = some k) {z : Nat} {cs : List IV} (hc : k.cells h z = some cs) {v : Value} (hp : Rep β h w p v) :
    cs.length = k.len * z ∧ ((cs = [] ∧ ∃ cap, v = .slice none k.len cap) ∨ ∃ a cap, v = .slice (some a) k.len cap ∧ ∃ f : Nat → Value, (∀ j, j < cs.length → w.cell? (a.add j) = some (f j)) ∧ (∀ j, j < cs.length → (f j).oneCell' = true) ∧
      ∀ j x, cs[j]? = some x → RepI (Rd β h w) x (f j)) := by
  have := sk_rep hk; subst this
  cases k with
  | nil => cases hp with | i x v hx => cases hx; simp only [SK.cells] at hc; cases hc; exact ⟨by simp [SK.len], .inl ⟨rfl, 0, rfl⟩⟩
  | imm n cs' =>
    simp only [SK.cells] at hc
    by_cases hl : cs'.length = n * z
    · rw [if_pos hl] at hc; cases hc
      refine ⟨hl, ?_⟩
      cases hp with
      | i x v hx => cases hx with
        | nil => exact .inl ⟨rfl, 0, rfl⟩
        | l n cs a cap f hc hr h1 hs => exact .inr ⟨a, cap, rfl, f, fun j hj => (hr j hj).2, h1, hs⟩
    · rw [if_neg hl] at hc; cases hc
  | own b off z' n top =>
    simp only [SK.cells] at hc
    cases hp with
    | view b off z' n top x a cap hb hrow ht hn ha hv =>
      rw [hb] at hc
      cases x with
      | var _ => simp [Box.isRow] at hrow
      | row fz bs =>
        simp only at hc
        by_cases hg : bs.length = top ∧ z' = z ∧ off + n * z ≤ bs.length
        · rw [if_pos hg] at hc; cases hc
          obtain ⟨h1, h2, h3⟩ := hg
          subst h2
          have hlen : ((bs.drop off).take (n * z')).length = n * z' := by simp; omega
          refine ⟨hlen, ?_⟩
          rcases hv h1 with ⟨hn0, hc0⟩ | ⟨haa, hsz⟩
          · subst hn0
            cases a with
            | none => exact .inl ⟨by simp, cap, rfl⟩
            | some a => exact .inr ⟨a, cap, rfl, fun _ => undef, fun j hj => by simp at hj, fun j hj => by simp at hj, fun j x hj => by simp at hj⟩
          · subst haa
            obtain ⟨c, e, hcc, hr, hcell⟩ := box_cell H hb
            refine .inr ⟨_, cap, rfl, fun j => c.getD (off + j) undef, fun j hj => ?_, fun j hj => ?_, fun j x hj => ?_⟩
            · rw [add_lit]; exact hcell _ (by have := hr.1; omega)
            · have hlt : off + j < bs.length := by omega
              exact (hr.2 (off + j) bs[off + j] (List.getElem?_eq_getElem hlt)).1
            · exact (hr.2 _ _ (take_drop_get hj).2).2
        · rw [if_neg hg] at hc; cases hc
end Go.Proofs.Ytnnkoghmglpnmaa.TM
