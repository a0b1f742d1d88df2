/- TM and the rows: what the form's reading of an argument tells of it, and a function that is handed data as a call of the model. Conditions: none; lemmas. -/
import Derived.Test.YtnnkoghmglpnmaaTmS
import Derived.ProofKit
import Derived.ChangeArms
import Derived.WideShapes
import Derived.OpenShut
import Derived.Below
namespace Go.Proofs.Ytnnkoghmglpnmaa.TM
open Go Go.RowKit Go.ChangeShapes Go.WideShapes Go.ChangeAt
set_option linter.unusedVariables false
set_option linter.defProp false
set_option linter.unusedSimpArgs false

/-- The cells of a world, as they are read. -/
abbrev RC (W : World) : Addr → Value → Prop := fun a v => W.cell? a = some v
structure RepL (R : Addr → Value → Prop) (xs : List IV) (cs : List Value) : Prop where
  len : cs.length = xs.length
  one : ∀ u ∈ cs, u.oneCell' = true
  rep : ∀ (j : Nat) (x : IV) (v : Value), xs[j]? = some x → cs[j]? = some v → RepI R x v

theorem RepL.append {R : Addr → Value → Prop} {xs ys : List IV} {cs ds : List Value} (h : RepL R xs cs) (k : RepL R ys ds) : RepL R (xs ++ ys) (cs ++ ds) := by
  refine ⟨by simp [h.len, k.len], fun u hu => ?_, fun j x v hx hv => ?_⟩
  · rcases List.mem_append.1 hu with hu | hu
    · exact h.one u hu
    · exact k.one u hu
  · rw [List.getElem?_append] at hx hv
    rw [← h.len] at hx
    by_cases hj : j < cs.length
    · rw [if_pos hj] at hx hv; exact h.rep j x v hx hv
    · rw [if_neg hj] at hx hv; exact k.rep _ x v hx hv

section
variable {H : Type} {enc : TypeId × Value → H} {P : Program} {α : Type} {t : TypeId}

/-- Whatever is read at type t is one of these. -/
def OpensI (enc : TypeId × Value → H) (P : Program) (t : TypeId) (iv : α → List IV) (good : α → Prop) : Prop :=
  ∀ (W : World) (base : Nat) (spare : Nat → Bool) (held : Bool) (fuel : Nat) (cs : List Value) (x : DataW H × List MemPlace),
    DataW.trod enc P W base spare held fuel t cs = some x → ∃ a, good a ∧ RepL (RC W) (iv a) cs

theorem repL_one {R : Addr → Value → Prop} {x : Value} (h1 : x.oneCell' = true) : RepL R [.v x] [x] :=
  ⟨rfl, fun u hu => by simp at hu; rw [hu]; exact h1, fun j y v hy hv => by
    cases j with
    | zero => simp at hy hv; subst hy; subst hv; exact .v x
    | succ j => simp at hy⟩

theorem opens_int {k : IntKind} (ht : P.underlying t = some (.int k)) : OpensI enc P t (fun n : Int => [IV.v (.int k n)]) (fun n => (Lit.int k n).wf = true) := by
  intro W base spare held fuel cs x h
  obtain ⟨n, hc, _, hw⟩ := DataW.trod_int ht h
  rw [hc]
  exact ⟨n, hw, repL_one rfl⟩
theorem opens_bool (ht : P.underlying t = some .bool) : OpensI enc P t (fun b : Bool => [IV.v (.bool b)]) (fun _ => True) := by
  intro W base spare held fuel cs x h
  obtain ⟨b, hc, _⟩ := DataW.trod_bool ht h
  rw [hc]
  exact ⟨b, trivial, repL_one rfl⟩
theorem opens_string (ht : P.underlying t = some .string) : OpensI enc P t (fun s : ByteArray => [IV.v (.string s)]) (fun s => s.size ≤ maxLen) := by
  intro W base spare held fuel cs x h
  obtain ⟨s, hc, _, hl⟩ := DataW.trod_string ht h
  rw [hc]
  exact ⟨s, hl, repL_one rfl⟩

theorem cells_get {W : World} {base n : Nat} {a : Addr} {c : List Value} (h : W.cells? base a n = some c) : c.length = n ∧ ∀ (j : Nat) (u : Value), c[j]? = some u → W.cell? (a.add j) = some u := by
  unfold World.cells? at h
  split at h
  · have hl : c.length = n := by simpa using mapM_some_length h
    refine ⟨hl, fun j u hj => ?_⟩
    have hj' : j < n := by
      rw [← hl]
      exact (List.getElem?_eq_some_iff.1 hj).1
    have := mapM_some_get h j j (by simp [hj'])
    rw [this, hj]
  · simp at h

theorem opens_slice {e : TypeId} {z : Nat} {iv : α → List IV} {good : α → Prop} (ht : P.underlying t = some (.slice e)) (ho : OpensI enc P e iv good) (hz : P.cellsOf e = z) (hiv : ∀ a, (iv a).length = z) :
    OpensI enc P t (fun l : List α => [IV.l l.length (l.flatMap iv)]) (fun l => l.length ≤ maxLen ∧ ∀ a ∈ l, good a) := by
  intro W base spare held fuel cs x h
  rcases DataW.trod_slice ht h with ⟨rfl, _⟩ | ⟨a, len, cap, elems, rest, n, _, rfl, _, _, hl, hc, hel, hget, _, _⟩
  · refine ⟨[], ⟨by simp, by simp⟩, rfl, fun u hu => by simp at hu; rw [hu]; rfl, fun j y v hy hv => ?_⟩
    cases j with
    | zero => simp at hy hv; subst hy; subst hv; exact .nil
    | succ j => simp at hy
  · have hx : ∀ i : Nat, i < len → ∃ (y : α) (c : List Value), good y ∧ RepL (RC W) (iv y) c ∧ ∀ (j : Nat) (u : Value), c[j]? = some u → W.cell? (a.add (i * z + j)) = some u := by
      intro i hi
      have g := hget i hi
      rw [List.getElem?_eq_getElem (by omega)] at g
      rw [Option.bind_eq_some_iff] at g
      obtain ⟨c, hcs, htr⟩ := g
      obtain ⟨h1, h2⟩ := cells_get hcs
      obtain ⟨y, hg, hr⟩ := ho _ _ _ _ _ _ _ htr
      refine ⟨y, c, hg, hr, fun j u hj => ?_⟩
      have := h2 j u hj
      rw [hz, Addr.add_add] at this
      exact this
    have hl2 : ∀ m : Nat, m ≤ len → ∃ (l : List α) (c : List Value), l.length = m ∧ (∀ y ∈ l, good y) ∧ RepL (RC W) (l.flatMap iv) c ∧ c.length = m * z ∧ ∀ (j : Nat) (u : Value), c[j]? = some u → W.cell? (a.add j) = some u := by
      intro m
      induction m with
      | zero => exact fun _ => ⟨[], [], rfl, by simp, ⟨rfl, by simp, fun j x v hx => by simp at hx⟩, by simp, by simp⟩
      | succ m ih =>
        intro hm
        obtain ⟨l, c, h1, h2, h3, h4, h5⟩ := ih (by omega)
        obtain ⟨y, d, hg, hr, hcell⟩ := hx m (by omega)
        refine ⟨l ++ [y], c ++ d, by simp [h1], fun q hq => ?_, ?_, ?_, fun j u hj => ?_⟩
        · rcases List.mem_append.1 hq with hq | hq
          · exact h2 q hq
          · simp at hq; rw [hq]; exact hg
        · rw [List.flatMap_append, List.flatMap_cons, List.flatMap_nil, List.append_nil]
          exact h3.append hr
        · rw [List.length_append, h4, hr.len, hiv, Nat.succ_mul]
        · rw [List.getElem?_append] at hj
          by_cases hlt : j < c.length
          · rw [if_pos hlt] at hj; exact h5 j u hj
          · rw [if_neg hlt] at hj
            have := hcell _ u hj
            rw [h4] at this
            rwa [show m * z + (j - m * z) = j by omega] at this
    obtain ⟨l, c, h1, h2, h3, h4, h5⟩ := hl2 len (Nat.le_refl _)
    have hmax : maxLen = 9223372036854775807 := rfl
    refine ⟨l, ⟨by omega, h2⟩, rfl, fun u hu => by simp at hu; rw [hu]; rfl, fun j y v hy hv => ?_⟩
    cases j with
    | succ j => simp at hy
    | zero =>
      simp at hy hv
      subst hy; subst hv
      rw [← h1]
      have hcl : (l.flatMap iv).length = c.length := h3.len.symm
      refine .l _ _ a cap (fun j => c.getD j undef) (by omega) (fun j hj => ?_) (fun j hj => ?_) (fun j x hj => ?_)
      · have hlt : j < c.length := by omega
        show W.cell? (a.add j) = some _
        rw [h5 j c[j] (List.getElem?_eq_getElem hlt)]
        simp [hlt]
      · have hlt : j < c.length := by omega
        have : c.getD j undef = c[j] := by simp [hlt]
        rw [this]; exact h3.one _ (List.getElem_mem hlt)
      · have hlt : j < c.length := by have := (List.getElem?_eq_some_iff.1 hj).1; omega
        have : c.getD j undef = c[j] := by simp [hlt]
        rw [this]; exact h3.rep j x _ hj (List.getElem?_eq_getElem hlt)
end

/-- Data, handed over. -/
theorem rep_data {W : World} {x : IV} {v : Value} (h : RepI (RC W) x v) : Rep ⟨fun _ => 0, fun _ => False⟩ Heap.none W (.i x) v :=
  .i _ _ (h.mono fun a v hc => ⟨⟨fun hf => hf, shut_none _ _⟩, hc⟩)
theorem rep_agg {W : World} {xs : List IV} {cs : Array Value} (h : RepL (RC W) xs cs.toList) : Rep ⟨fun _ => 0, fun _ => False⟩ Heap.none W (.agg (xs.map .i)) (.agg cs) := by
  refine .agg _ _ (by have := h.len; simp at this; simp [this]) fun j p hj => ?_
  rw [List.getElem?_map] at hj
  cases hx : xs[j]? with
  | none => simp [hx] at hj
  | some x =>
    simp [hx] at hj; subst hj
    have hlt : j < cs.toList.length := by rw [h.len]; exact (List.getElem?_eq_some_iff.1 hx).1
    have h2 : cs.getD j undef = cs.toList[j] := by
      have : j < cs.size := by simpa using hlt
      simp [this]
    rw [h2]
    exact rep_data (h.rep j x _ hx (List.getElem?_eq_getElem hlt))

theorem reps_nil {W : World} : Reps ⟨fun _ => 0, fun _ => False⟩ Heap.none W [] #[] := ⟨rfl, fun j p hj => by simp at hj⟩
theorem reps_of {β : Pl} {h : Heap} {W : World} : ∀ (ps : List PV) (vs : List Value), ps.length = vs.length → (∀ (j : Nat) (p : PV) (v : Value), ps[j]? = some p → vs[j]? = some v → Rep β h W p v) → Reps β h W ps vs.toArray := by
  intro ps vs hl hr
  refine ⟨by simp [hl], fun j p hj => ?_⟩
  have hlt : j < vs.length := by rw [← hl]; exact (List.getElem?_eq_some_iff.1 hj).1
  have : vs.toArray.getD j undef = vs[j] := by simp [hlt]
  rw [this]
  exact hr j p _ hj (List.getElem?_eq_getElem hlt)

/-- A function that is handed data and answers a plain value: the model's call. -/
theorem CallsP.calls {P : Program} (hm : P.follows .mixedOrders = true) {f : FuncId} {args : List PV} {x : Value} (hc : CallsP P f args (.i (.v x))) {W : World} {vs : Array Value}
    (hr : Reps ⟨fun _ => 0, fun _ => False⟩ Heap.none W args vs) : Calls P f vs W fun e w' => e = .returned x ∧ Below W.heap.size W w' := by
  obtain ⟨u, hu, h1, h2⟩ := hc []
  refine (CallR_sound hm _ _ _ _ _ _ h1 ⟨fun _ => 0, fun _ => False⟩ W vs (HInv.none fun blk hb => hb.elim) hr).mono ?_
  rintro e w' ⟨rv, β', rfl, H', hrep, E⟩
  have h3 : RepP β' hu (fun a v => w'.cell? a = some v) (szW w') (.i (.v x)) rv := lowerT_rep H' hrep h2 (fun a v h => h.2) fun b x hb j v hcell => hcell
  have h4 : rv = x := by cases h3 with | i _ _ h => exact repI_v h
  refine ⟨by rw [h4], E.os, E.tape, E.output, E.size, fun k hk => (E.stab k hk (shut_none _ _)).2⟩
end Go.Proofs.Ytnnkoghmglpnmaa.TM
