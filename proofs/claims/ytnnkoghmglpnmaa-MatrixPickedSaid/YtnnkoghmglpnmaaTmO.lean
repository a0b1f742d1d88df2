/- TM: a region whose order the model draws: whatever the order, it comes to what the text's order comes to. Conditions: none; definitions and lemmas. -/
import Derived.Test.YtnnkoghmglpnmaaTmN
namespace Go.Proofs.Ytnnkoghmglpnmaa.TM
open Go
set_option linter.unusedVariables false
set_option linter.defProp false
set_option linter.unusedSimpArgs false

theorem LocalR.stepR {P : Program} {C : CallRel} {s : Name} {t : List PV} {h : Heap} {op : Op} {e : Eff} (hl : LocalR P C s t h op e) : StepR P C s t h op e.val (h.ups e.ups) := by
  rcases hl with ⟨out, ho, rfl⟩ | ⟨c, g, args, v, us, h1, h2, h3, h4, rfl⟩
  · exact .inl ⟨out, ho, rfl, rfl⟩
  · exact .inr ⟨c, g, args, h1, h2, h3, .inr ⟨us, h4, rfl⟩⟩

/-! ### what an operation hangs on -/
theorem mem_refsL {ps : List PV} {p : PV} (hp : p ∈ ps) {b : Name} (hb : b ∈ refsP p) : b ∈ refsL ps := refsL_mem hp hb

section
variable {P : Program} {h h' : Heap}

theorem opLoad_local {t : TypeId} {x : PV} (hx : ∀ b ∈ refsP x, h b = h' b) : opLoad P h t x = opLoad P h' t x := by
  cases x <;> first | rfl | (simp only [opLoad]; rw [hx _ (by simp [refsP])])
theorem sk_cells_local {x : PV} {k : SK} (hk : x.sk = some k) (hx : ∀ b ∈ refsP x, h b = h' b) (z : Nat) : k.cells h z = k.cells h' z := by
  have := sk_rep hk; subst this
  cases k with
  | nil => rfl
  | imm n cs => rfl
  | own b off z' n top => simp only [SK.cells]; rw [hx b (by simp [SK.pv, refsP])]
theorem toIV_local {x : PV} (hx : ∀ b ∈ refsP x, h b = h' b) : toIV h x = toIV h' x := by
  cases x <;> first | rfl | (simp only [toIV]; rw [hx _ (by simp [refsP])])
theorem toIVs_local : ∀ {ps : List PV}, (∀ b ∈ refsL ps, h b = h' b) → toIVs h ps = toIVs h' ps
  | [], _ => rfl
  | p :: ps, hx => by
    simp only [toIVs]
    rw [toIV_local fun b hb => hx b (List.mem_append.2 (.inl hb)), toIVs_local fun b hb => hx b (List.mem_append.2 (.inr hb))]
theorem cellsP_refs {v : PV} {b : Name} (hb : b ∈ refsL (cellsP v)) : b ∈ refsP v := by
  cases v <;> first | exact hb | simpa [cellsP, refsL] using hb
theorem opStore_local {t : TypeId} {x v : PV} (hx : ∀ b ∈ refsP x, h b = h' b) (hv : ∀ b ∈ refsP v, h b = h' b) : opStore P h t x v = opStore P h' t x v := by
  cases x with
  | ref b off top =>
    simp only [opStore]
    rw [hx b (by simp [refsP]), toIVs_local (h := h) (h' := h') fun b hb => hv b (cellsP_refs hb)]
  | _ => rfl
theorem newBox_local {s : Name} (hs : h s = h' s) (x : Box) (v : PV) (us : List (Name × Box)) : newBox h s x v us = newBox h' s x v us := by simp only [newBox, hs]
theorem opBox_local {s : Name} (hs : h s = h' s) {t : TypeId} {v : PV} (hv : ∀ b ∈ refsP v, h b = h' b) : opBox P h s t v = opBox P h' s t v := by
  simp only [opBox, newBox_local hs, toIVs_local (h := h) (h' := h') fun b hb => hv b (cellsP_refs hb)]
theorem opAlloc_local {s : Name} (hs : h s = h' s) {t : TypeId} : opAlloc P h s t = opAlloc P h' s t := by
  simp only [opAlloc, newBox_local hs]
theorem refsL_append {xs ys : List PV} : refsL (xs ++ ys) = refsL xs ++ refsL ys := by
  induction xs with
  | nil => rfl
  | cons x xs ih => simp [refsL, ih]
theorem fillP_refs (pl : Nat → Option (Nat × Nat)) : ∀ (L : List (Nat × PV)) (cs cs' : List PV), fillP pl L cs = some cs' → ∀ b ∈ refsL cs', b ∈ refsL cs ∨ ∃ q ∈ L, b ∈ refsP q.2
  | [], cs, cs', hf, b, hb => by cases hf; exact .inl hb
  | (i, v) :: L, cs, cs', hf, b, hb => by
    unfold fillP at hf
    split at hf
    case h_2 => cases hf
    rename_i off size hpl
    split at hf
    case isFalse => cases hf
    rcases fillP_refs pl L _ _ hf b hb with h1 | ⟨q, hq, h1⟩
    · unfold spliceL at h1
      rw [refsL_append, refsL_append] at h1
      simp only [List.mem_append] at h1
      rcases h1 with (h1 | h1) | h1
      · left
        rw [← List.take_append_drop off cs, refsL_append]
        exact List.mem_append.2 (.inl h1)
      · exact .inr ⟨(i, v), by simp, cellsP_refs h1⟩
      · left
        rw [← List.take_append_drop (off + (cellsP v).length) cs, refsL_append]
        exact List.mem_append.2 (.inr h1)
    · exact .inr ⟨q, by simp [hq], h1⟩
theorem refsL_vals (zs : List Value) : refsL (zs.map fun x => PV.i (.v x)) = [] := by
  induction zs with
  | nil => rfl
  | cons z zs ih => simp [refsL, refsP, ih]
theorem opBuildSlice_local {s : Name} (hs : h s = h' s) {t : TypeId} {len : Nat} {L : List (Nat × PV)} (hL : ∀ q ∈ L, ∀ b ∈ refsP q.2, h b = h' b) : opBuildSlice P h s t len L = opBuildSlice P h' s t len L := by
  unfold opBuildSlice
  cases elemB P t with
  | none => rfl
  | some e =>
    simp only
    cases zeroB P e with
    | none => rfl
    | some zs =>
      simp only
      split
      · cases hf : fillP (fun i => some (i * zs.length, zs.length)) L ((zeroRow zs len).map fun x => .i (.v x)) with
        | none => rfl
        | some cs =>
          simp only
          rw [toIVs_local (h := h) (h' := h') (ps := cs) fun b hb => by
            rcases fillP_refs _ _ _ _ hf b hb with h1 | ⟨q, hq, h1⟩
            · rw [refsL_vals] at h1; simp at h1
            · exact hL q hq b h1]
          simp only [newBox_local hs]
      · rfl
theorem opMake_local {s : Name} (hs : h s = h' s) {t : TypeId} {l c : PV} : opMake P h s t l c = opMake P h' s t l c := by
  simp only [opMake, newBox_local hs]
theorem opBytes_local {e : TypeId} {x : PV} (hx : ∀ b ∈ refsP x, h b = h' b) : opBytes P h e x = opBytes P h' e x := by
  have key : ∀ (k : SK), x.sk = some k → k.cells h 1 = k.cells h' 1 := fun k hk => sk_cells_local hk hx 1
  unfold opBytes
  cases tkB P e with
  | none => rfl
  | some d =>
    cases hk : x.sk with
    | none => cases d <;> first | rfl | (rename_i k; cases k <;> rfl)
    | some k => cases d <;> first | rfl | (rename_i kk; cases kk <;> first | rfl | (simp only [key k hk]))
theorem opConvert_local {a b : TypeId} {x : PV} (hx : ∀ b ∈ refsP x, h b = h' b) : opConvert P h a b x = opConvert P h' a b x := by
  unfold opConvert
  split <;> first | rfl | exact opBytes_local hx
theorem opAppend_local {s : Name} (hs : h s = h' s) {t : TypeId} {x y : PV} (hx : ∀ b ∈ refsP x, h b = h' b) (hy : ∀ b ∈ refsP y, h b = h' b) : opAppend P h s t x y = opAppend P h' s t x y := by
  have k1 : ∀ (k2 : SK), y.sk = some k2 → ∀ z, k2.cells h z = k2.cells h' z := fun k2 hk2 z => sk_cells_local hk2 hy z
  unfold opAppend
  cases hk : x.sk with
  | none => rfl
  | some k =>
    cases hk2 : y.sk with
    | none => rfl
    | some k2 =>
      have := sk_rep hk; subst this
      simp only [k1 k2 hk2, newBox_local hs]
      cases k with
      | nil => rfl
      | imm n cs => rfl
      | own b off z n top => simp only [hx b (by simp [SK.pv, refsP])]
theorem opCopy_local {t : TypeId} {x y : PV} (hx : ∀ b ∈ refsP x, h b = h' b) (hy : ∀ b ∈ refsP y, h b = h' b) : opCopy P h t x y = opCopy P h' t x y := by
  unfold opCopy
  cases hk : x.sk with
  | none => rfl
  | some k =>
    cases hk2 : y.sk with
    | none => cases k <;> rfl
    | some k2 =>
      have := sk_rep hk; subst this
      cases k with
      | nil => rfl
      | imm n cs => rfl
      | own b off z n top => simp only [hx b (by simp [SK.pv, refsP]), sk_cells_local hk2 hy]
theorem opBuiltin_local {s : Name} (hs : h s = h' s) {b : Builtin} {ts : List TypeId} {xs : List PV} (hx : ∀ b ∈ refsL xs, h b = h' b) : opBuiltin P h s b ts xs = opBuiltin P h' s b ts xs := by
  unfold opBuiltin
  split
  · rw [opAppend_local hs (fun b hb => hx b (by simp [refsL, hb])) fun b hb => hx b (by simp [refsL, hb])]
  · exact opCopy_local (fun b hb => hx b (by simp [refsL, hb])) fun b hb => hx b (by simp [refsL, hb])
  · rfl
  · rfl
  · rfl
  · rfl

theorem refs_parts {ρ : Operand → PV} {ps : Array (Nat × Operand)} {op : Op} (ho : ∀ q ∈ ps.toList, q.2 ∈ op.operands.toList) (hr : ∀ b ∈ refsL (op.operands.toList.map ρ), h b = h' b) :
    ∀ q ∈ (ps.toList.map fun p => (p.1, ρ p.2)), ∀ b ∈ refsP q.2, h b = h' b := by
  intro q hq b hb
  obtain ⟨p, hp, rfl⟩ := List.mem_map.1 hq
  exact hr b (refsL_mem (List.mem_map.2 ⟨p.2, ho p hp, rfl⟩) hb)

/-- An operation hangs on the boxes that its operands name, and on its own name, alone. -/
theorem stepOp_local {s : Name} (hs : h s = h' s) {ρ : Operand → PV} {op : Op} (hr : ∀ b ∈ refsL (op.operands.toList.map ρ), h b = h' b) : stepOp P h s ρ op = stepOp P h' s ρ op := by
  have one : ∀ x, x ∈ op.operands.toList → ∀ b ∈ refsP (ρ x), h b = h' b := fun x hx b hb => hr b (refsL_mem (List.mem_map.2 ⟨x, hx, rfl⟩) hb)
  unfold stepOp
  cases op with
  | alloc t => exact opAlloc_local hs
  | box t x => exact opBox_local hs (one x (by simp [Op.operands]))
  | buildSlice t n ps => exact opBuildSlice_local hs (refs_parts (op := .buildSlice t n ps) (fun q hq => by simp [Op.operands]; exact ⟨q.1, by simpa using hq⟩) hr)
  | load t a => simp only [opLoad_local (one a (by simp [Op.operands]))]
  | store t a x => simp only [opStore_local (one a (by simp [Op.operands])) (one x (by simp [Op.operands]))]
  | convert a b x => simp only [opConvert_local (one x (by simp [Op.operands]))]
  | makeSlice t l c => exact opMake_local hs
  | call c =>
    obtain ⟨callee, args, ts⟩ := c
    cases callee with
    | builtin b => exact opBuiltin_local hs (by simpa [Op.operands, Call.operands] using hr)
    | _ => rfl
  | makeFunc fn first caps => cases fn <;> rfl
  | _ => rfl
end
end Go.Proofs.Ytnnkoghmglpnmaa.TM
