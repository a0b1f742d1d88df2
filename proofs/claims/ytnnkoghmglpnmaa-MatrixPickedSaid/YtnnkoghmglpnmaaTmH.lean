/- TM and the model: structs and rows out of parts, and made rows. Conditions: none; lemmas. -/
import Derived.Test.YtnnkoghmglpnmaaTmG
namespace Go.Proofs.Ytnnkoghmglpnmaa.TM
open Go
set_option linter.unusedVariables false
set_option linter.defProp false
set_option linter.unusedSimpArgs false

variable {P : Program} {β : Pl} {h : Heap} {w : World}

theorem fold_put_get (off : Nat) : ∀ (l : List Value) (k : Nat) (c : Array Value), off + k + l.length ≤ c.size →
    ((l.zipIdx k).foldl (fun cs (x : Value × Nat) => cs.setIfInBounds (off + x.2) x.1) c).size = c.size ∧
    ∀ j, ((l.zipIdx k).foldl (fun cs (x : Value × Nat) => cs.setIfInBounds (off + x.2) x.1) c)[j]? = if off + k ≤ j ∧ j < off + k + l.length then l[j - (off + k)]? else c[j]?
  | [], k, c, _ => ⟨rfl, fun j => by rw [if_neg (by simp only [List.length_nil]; omega)]; rfl⟩
  | v :: l, k, c, hf => by
    simp only [List.zipIdx_cons, List.foldl_cons]
    have ih := fold_put_get off l (k + 1) (c.setIfInBounds (off + k) v) (by simp at hf ⊢; omega)
    refine ⟨by rw [ih.1]; simp, fun j => ?_⟩
    rw [ih.2 j]
    simp only [List.length_cons] at hf ⊢
    by_cases h1 : j = off + k
    · subst h1
      rw [if_neg (by omega), if_pos (by omega)]
      have hlt : off + k < c.size := by omega
      simp [hlt]
    · by_cases h2 : off + k ≤ j ∧ j < off + k + (l.length + 1)
      · rw [if_pos (by omega), if_pos h2]
        rw [show j - (off + k) = (j - (off + (k + 1))) + 1 by omega, List.getElem?_cons_succ]
      · rw [if_neg (by omega), if_neg h2, Array.getElem?_setIfInBounds_ne (Ne.symm h1)]

theorem fold_put {vs : Array Value} {c : Array Value} {off : Nat} (hf : off + vs.size ≤ c.size) :
    vs.zipIdx.foldl (fun cs (x : Value × Nat) => cs.setIfInBounds (off + x.2) x.1) c = (spliceL c.toList off vs.toList).toArray := by
  have key := fold_put_get off vs.toList 0 c (by simpa using hf)
  have hz : vs.zipIdx.foldl (fun cs (x : Value × Nat) => cs.setIfInBounds (off + x.2) x.1) c = (vs.toList.zipIdx 0).foldl (fun cs (x : Value × Nat) => cs.setIfInBounds (off + x.2) x.1) c := by
    rw [← Array.foldl_toList]; simp
  rw [hz]
  apply Array.ext_getElem?
  intro j
  rw [key.2 j]
  simp only [Nat.add_zero, List.getElem?_toArray]
  rw [splice_get (by simpa using hf)]
  simp

/-- Parts with what they are. -/
structure Parts (β : Pl) (h : Heap) (w : World) (L : List (Nat × PV × Value)) : Prop where
  rep : ∀ q ∈ L, Rep β h w q.2.1 q.2.2

theorem fill_sound (pl : Nat → Option (Nat × Nat)) : ∀ (L : List (Nat × PV × Value)) (cs cs' : List PV) (c : Array Value), Parts β h w L → c.size = cs.length → (∀ j x, cs[j]? = some x → Rep β h w x (c.getD j undef)) → (∀ u ∈ c.toList, u.oneCell' = true) → (cs.all oneP = true) →
    fillP pl (L.map fun q => (q.1, q.2.1)) cs = some cs' →
    ∃ c', Instr.fill pl c (L.map fun q => (q.1, q.2.2)) = some c' ∧ c'.size = cs'.length ∧ cs'.length = cs.length ∧ (∀ j x, cs'[j]? = some x → Rep β h w x (c'.getD j undef)) ∧ (∀ u ∈ c'.toList, u.oneCell' = true) ∧ cs'.all oneP = true
  | [], cs, cs', c, _, hl, hr, h1, ho, hf => by cases hf; exact ⟨c, rfl, hl, rfl, hr, h1, ho⟩
  | (i, p, v) :: L, cs, cs', c, hL, hl, hr, h1, ho, hf => by
    simp only [List.map_cons] at hf ⊢
    unfold fillP at hf
    split at hf
    case h_2 => cases hf
    rename_i off size hpl
    split at hf
    case isFalse => cases hf
    rename_i hc
    obtain ⟨hc1, hc2, hc3⟩ := hc
    have hpr : Rep β h w p v := hL.rep (i, p, v) (by simp)
    obtain ⟨hsz, hcr, hone⟩ := cells_rep hc3 hpr
    have hfit : off + v.cells.size ≤ c.size := by omega
    have hsp := splice_len (cs := c.toList) (vs := v.cells.toList) (off := off) (by simpa using hfit)
    have hsp2 := splice_len (cs := cs) (vs := cellsP p) (off := off) (by omega)
    obtain ⟨c', hfill, hsz', hlen', hr', h1', ho'⟩ := fill_sound pl L (spliceL cs off (cellsP p)) cs' (spliceL c.toList off v.cells.toList).toArray ⟨fun q hq => hL.rep q (by simp [hq])⟩
      (by simp [hsp, hsp2]; exact hl) (fun j x hj => by
        rw [splice_getD (by simpa using hfit)]
        rw [splice_get (by omega)] at hj
        have hvl : v.cells.toList.length = (cellsP p).length := by simpa using hsz
        rw [hvl]
        split at hj
        · rename_i hin
          rw [if_pos hin]
          have := hcr _ _ hj
          simpa using this
        · rename_i hin
          rw [if_neg hin]
          exact hr j x hj) (fun u hu => by
        simp only [spliceL, List.append_assoc] at hu
        rcases List.mem_append.1 hu with hu | hu
        · exact h1 u (List.mem_of_mem_take hu)
        · rcases List.mem_append.1 hu with hu | hu
          · exact hone u hu
          · exact h1 u (List.mem_of_mem_drop hu)) (by
        rw [List.all_eq_true]
        intro u hu
        simp only [spliceL, List.append_assoc] at hu
        rcases List.mem_append.1 hu with hu | hu
        · exact List.all_eq_true.1 ho u (List.mem_of_mem_take hu)
        · rcases List.mem_append.1 hu with hu | hu
          · exact List.all_eq_true.1 hc3 u hu
          · exact List.all_eq_true.1 ho u (List.mem_of_mem_drop hu)) hf
    refine ⟨c', ?_, hsz', hlen'.trans hsp2, hr', h1', ho'⟩
    unfold Instr.fill
    rw [hpl]
    have hcond : (v.cells.size ≠ size || off + v.cells.size > c.size) = false := by simp; omega
    simp only [hcond, Bool.false_eq_true, if_false]
    rw [fold_put hfit]
    exact hfill

theorem mapM_run {α γ : Type} (f : α → Sem γ) (g : α → γ) : ∀ (l : List α) (w : World), (∀ x ∈ l, ∀ w, (f x).run P w = .ok (g x) w) → (l.mapM f).run P w = .ok (l.map g) w
  | [], w, _ => by simp
  | x :: l, w, hf => by
    simp only [List.mapM_cons, Sem.run_bind, hf x (by simp) w, Result.andThen_ok, mapM_run f g l w fun y hy => hf y (by simp [hy]), Sem.run_pure, List.map_cons]

theorem zero_rep (zs : List Value) : ∀ (j : Nat) (x : PV), (zs.map fun x => PV.i (.v x))[j]? = some x → Rep β h w x (zs.toArray.getD j undef) := by
  intro j x hj
  rw [List.getElem?_map] at hj
  cases hg : zs[j]? with
  | none => simp [hg] at hj
  | some u =>
    simp [hg] at hj; subst hj
    have : zs.toArray.getD j undef = u := by simp [hg]
    rw [this]
    exact .i _ _ (.v u)
theorem zero_one {zs : List Value} (hz : zs.all Value.oneCell' = true) : (zs.map fun x => PV.i (.v x)).all oneP = true := by
  rw [List.all_map]
  exact hz

theorem build_sound {t : TypeId} {L : List (Nat × PV × Value)} (hL : Parts β h w L) {p : PV} (hp : opBuild P t (L.map fun q => (q.1, q.2.1)) = some p) :
    ∃ u, (Instr.build t (L.map fun q => (q.1, q.2.2)).toArray).run P w = .ok u w ∧ Rep β h w p u := by
  unfold opBuild at hp
  split at hp
  case h_2 => cases hp
  rename_i zs pl hz hpl
  split at hp
  case isFalse => cases hp
  rename_i hall
  obtain ⟨i, z, hi, hzz, hsz, rfl, hlen⟩ := zeroB_some hz
  cases hf : fillP pl.get (L.map fun q => (q.1, q.2.1)) (z.cells.toList.map fun x => .i (.v x)) with
  | none => simp [hf] at hp
  | some cs' =>
    simp [hf] at hp
    subst hp
    obtain ⟨c', hfill, hsz', hlen', hr', h1', ho'⟩ := fill_sound pl.get L _ cs' z.cells hL (by simp) (fun j x hj => by simpa using zero_rep (β := β) (h := h) (w := w) z.cells.toList j x hj) (fun u hu => List.all_eq_true.1 hall u hu) (zero_one hall) hf
    refine ⟨.agg c', ?_, .agg _ _ hsz' hr'⟩
    unfold placesOf at hpl
    split at hpl
    · rename_i fs hu
      split at hpl
      case isFalse => cases hpl
      rename_i hinfo
      cases hpl
      have hm : (fs.mapM fun (f : Field) => (do pure (f.offset, ← sizeOf f.type) : Sem (Nat × Nat))).run P w = .ok (fs.toList.map fun (f : Field) => (f.offset, szOf P f.type)).toArray w := by
        rw [Array.mapM_eq_mapM_toList, Sem.run_map, mapM_run _ (fun (f : Field) => (f.offset, szOf P f.type)) fs.toList w fun f hf w => ?_]
        · rfl
        · obtain ⟨q, hq⟩ := Option.isSome_iff_exists.1 (List.all_eq_true.1 hinfo f hf)
          simp [sizeOf_run hq]
      have hpe : (fun (i : Nat) => (fs.toList.map fun (f : Field) => (f.offset, szOf P f.type)).toArray[i]?) = (Places.st (fs.toList.map fun (f : Field) => (f.offset, szOf P f.type))).get := by
        funext i; simp [Places.get]
      simp only [Instr.build, zeroValue, typeInfo, Sem.run_bind, run_program, Result.andThen_ok, hi, hzz, Sem.run_pure, run_underlying hu, hm, hpe]
      simp only [List.size_toArray, hfill, Sem.run_pure]
    · rename_i n e hu
      split at hpl
      case isFalse => cases hpl
      rename_i hinfo
      cases hpl
      obtain ⟨q, hq⟩ := Option.isSome_iff_exists.1 hinfo
      simp only [Instr.build, zeroValue, typeInfo, Sem.run_bind, run_program, Result.andThen_ok, hi, hzz, Sem.run_pure, run_underlying hu, sizeOf_run hq]
      have hpe : (fun (i : Nat) => some (i * szOf P e, szOf P e)) = (Places.ar (szOf P e)).get := by funext i; rfl
      simp only [hpe, hfill, Sem.run_pure]
    · cases hpl

theorem zeroRow_get (zs : List Value) (hz : 0 < zs.length) : ∀ (n j : Nat), (zeroRow zs n)[j]? = if j < n * zs.length then zs[j % zs.length]? else none
  | 0, j => by simp [zeroRow]
  | n + 1, j => by
    have ih := zeroRow_get zs hz n
    unfold zeroRow at ih ⊢
    rw [List.replicate_succ, List.flatten_cons, List.getElem?_append]
    by_cases h1 : j < zs.length
    · rw [if_pos h1, if_pos (by rw [Nat.succ_mul]; omega), Nat.mod_eq_of_lt h1]
    · rw [if_neg h1, ih (j - zs.length)]
      have h2 : (j - zs.length) % zs.length = j % zs.length := (Nat.mod_eq_sub_mod (by omega)).symm
      rw [h2, Nat.succ_mul]
      by_cases h3 : j - zs.length < n * zs.length
      · rw [if_pos h3, if_pos (by omega)]
      · rw [if_neg h3, if_neg (by omega)]
theorem zeroRow_len (zs : List Value) (n : Nat) : (zeroRow zs n).length = n * zs.length := by
  unfold zeroRow; induction n with
  | zero => simp
  | succ n ih => rw [List.replicate_succ, List.flatten_cons, List.length_append, ih, Nat.succ_mul]; omega
theorem zeroRow_cells (z : Array Value) (hz : 0 < z.size) (n : Nat) : (Array.range (n * z.size)).map (z[· % z.size]!) = (zeroRow z.toList n).toArray := by
  apply Array.ext'
  apply List.ext_getElem?
  intro j
  rw [zeroRow_get _ (by simpa using hz)]
  simp only [Array.length_toList]
  by_cases hj : j < n * z.size
  · rw [if_pos hj]
    have hm : j % z.size < z.size := Nat.mod_lt _ hz
    simp [hj, hm]
  · rw [if_neg hj]
    simp; omega
theorem zeroRow_one {zs : List Value} (hz : zs.all Value.oneCell' = true) (n : Nat) : (zeroRow zs n).all Value.oneCell' = true := by
  rw [List.all_eq_true]
  intro u hu
  unfold zeroRow at hu
  obtain ⟨l, hl, hul⟩ := List.mem_flatten.1 hu
  rw [(List.mem_replicate.1 hl).2] at hul
  exact List.all_eq_true.1 hz u hul

theorem elemB_some {t e : TypeId} (he : elemB P t = some e) : P.underlying t = some (.slice e) := by
  unfold elemB at he
  split at he
  · rename_i hu; cases he; exact hu
  · cases he

theorem buildSlice_sound (H : HInv β h w) {t : TypeId} {s : Name} {len : Nat} {L : List (Nat × PV × Value)} (hL : Parts β h w L) {o : Out} (ho : opBuildSlice P h s t len (L.map fun q => (q.1, q.2.1)) = some o) :
    Does P β h w (Instr.buildSlice t len (L.map fun q => (q.1, q.2.2)).toArray) o.ups fun β h w u => Rep β h w o.val u := by
  unfold opBuildSlice at ho
  split at ho
  case h_2 => cases ho
  rename_i e he
  have hu := elemB_some he
  split at ho
  case h_2 => cases ho
  rename_i zs hz
  obtain ⟨i, z, hi, hzz, hsz, rfl, hlen⟩ := zeroB_some hz
  split at ho
  case isFalse => cases ho
  rename_i hc
  obtain ⟨hall, hbig, hpos⟩ := hc
  split at ho
  case h_2 => cases ho
  rename_i cs hf
  split at ho
  case h_2 => cases ho
  rename_i vs us hiv
  split at ho
  case isFalse => cases ho
  rename_i hvl
  obtain ⟨hs, rfl⟩ := newBox_some ho
  simp only [Array.length_toList] at *
  have hpl : (fun j => some (j * z.cells.size, z.cells.size)) = fun j => some (j * i.size, i.size) := by rw [hsz]
  obtain ⟨c', hfill, hsz', hlen', hr', h1', ho'⟩ := fill_sound _ L _ cs (zeroRow z.cells.toList len).toArray hL (by simp) (fun j x hj => zero_rep (β := β) (h := h) (w := w) (zeroRow z.cells.toList len) j x hj)
    (fun u hu => List.all_eq_true.1 (zeroRow_one hall len) u (by simpa using hu)) (zero_one (zeroRow_one hall len)) hf
  have hrun : (Instr.buildSlice t len (L.map fun q => (q.1, q.2.2)).toArray).run P w = .ok (.slice (some ⟨w.heap.size, 0, none⟩) len len) (w.alloc (.cells c' e)) := by
    rw [hpl] at hfill
    by_cases h0 : len = 0
    · subst h0
      have hz0 : (zeroRow z.cells.toList 0).toArray = #[] := rfl
      rw [hz0] at hfill
      simp [Instr.buildSlice, run_underlying hu, sizeOf, typeInfo, hi, newRow, hfill, Array.range_zero']
    · refine run_buildSlice w t e len _ c' i z hu hi hzz (by rw [← hsz]; omega) (by
        have := Nat.mul_pos (Nat.pos_of_ne_zero h0) (show 0 < i.size by omega)
        omega) ?_
      rw [← hsz, zeroRow_cells z.cells hpos len]
      rw [hsz]
      exact hfill
  have hF := toIVs_freezes hiv
  obtain ⟨E0, H0, hnot, _⟩ := freezes us H hF
  obtain ⟨hl, hri⟩ := toIVs_rep H H0 E0 hiv (frozen_ups H hF)
  have hs0 : h.ups us s = none := by
    rw [hnot s fun hm => ?_]; exact hs
    obtain ⟨u, hu, he⟩ := List.mem_map.1 hm
    obtain ⟨fz, cs, hb, _⟩ := hF u hu
    rw [he, hs] at hb; cases hb
  obtain ⟨H1, E1, _, R1⟩ := new_row (cs := vs) (c := c') H0 hs0 e (by omega) (fun j x hj => by
    have hlt : j < cs.length := by rw [← hl]; exact (List.getElem?_eq_some_iff.1 hj).1
    have h7 := hr' _ _ (List.getElem?_eq_getElem hlt)
    exact ⟨oneP_sound (List.all_eq_true.1 ho' _ (List.getElem_mem hlt)) h7, hri _ _ _ _ (List.getElem?_eq_getElem hlt) hj h7⟩)
  unfold Does
  simp only [Heap.ups_append, Heap.ups_cons, Heap.ups_nil]
  exact ⟨_, _, _, hrun, H1, E0.trans E1, R1 _ _ _ (Nat.le_refl _) (by omega)⟩

theorem make_sound (H : HInv β h w) {t : TypeId} {s : Name} {l c : PV} {lv cv : Value} (hl : Rep β h w l lv) (hc : Rep β h w c cv) {o : Out} (ho : opMake P h s t l c = some o) :
    Does P β h w (Instr.makeSlice t lv cv) o.ups fun β h w u => Rep β h w o.val u := by
  unfold opMake at ho
  split at ho
  case h_2 => cases ho
  rename_i e n m he hn hm
  have hu := elemB_some he
  split at ho
  case h_2 => cases ho
  rename_i zs hz
  obtain ⟨i, z, hi, hzz, hsz, rfl, hlen⟩ := zeroB_some hz
  split at ho
  case isFalse => cases ho
  rename_i hcc
  obtain ⟨hall, hle, hby, hmx, hpos⟩ := hcc
  obtain ⟨hs, rfl⟩ := newBox_some ho
  obtain ⟨kl, nl, rfl, h0l, rfl⟩ := natOf_some hn hl
  obtain ⟨kc, nc, rfl, h0c, rfl⟩ := natOf_some hm hc
  have hbi : P.bytesOf e = i.bytes := by simp [Program.bytesOf, hi]
  have hbytes : (i.bytes : Int) * nc ≤ 281474976710656 := by
    rw [hbi] at hby
    have this : ((nc.toNat * i.bytes : Nat) : Int) ≤ 140737488355328 := Int.ofNat_le.2 hby
    rw [Int.natCast_mul, Int.toNat_of_nonneg h0c, Int.mul_comm] at this
    omega
  have hrun := run_make (P := P) w t e i z hu hi hzz kl kc nl nc h0l (by omega) hbytes (by omega)
  have hmc : madeCells z.cells (nc.toNat * i.size) = (zeroRow z.cells.toList nc.toNat).toArray := by
    rw [← hsz]; exact zeroRow_cells z.cells (by simpa using hpos) nc.toNat
  rw [hmc] at hrun
  simp only [Array.length_toList] at *
  obtain ⟨H1, E1, _, R1⟩ := new_row (cs := (zeroRow z.cells.toList nl.toNat).map .v) (c := (zeroRow z.cells.toList nc.toNat).toArray) H hs e
    (by simp [zeroRow_len]; exact Nat.mul_le_mul_right _ hle) (fun j x hj => by
      rw [List.getElem?_map, zeroRow_get _ (by simpa using hpos)] at hj
      simp only [Array.length_toList] at hj
      by_cases hlt : j < nl.toNat * z.cells.size
      · rw [if_pos hlt] at hj
        have hlt2 : j < nc.toNat * z.cells.size := Nat.lt_of_lt_of_le hlt (Nat.mul_le_mul_right _ hle)
        have hg : (zeroRow z.cells.toList nc.toNat).toArray.getD j undef = z.cells.toList[j % z.cells.size]'(by simp; exact Nat.mod_lt _ hpos) := by
          rw [Array.getD_eq_getD_getElem?, List.getElem?_toArray, zeroRow_get _ (by simpa using hpos)]
          simp [hlt2, Nat.mod_lt _ hpos]
        rw [hg]
        rw [List.getElem?_eq_getElem (by simp; exact Nat.mod_lt _ hpos)] at hj
        simp only [Option.map_some, Option.some.injEq] at hj
        subst hj
        exact ⟨List.all_eq_true.1 hall _ (List.getElem_mem _), .v _⟩
      · rw [if_neg hlt] at hj; simp at hj)
  have R2 := R1 z.cells.size nl.toNat nc.toNat hle (by simp [zeroRow_len])
  simp only [List.length_map, zeroRow_len, Array.length_toList] at R2
  exact ⟨_, _, _, hrun, H1, E1, R2⟩
end Go.Proofs.Ytnnkoghmglpnmaa.TM
