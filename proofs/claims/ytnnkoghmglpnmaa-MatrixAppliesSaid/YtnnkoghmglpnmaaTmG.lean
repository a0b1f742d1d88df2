/- TM and the model: new memory: variables, rows, append and copy. Conditions: none; lemmas. -/
import Derived.Test.YtnnkoghmglpnmaaTmF
namespace Go.Proofs.Ytnnkoghmglpnmaa.TM
open Go
set_option linter.unusedVariables false
set_option linter.defProp false
set_option linter.unusedSimpArgs false

variable {P : Program} {β : Pl} {h : Heap} {w : World}

theorem newBox_some {s : Name} {x : Box} {v : PV} {us : List (Name × Box)} {o : Out} (hn : newBox h s x v us = some o) : h s = none ∧ o = ⟨v, us ++ [(s, x)]⟩ := by
  unfold newBox at hn
  split at hn
  · cases hn; exact ⟨by assumption, rfl⟩
  · cases hn

/-- A variable whose cells are data is new. -/
theorem new_var (H : HInv β h w) {s : Name} (hs : h s = none) {cs : List PV} {c : Array Value} (e : TypeId) (hl : c.size = cs.length) (hc : ∀ j x, cs[j]? = some x → Rep β h w x (c.getD j undef)) (h1 : ∀ u ∈ c.toList, u.oneCell' = true) :
    HInv (setβ β s w.heap.size) (h.put s (.var cs)) (w.alloc (.cells c e)) ∧ Ext β h w (setβ β s w.heap.size) (h.put s (.var cs)) (w.alloc (.cells c e)) ∧
    Rep (setβ β s w.heap.size) (h.put s (.var cs)) (w.alloc (.cells c e)) (.ref s 0 cs.length) (.pointer (some ⟨w.heap.size, 0, none⟩)) := by
  have E := Ext.new (β := β) (w := w) hs (.var cs) (.cells c e)
  refine ⟨HInv.new H hs _ c e ⟨by omega, fun j y hj => ⟨?_, RepP.mono H E (hc j y hj)⟩⟩, E, ?_⟩
  · have hlt : j < c.size := by rw [hl]; exact (List.getElem?_eq_some_iff.1 hj).1
    refine h1 _ ?_
    simp [hlt]
  · refine .ref _ _ _ (.var cs) _ (Heap.put_same _ _ _) (Nat.le_refl _) fun _ => ?_
    rw [setβ_same]

/-- A row is new. -/
theorem new_row (H : HInv β h w) {s : Name} (hs : h s = none) {cs : List IV} {c : Array Value} (e : TypeId) (hl : cs.length ≤ c.size) (hc : ∀ j x, cs[j]? = some x → (c.getD j undef).oneCell' = true ∧ RepI (Rd β h w) x (c.getD j undef)) :
    HInv (setβ β s w.heap.size) (h.put s (.row false cs)) (w.alloc (.cells c e)) ∧ Ext β h w (setβ β s w.heap.size) (h.put s (.row false cs)) (w.alloc (.cells c e)) ∧
    Rep (setβ β s w.heap.size) (h.put s (.row false cs)) (w.alloc (.cells c e)) (.ref s 0 cs.length) (.pointer (some ⟨w.heap.size, 0, none⟩)) ∧
    (∀ z n cap, n ≤ cap → cap * z ≤ c.size → Rep (setβ β s w.heap.size) (h.put s (.row false cs)) (w.alloc (.cells c e)) (.view s 0 z n cs.length) (.slice (some ⟨w.heap.size, 0, none⟩) n cap)) := by
  have E := Ext.new (β := β) (w := w) hs (.row false cs) (.cells c e)
  refine ⟨HInv.new H hs _ c e ⟨hl, fun j y hj => ⟨(hc j y hj).1, (hc j y hj).2.mono fun a v => Rd.mono E⟩⟩, E, ?_, fun z n cap hn hz => ?_⟩
  · refine .ref _ _ _ (.row false cs) _ (Heap.put_same _ _ _) (Nat.le_refl _) fun _ => ?_
    rw [setβ_same]
  · refine .view _ _ _ _ _ (.row false cs) _ _ (Heap.put_same _ _ _) rfl (Nat.le_refl _) hn (fun he => by cases he) fun _ => .inr ⟨?_, ?_⟩
    · rw [setβ_same]
    · rw [setβ_same]
      unfold szW
      rw [heap_alloc_new]
      simpa using hz

theorem box_sound (H : HInv β h w) {t : TypeId} {s : Name} {p : PV} {v : Value} (hp : Rep β h w p v) {o : Out} (ho : opBox P h s t p = some o) : Does P β h w (Instr.box t v) o.ups fun β h w u => Rep β h w o.val u := by
  unfold opBox at ho
  split at ho
  case isFalse => cases ho
  rename_i hone
  obtain ⟨hsz, hcr, h1⟩ := cells_rep hone hp
  split at ho
  · split at ho
    case h_2 => cases ho
    rename_i vs us hiv
    obtain ⟨hs, rfl⟩ := newBox_some ho
    have hF := toIVs_freezes hiv
    obtain ⟨E0, H0, hnot, _⟩ := freezes us H hF
    obtain ⟨hl, hri⟩ := toIVs_rep H H0 E0 hiv (frozen_ups H hF)
    have hs0 : h.ups us s = none := by
      rw [hnot s fun hm => ?_]; exact hs
      obtain ⟨u, hu, he⟩ := List.mem_map.1 hm
      obtain ⟨fz, cs, hb, _⟩ := hF u hu
      rw [he, hs] at hb; cases hb
    obtain ⟨H1, E1, R1, _⟩ := new_row (cs := vs) (c := v.cells) H0 hs0 t (by omega) (fun j x hj => by
      have hlt : j < (cellsP p).length := by rw [← hl]; exact (List.getElem?_eq_some_iff.1 hj).1
      have h7 := hcr _ _ (List.getElem?_eq_getElem hlt)
      exact ⟨oneP_sound (List.all_eq_true.1 hone _ (List.getElem_mem hlt)) h7, hri _ _ _ _ (List.getElem?_eq_getElem hlt) hj h7⟩)
    unfold Does
    simp only [Heap.ups_append, Heap.ups_cons, Heap.ups_nil]
    exact ⟨_, _, _, rfl, H1, E0.trans E1, R1⟩
  · obtain ⟨hs, rfl⟩ := newBox_some ho
    obtain ⟨H1, E1, R1⟩ := new_var (cs := cellsP p) (c := v.cells) H hs t hsz hcr h1
    exact ⟨_, _, _, rfl, H1, E1, R1⟩

theorem zeroB_some {t : TypeId} {zs : List Value} (hz : zeroB P t = some zs) : ∃ (i : TypeInfo) (z : Value), P.info? t = some i ∧ i.zero = some z ∧ z.cells.size = i.size ∧ zs = z.cells.toList ∧ zs.length = szOf P t := by
  unfold zeroB at hz
  split at hz
  case h_2 => cases hz
  rename_i i hi
  split at hz
  case h_2 => cases hz
  rename_i z hzz
  split at hz
  case isFalse => cases hz
  rename_i hsz
  cases hz
  exact ⟨i, z, hi, hzz, hsz, rfl, by simp [szOf, Program.cellsOf, hi, hsz]⟩

theorem alloc_sound (H : HInv β h w) {t : TypeId} {s : Name} {o : Out} (ho : opAlloc P h s t = some o) : Does P β h w (Instr.alloc t true (.tuple #[])) o.ups fun β h w u => Rep β h w o.val u := by
  unfold opAlloc at ho
  split at ho
  case h_2 => cases ho
  rename_i zs hz
  obtain ⟨i, z, hi, hzz, hsz, rfl, hlen⟩ := zeroB_some hz
  split at ho
  case isFalse => cases ho
  rename_i hall
  have h1 : ∀ u ∈ z.cells.toList, u.oneCell' = true := fun u hu => List.all_eq_true.1 hall u hu
  have hrun : (Instr.alloc t true (.tuple #[])).run P w = .ok (.pointer (some ⟨w.heap.size, 0, none⟩)) (w.alloc (.cells z.cells t)) := by
    simp [Instr.alloc, zeroValue, typeInfo, hi, hzz, newVar, newRow]
  split at ho
  · obtain ⟨hs, rfl⟩ := newBox_some ho
    obtain ⟨H1, E1, R1, _⟩ := new_row (cs := z.cells.toList.map .v) (c := z.cells) H hs t (by simp) (fun j x hj => by
      rw [List.getElem?_map] at hj
      cases hg : z.cells.toList[j]? with
      | none => simp [hg] at hj
      | some u =>
        simp [hg] at hj; subst hj
        have : z.cells.getD j undef = u := by have : z.cells[j]? = some u := by simpa using hg
                                              simp [this]
        rw [this]
        exact ⟨h1 u (List.mem_of_getElem? hg), .v u⟩)
    simp only [List.length_map] at R1
    exact ⟨_, _, _, hrun, H1, E1, R1⟩
  · obtain ⟨hs, rfl⟩ := newBox_some ho
    obtain ⟨H1, E1, R1⟩ := new_var (cs := z.cells.toList.map fun x => .i (.v x)) (c := z.cells) H hs t (by simp) (fun j x hj => by
      rw [List.getElem?_map] at hj
      cases hg : z.cells.toList[j]? with
      | none => simp [hg] at hj
      | some u =>
        simp [hg] at hj; subst hj
        have : z.cells.getD j undef = u := by have : z.cells[j]? = some u := by simpa using hg
                                              simp [this]
        rw [this]
        exact .i _ _ (.v u)) h1
    simp only [List.length_map] at R1
    exact ⟨_, _, _, hrun, H1, E1, R1⟩
end Go.Proofs.Ytnnkoghmglpnmaa.TM
