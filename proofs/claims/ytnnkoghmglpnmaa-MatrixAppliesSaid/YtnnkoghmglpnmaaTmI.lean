/- TM and the model: append and copy. Conditions: none; lemmas. -/
import Derived.Test.YtnnkoghmglpnmaaTmH
namespace Go.Proofs.Ytnnkoghmglpnmaa.TM
open Go
set_option linter.unusedVariables false
set_option linter.defProp false
set_option linter.unusedSimpArgs false
set_option linter.unusedSectionVars false

variable {P : Program} {β : Pl} {h : Heap} {w : World}

/-- A source of an append: so many elements, and these cells. -/
structure Src1 (P : Program) (w : World) (z : Nat) (y : Value) (m : Nat) (news : List Value) : Prop where
  len : ∀ w', (Builtin.lenOf y).run P w' = .ok m w'
  cells : (Builtin.firstCells z m y).run P w = .ok news.toArray w
  cells' : (Builtin.firstCells z m y).run P w.drew = .ok news.toArray w.drew
  size : news.length = m * z

theorem src_of (H : HInv β h w) {y : PV} {k : SK} (hk : y.sk = some k) {z : Nat} {xs : List IV} (hc : k.cells h z = some xs) {v : Value} (hy : Rep β h w y v) :
    ∃ news, Src1 P w z v k.len news ∧ news.length = xs.length ∧ (∀ u ∈ news, u.oneCell' = true) ∧ ∀ j x, xs[j]? = some x → RepI (Rd β h w) x (news.getD j undef) := by
  obtain ⟨hlen, hcase⟩ := sk_cells H hk hc hy
  rcases hcase with ⟨hnil, cap, rfl⟩ | ⟨a, cap, rfl, f, hf, h1, hr⟩
  · subst hnil
    refine ⟨[], ⟨fun w' => rfl, ?_, ?_, hlen⟩, rfl, fun u hu => by simp at hu, fun j x hj => by simp at hj⟩ <;> simp [Builtin.firstCells]
  · have hcl : ∀ (j : Nat) v, ((List.range xs.length).map f)[j]? = some v → w.cell? (a.add j) = some v := fun j v hj => by
      rw [List.getElem?_map] at hj
      by_cases hlt : j < xs.length
      · rw [List.getElem?_range hlt] at hj
        simp at hj; rw [← hj]; exact hf j hlt
      · rw [List.getElem?_eq_none (by simpa using hlt)] at hj; simp at hj
    refine ⟨(List.range xs.length).map f, ⟨fun w' => rfl, ?_, ?_, by simpa using hlen⟩, by simp, fun u hu => ?_, fun j x hj => ?_⟩
    · exact run_firstCells_some (P := P) w z k.len a k.len cap _ (by simpa using hlen) hcl
    · exact run_firstCells_some (P := P) w.drew z k.len a k.len cap _ (by simpa using hlen) (by simpa using hcl)
    · obtain ⟨j, hj, rfl⟩ := List.mem_map.1 hu
      exact h1 j (by simpa using hj)
    · have hlt := (List.getElem?_eq_some_iff.1 hj).1
      have : ((List.range xs.length).map f).getD j undef = f j := by simp [hlt]
      rw [this]
      exact hr j x hj

section
variable {t t' e : TypeId} {i : TypeInfo} {z : Value} (ht : P.underlying t = some (.slice e)) {e' : TypeId} (ht' : P.underlying t' = some (.slice e')) (hi : P.info? e = some i) (hz : i.zero = some z)
include ht ht' hi hz

theorem app_grow (ty : TypeId) (b : Option Addr) (sLen sCap : Nat) (y : Value) (m : Nat) (olds news : List Value) (hs : Src1 P w i.size y m news)
    (holds : (Builtin.firstCells i.size sLen (.slice b sLen sCap)).run P w.drew = .ok olds.toArray w.drew)
    (hg : sCap < sLen + m) (h63 : ((sLen + m : Nat) : Int) ≤ 9223372036854775807) (hfit : Builtin.nextslicecap (sLen + m) sCap * i.bytes ≤ 281474976710656) :
    (Builtin.append_ #[t, t'] ty #[.slice b sLen sCap, y]).run P w =
      .ok (.slice (some ⟨w.heap.size, 0, none⟩) (sLen + m) (grownCap w (sLen + m) sCap e))
        (w.drew.alloc (.cells (olds.toArray ++ news.toArray ++ Builtin.zeroCells z.cells (grownCap w (sLen + m) sCap e - (sLen + m))) e)) := by
  have hn : ¬ (sLen + m ≤ sCap) := by omega
  have h63' : ¬ (9223372036854775807 < ((sLen : Int) + (m : Int))) := by omega
  have h48' : ¬ (281474976710656 < Builtin.nextslicecap (sLen + m) sCap * i.bytes) := by omega
  have hl := hs.len
  have hc := hs.cells'
  simp [Builtin.append_, run_underlying ht, run_underlying ht', sizeOf, typeInfo, zeroValue, hi, hz, hl, hn, h63', h48', Question.forced, hc, holds, newRow, grownCap]
  congr 2
  apply Array.ext'
  simp [List.append_assoc]

theorem app_room (ty : TypeId) (g sLen sCap : Nat) (e0 : TypeId) (cur : Array Value) (hg : w.heap[g]? = some (.cells cur e0 (0, 0))) (y : Value) (m : Nat) (news : List Value) (hs : Src1 P w i.size y m news)
    (h1 : ∀ u ∈ news, u.oneCell' = true) (hroom : sLen + m ≤ sCap) (hfit : sLen * i.size + news.length ≤ cur.size) :
    (Builtin.append_ #[t, t'] ty #[.slice (some ⟨g, 0, none⟩) sLen sCap, y]).run P w =
      .ok (.slice (some ⟨g, 0, none⟩) (sLen + m) sCap) (w.setRow g (cur.toList.take (sLen * i.size) ++ news ++ cur.toList.drop (sLen * i.size + news.length)).toArray) := by
  have hst := run_storeCells_at P g (sLen * i.size) e0 news 0 cur w hg (by simpa using hfit) h1
  simp only [Nat.add_zero] at hst
  have hl := hs.len
  have hc := hs.cells
  simp [Builtin.append_, run_underlying ht, run_underlying ht', sizeOf, typeInfo, hi, hl, hroom, hc, Addr.add_lit, hst]

theorem app_nothing (ty : TypeId) (b : Option Addr) (sLen sCap : Nat) (hle : sLen ≤ sCap) (y : Value) (hs : Src1 P w i.size y 0 []) :
    (Builtin.append_ #[t, t'] ty #[.slice b sLen sCap, y]).run P w = .ok (.slice b sLen sCap) w := by
  have hl := hs.len
  have hc := hs.cells
  cases b <;> simp [Builtin.append_, run_underlying ht, run_underlying ht', sizeOf, typeInfo, hi, hl, hle, hc, storeCells]
end

theorem grown_size {z : Array Value} {olds news : List Value} {n m cap : Nat} (ho : olds.length = n * z.size) (hn : news.length = m * z.size) (hc : n + m ≤ cap) :
    (olds.toArray ++ news.toArray ++ Builtin.zeroCells z (cap - (n + m))).size = cap * z.size := by
  simp only [Array.size_append, List.size_toArray, size_zeroCells, ho, hn, ← Nat.add_mul]
  congr 1
  omega
theorem grown_getD {z : Array Value} {olds news : List Value} {k : Nat} (j : Nat) (hj : j < olds.length + news.length) :
    (olds.toArray ++ news.toArray ++ Builtin.zeroCells z k).getD j undef = if j < olds.length then olds.getD j undef else news.getD (j - olds.length) undef := by
  rw [Array.getD_eq_getD_getElem?, Array.getElem?_append_left (by simpa using hj)]
  by_cases h1 : j < olds.length
  · rw [if_pos h1, Array.getElem?_append_left (by simpa using h1)]
    simp
  · rw [if_neg h1, Array.getElem?_append_right (by simpa using h1)]
    simp

theorem append_sound (H : HInv β h w) {t t' ty : TypeId} {e' : TypeId} (ht' : P.underlying t' = some (.slice e')) {s : Name} {x y : PV} {v u : Value} (hx : Rep β h w x v) (hy : Rep β h w y u) {o : Out} (ho : opAppend P h s t x y = some o) :
    Does P β h w (Builtin.append_ #[t, t'] ty #[v, u]) o.ups fun β h w r => Rep β h w o.val r := by
  unfold opAppend at ho
  split at ho
  case h_2 => cases ho
  rename_i e he
  have hu := elemB_some he
  split at ho
  case h_2 => cases ho
  rename_i zs hz
  obtain ⟨i, z, hi, hzz, hsz, rfl, hlen⟩ := zeroB_some hz
  split at ho
  case h_2 => cases ho
  rename_i k k2 hk hk2
  split at ho
  case h_2 => cases ho
  rename_i xs hxs
  split at ho
  case isFalse => cases ho
  rename_i hc
  obtain ⟨hpos, hby, hmx⟩ := hc
  simp only [Array.length_toList] at *
  rw [hsz] at hxs hpos
  have hbi : P.bytesOf e = i.bytes := by simp [Program.bytesOf, hi]
  rw [hbi] at hby
  obtain ⟨news, hsrc, hnl, hn1, hnr⟩ := src_of (P := P) H hk2 hxs hy
  obtain ⟨a, cap, rfl, hkc, hanone⟩ := sk_slice hk hx
  have hxsl : xs.length = k2.len * i.size := by rw [← hnl]; exact hsrc.size
  generalize hk2len : k2.len = m at *
  split at ho
  · rename_i hm
    have hnews : news = [] := List.eq_nil_of_length_eq_zero (by rw [hsrc.size, hm, Nat.zero_mul])
    subst hnews
    rw [hm] at hsrc
    have hrun := app_nothing hu ht' hi hzz ty a k.len cap hkc u hsrc
    have hR : ∀ o', some (⟨x, []⟩ : Out) = some o' → Does P β h w (Builtin.append_ #[t, t'] ty #[.slice a k.len cap, u]) o'.ups fun β h w r => Rep β h w o'.val r := fun o' ho' => by
      cases ho'
      exact ⟨β, w, _, hrun, H, Ext.refl _ _ _, hx⟩
    cases k with
    | nil => exact hR o ho
    | own b off z' n top => exact hR o ho
    | imm n cs => cases ho
  · rename_i hm
    have h63 : ((k.len + m : Nat) : Int) ≤ 9223372036854775807 := by simp only [maxLen] at hmx; omega
    have hmpos : 0 < m := Nat.pos_of_ne_zero hm
    have hxpos : 0 < xs.length := by rw [hxsl]; exact Nat.mul_pos hmpos hpos
    cases k with
    | nil =>
      obtain ⟨hs, rfl⟩ := newBox_some ho
      have := sk_rep hk; subst this
      have hv := rep_plain hx
      cases hv
      simp only [SK.len] at *
      have hrun := app_grow hu ht' hi hzz ty none 0 0 u m [] news hsrc (by simp [Builtin.firstCells]) (by omega) h63 (growslice_fits (by omega) hby)
      have hge := grownCap_ge w (0 + m) 0 e
      obtain ⟨H1, E1, _, R1⟩ := new_row (cs := xs) (s := s) (β := β) (w := w.drew) H.drew hs e (c := ([] : List Value).toArray ++ news.toArray ++ Builtin.zeroCells z.cells (grownCap w (0 + m) 0 e - (0 + m))) (by simp; omega) (fun j x hj => by
        have hlt := (List.getElem?_eq_some_iff.1 hj).1
        rw [grown_getD j (by simp; omega)]
        simp only [List.length_nil, Nat.not_lt_zero, if_false, Nat.sub_zero]
        refine ⟨hn1 _ ?_, (hnr j x hj).mono fun a v => Rd.mono (Ext.drew β h w)⟩
        rw [List.getD_eq_getElem?_getD, List.getElem?_eq_getElem (by omega)]
        simp)
      have R2 := R1 i.size (0 + m) (grownCap w (0 + m) 0 e) hge (by rw [grown_size (n := 0) (by simp) (by rw [hsrc.size, hsz]) hge, hsz]; exact Nat.le_refl _)
      unfold Does
      simp only [List.nil_append, Heap.ups_cons, Heap.ups_nil]
      refine ⟨_, _, _, hrun, H1, (Ext.drew β h w).trans E1, ?_⟩
      rw [hsz]
      simpa using R2
    | imm n cs => cases ho
    | own b off z' n top =>
      simp only at ho
      have := sk_rep hk; subst this
      simp only [SK.len] at *
      cases hx with
      | view b off z' n top x a cap hb hrow ht hn ha hva =>
        rw [hb] at ho
        cases x with
        | var _ => simp [Box.isRow] at hrow
        | row fz cs =>
          cases fz with
          | true => simp at ho
          | false =>
            simp only at ho
            split at ho
            case isFalse => cases ho
            rename_i hcc
            obtain ⟨hc1, hc2, hc3, hc4⟩ := hcc
            cases ho
            subst hc2
            subst hc3
            obtain ⟨c, e0, hcg, hr, hcell⟩ := box_cell H hb
            have hlt : (Box.row false cs).len < (Box.row false (cs ++ xs)).len := by simp [Box.len]; omega
            have grow : ∀ olds : List Value, olds.length = n * i.size → (∀ j x, cs[j]? = some x → (olds.getD j undef).oneCell' = true ∧ RepI (Rd β h w) x (olds.getD j undef)) → cap < n + m →
                (Builtin.firstCells i.size n (.slice a n cap)).run P w.drew = .ok olds.toArray w.drew →
                Does P β h w (Builtin.append_ #[t, t'] ty #[.slice a n cap, u]) [(b, .row false (cs ++ xs))] fun β h w r => Rep β h w (.view b 0 z.cells.size (n + m) (cs ++ xs).length) r := by
              intro olds hol hor hg hfirst
              have hrun := app_grow hu ht' hi hzz ty a n cap u m olds news hsrc hfirst hg h63 (growslice_fits hg hby)
              have hge := grownCap_ge w (n + m) cap e
              have hcsz := grown_size (z := z.cells) (olds := olds) (news := news) (n := n) (m := m) (cap := grownCap w (n + m) cap e) (by rw [hol, hsz]) (by rw [hsrc.size, hsz]) hge
              have E0 := Ext.drew β h w
              have E1 := Ext.move (β := β) (w := w.drew) (x' := .row false (cs ++ xs)) H.drew hb (.cells (olds.toArray ++ news.toArray ++ Builtin.zeroCells z.cells (grownCap w (n + m) cap e - (n + m))) e) rfl hlt
              have hcsl : cs.length = olds.length := by rw [hc4, hol, hsz]
              refine ⟨_, _, _, hrun, ?_, E0.trans E1, ?_⟩
              · refine HInv.move (β := β) (w := w.drew) H.drew hb _ e rfl hlt ⟨?_, fun j y hj => ?_⟩
                · simp; omega
                · have hjl := (List.getElem?_eq_some_iff.1 hj).1
                  simp only [List.length_append] at hjl
                  rw [grown_getD j (by omega)]
                  rw [List.getElem?_append] at hj
                  split
                  · rename_i hlo
                    rw [if_pos (by omega)] at hj
                    exact ⟨(hor j y hj).1, ((hor j y hj).2.mono fun a v => Rd.mono E0).mono fun a v => Rd.mono E1⟩
                  · rename_i hlo
                    rw [if_neg (by omega), hcsl] at hj
                    refine ⟨hn1 _ ?_, ((hnr _ y hj).mono fun a v => Rd.mono E0).mono fun a v => Rd.mono E1⟩
                    rw [List.getD_eq_getElem?_getD, List.getElem?_eq_getElem (by omega)]
                    simp
              · refine .view _ _ _ _ _ (.row false (cs ++ xs)) _ _ (Heap.put_same _ _ _) rfl (Nat.le_refl _) hge (fun he => by cases he) fun _ => .inr ⟨?_, ?_⟩
                · rw [setβ_same]; rfl
                · rw [setβ_same]
                  unfold szW
                  rw [show w.drew.heap.size = w.drew.heap.size from rfl, heap_alloc_new]
                  simp only [hcsz]
                  omega
            by_cases hroom : n + m ≤ cap
            · rcases hva hc1 with ⟨h0, h00⟩ | ⟨h0, h00⟩
              · omega
              · subst h0
                have hszc : szW w (β b) = c.size := by unfold szW; rw [hcg]
                rw [hszc] at h00
                have hfit : n * i.size + news.length ≤ c.size := by
                  rw [hsrc.size, ← Nat.add_mul]
                  have := Nat.mul_le_mul_right i.size hroom
                  rw [hsz] at h00
                  omega
                have hrun := app_room hu ht' hi hzz ty (β b) n cap e0 c hcg u m news hsrc hn1 hroom hfit
                rw [show (c.toList.take (n * i.size) ++ news ++ c.toList.drop (n * i.size + news.length)) = spliceL c.toList (n * i.size) news from rfl] at hrun
                have hsp : (spliceL c.toList (n * i.size) news).toArray.size = c.size := by simp [splice_len (cs := c.toList) (vs := news) (off := n * i.size) (by simpa using hfit)]
                have E := Ext.write (x' := .row false (cs ++ xs)) H hb rfl rfl hcg hsp rfl (Nat.le_of_lt hlt)
                have hcsl : cs.length = n * i.size := by rw [hc4, hsz]
                refine ⟨β, _, _, hrun, HInv.write H hb rfl rfl hcg hsp rfl (Nat.le_of_lt hlt) ⟨?_, fun j y hj => ?_⟩, E, ?_⟩
                · rw [hsp]; simp; omega
                · have hjl := (List.getElem?_eq_some_iff.1 hj).1
                  simp only [List.length_append] at hjl
                  rw [splice_getD hfit]
                  rw [List.getElem?_append] at hj
                  split
                  · rename_i hin
                    rw [if_neg (by omega), hcsl] at hj
                    refine ⟨hn1 _ ?_, (hnr _ y hj).mono fun a v => Rd.mono E⟩
                    rw [List.getD_eq_getElem?_getD, List.getElem?_eq_getElem (by omega)]
                    simp
                  · rename_i hin
                    rw [if_pos (by omega)] at hj
                    exact ⟨(hr.2 j y hj).1, (hr.2 j y hj).2.mono fun a v => Rd.mono E⟩
                · refine .view _ _ _ _ _ (.row false (cs ++ xs)) _ _ (Heap.put_same _ _ _) rfl (Nat.le_refl _) hroom (fun he => by cases he) fun _ => .inr ⟨rfl, ?_⟩
                  rw [szW_setRow w _ c _ e0 hcg hsp, hszc]
                  omega
            · rcases hva hc1 with ⟨h0, h00⟩ | ⟨h0, h00⟩
              · subst h0
                have hcs0 : cs = [] := List.eq_nil_of_length_eq_zero (by rw [hc4, Nat.zero_mul])
                refine grow [] (by simp) (fun j x hj => by simp [hcs0] at hj) (by omega) ?_
                cases a <;> simp [Builtin.firstCells, loadCells, loadCellsFrom]
              · subst h0
                have hcsl : cs.length = n * i.size := by rw [hc4, hsz]
                refine grow ((List.range (n * i.size)).map fun j => c.getD j undef) (by simp) (fun j x hj => ?_) (by omega) ?_
                · have hlt' := (List.getElem?_eq_some_iff.1 hj).1
                  have : ((List.range (n * i.size)).map fun j => c.getD j undef).getD j undef = c.getD j undef := by
                    rw [List.getD_eq_getElem?_getD, List.getElem?_map, List.getElem?_range (by omega)]; rfl
                  rw [this]
                  exact hr.2 j x hj
                · simp only [Builtin.firstCells]
                  refine loadCells_run (w := w.drew) _ _ _ fun j hj => ?_
                  rw [add_lit, Nat.zero_add]
                  exact hcell j (by have := hr.1; omega)
end Go.Proofs.Ytnnkoghmglpnmaa.TM
