/- TM and the model: copy, and one operation as a whole. Conditions: none; lemmas. -/
import Derived.Test.YtnnkoghmglpnmaaTmI
namespace Go.Proofs.Ytnnkoghmglpnmaa.TM
open Go
set_option linter.unusedVariables false
set_option linter.defProp false
set_option linter.unusedSimpArgs false

variable {P : Program} {β : Pl} {h : Heap} {w : World}

theorem copy_sound (H : HInv β h w) {t t' ty : TypeId} {x y : PV} {v u : Value} (hx : Rep β h w x v) (hy : Rep β h w y u) {o : Out} (ho : opCopy P h t x y = some o) :
    Does P β h w (Builtin.copy_ #[t, t'] ty #[v, u]) o.ups fun β h w r => Rep β h w o.val r := by
  unfold opCopy at ho
  split at ho
  case h_2 => cases ho
  rename_i e he
  have hu := elemB_some he
  split at ho
  case h_2 => cases ho
  rename_i b off z n top k2 hk hk2
  split at ho
  case h_2 => cases ho
  rename_i xs cs hxs hb
  split at ho
  case isFalse => cases ho
  rename_i hc
  obtain ⟨hz, hpos, hinfo, htop, hfit⟩ := hc
  obtain ⟨i, hi⟩ := infoB_some hinfo
  have hzi : z = i.size := by rw [hz]; simp [szOf, Program.cellsOf, hi]
  cases ho
  obtain ⟨hlen, hcase⟩ := sk_cells H hk2 hxs hy
  have := sk_rep hk; subst this
  obtain ⟨a2, cap2, rfl, _, _⟩ := sk_slice hk2 hy
  have hmin : Nat.min k2.len n = min k2.len n := rfl
  -- the cells that are read
  obtain ⟨news, hnl, hn1, hnr, hrd⟩ : ∃ news : List Value, news.length = min k2.len n * z ∧ (∀ q ∈ news, q.oneCell' = true) ∧ (∀ j x, (xs.take (min k2.len n * z))[j]? = some x → RepI (Rd β h w) x (news.getD j undef)) ∧
      (Builtin.firstCells z (min k2.len n) (.slice a2 k2.len cap2)).run P w = .ok news.toArray w := by
    rcases hcase with ⟨hnil, cap, he⟩ | ⟨a, cap, he, f, hf, h1, hr⟩
    · cases he
      subst hnil
      have h0 : min k2.len n * z = 0 := by
        have : k2.len * z = 0 := by simpa using hlen.symm
        have := Nat.mul_le_mul_right z (Nat.min_le_left k2.len n)
        omega
      refine ⟨[], by simp [h0], fun q hq => by simp at hq, fun j x hj => by simp at hj, by simp [Builtin.firstCells]⟩
    · cases he
      have hle : min k2.len n * z ≤ xs.length := by rw [hlen]; exact Nat.mul_le_mul_right z (Nat.min_le_left _ _)
      refine ⟨(List.range (min k2.len n * z)).map f, by simp, fun q hq => ?_, fun j x hj => ?_, ?_⟩
      · obtain ⟨j, hj, rfl⟩ := List.mem_map.1 hq
        exact h1 j (by have := List.mem_range.1 hj; omega)
      · have hlt := (List.getElem?_eq_some_iff.1 hj).1
        simp at hlt
        have : ((List.range (min k2.len n * z)).map f).getD j undef = f j := by
          rw [List.getD_eq_getElem?_getD, List.getElem?_map, List.getElem?_range (by omega)]; rfl
        rw [this]
        rw [List.getElem?_take, if_pos (by omega)] at hj
        exact hr j x hj
      · exact loadCells_run (w := w) a _ f fun j hj => hf j (by omega)
  obtain ⟨c, e0, hcg, hr, hcell⟩ := box_cell H hb
  have htake : (xs.take (min k2.len n * z)).length = news.length := by
    rw [hnl, List.length_take]
    have : min k2.len n * z ≤ xs.length := by rw [hlen]; exact Nat.mul_le_mul_right z (Nat.min_le_left _ _)
    omega
  have hfit2 : off + news.length ≤ cs.length := by
    have := Nat.mul_le_mul_right z (Nat.min_le_right k2.len n)
    omega
  have hfit3 : off + news.length ≤ c.size := by have := hr.1; omega
  cases hx with
  | view b off z n top x a cap hb' hrow ht hn ha hva =>
    rw [hb] at hb'; cases hb'
    have hrunG : ∀ (sto : Result Unit) (w' : World), (match a with | some a => (storeCells a news).run P w | none => .ok () w) = .ok () w' → (Builtin.copy_ #[t, t'] ty #[.slice a n cap, .slice a2 k2.len cap2]).run P w = .ok (.int .i64 (min k2.len n : Nat)) w' := by
      intro _ w' hs
      rw [hzi] at hrd
      cases a <;> simp_all [Builtin.copy_, run_underlying hu, sizeOf, typeInfo, Builtin.lenOf, goInt]
    rcases hva htop with ⟨h0, h00⟩ | ⟨h0, h00⟩
    · subst h0
      have hn0 : news = [] := List.eq_nil_of_length_eq_zero (by rw [hnl]; simp)
      subst hn0
      have hrun := hrunG (.ok () w) w (by cases a <;> simp [storeCells])
      have hsame : spliceL cs off (xs.take (min k2.len 0 * z)) = cs := by simp [spliceL]
      rw [hsame]
      have hhb : h.ups [(b, .row false cs)] = h := by
        funext q
        rw [Heap.ups_cons, Heap.ups_nil]
        by_cases hq : q = b
        · subst hq; rw [Heap.put_same, hb]
        · rw [Heap.put_ne _ _ hq]
      unfold Does
      rw [hhb]
      exact ⟨β, w, _, hrun, H, Ext.refl _ _ _, .i _ _ (.v _)⟩
    · subst h0
      have hst := run_storeCells_at P (β b) off e0 news 0 c w hcg (by simpa using hfit3) hn1
      simp only [Nat.add_zero] at hst
      have hrun := hrunG (.ok () w) _ hst
      rw [show (c.toList.take off ++ news ++ c.toList.drop (off + news.length)) = spliceL c.toList off news from rfl] at hrun
      have hsp : (spliceL c.toList off news).toArray.size = c.size := by simp [splice_len (cs := c.toList) (vs := news) (off := off) (by simpa using hfit3)]
      have hx' : (Box.row false (spliceL cs off (xs.take (min k2.len n * z)))).len = (Box.row false cs).len := by
        simp only [Box.len]; rw [splice_len (by rw [htake]; exact hfit2)]
      have E := Ext.write (x' := .row false (spliceL cs off (xs.take (min k2.len n * z)))) H hb rfl rfl hcg hsp rfl (Nat.le_of_eq hx'.symm)
      refine ⟨β, _, _, hrun, HInv.write H hb rfl rfl hcg hsp rfl (Nat.le_of_eq hx'.symm) ⟨?_, fun j y hj => ?_⟩, E, .i _ _ (.v _)⟩
      · rw [hsp, splice_len (by rw [htake]; exact hfit2)]; exact hr.1
      · rw [splice_getD hfit3]
        rw [splice_get (by rw [htake]; exact hfit2), htake] at hj
        split at hj
        · rename_i hin
          rw [if_pos hin]
          refine ⟨hn1 _ ?_, (hnr _ y hj).mono fun a v => Rd.mono E⟩
          rw [List.getD_eq_getElem?_getD, List.getElem?_eq_getElem (by omega)]
          simp
        · rename_i hin
          rw [if_neg hin]
          exact ⟨(hr.2 j y hj).1, (hr.2 j y hj).2.mono fun a v => Rd.mono E⟩
end Go.Proofs.Ytnnkoghmglpnmaa.TM
