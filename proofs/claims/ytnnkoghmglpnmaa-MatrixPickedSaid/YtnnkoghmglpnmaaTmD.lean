/- TM and the model: each operation that makes an address or a part, and plain values. Conditions: none; lemmas. -/
import Derived.Test.YtnnkoghmglpnmaaTmC
namespace Go.Proofs.Ytnnkoghmglpnmaa.TM
open Go
set_option linter.unusedVariables false
set_option linter.defProp false
set_option linter.unusedSimpArgs false

variable {P : Program} {β : Pl} {h : Heap} {w : World}

def ORep (β : Pl) (h : Heap) (w : World) : Option PV → Option Value → Prop
  | none, none => True
  | some p, some v => Rep β h w p v
  | _, _ => False

theorem sliceBound_run {k : IntKind} {i : Int} {y : Nat} (code : BoundsCode) (h0 : 0 ≤ i) (hy : i.toNat ≤ y) : (Instr.sliceBound (.int k i) y code).run P w = .ok i.toNat w := by
  have : 0 ≤ i ∧ i ≤ y := ⟨h0, by omega⟩
  simp [Instr.sliceBound, asIntOf, this]

theorem optNat_run {o : Option PV} {d n y : Nat} (ho : optNat o d = some n) {ov : Option Value} (hr : ORep β h w o ov) (hy : n ≤ y) (code : BoundsCode) :
    (o = none ∧ ov = none ∧ n = d) ∨ ∃ v, ov = some v ∧ (∃ p, o = some p) ∧ (Instr.sliceBound v y code).run P w = .ok n w := by
  cases o with
  | none => cases ov with
    | none => simp only [optNat] at ho; exact .inl ⟨rfl, rfl, by cases ho; rfl⟩
    | some v => exact hr.elim
  | some p => cases ov with
    | none => exact hr.elim
    | some v =>
      obtain ⟨k, i, rfl, h0, rfl⟩ := natOf_some ho hr
      exact .inr ⟨_, rfl, ⟨p, rfl⟩, sliceBound_run code h0 hy⟩

theorem sliceBounds_run {lo hi mx : Option PV} {lo' hi' mx' : Option Value} (hl : ORep β h w lo lo') (hh : ORep β h w hi hi') (hm : ORep β h w mx mx')
    {len cap l g m : Nat} (h1 : optNat lo 0 = some l) (h2 : optNat hi len = some g) (h3 : optNat mx len = some m) (hlg : l ≤ g) (hgm : g ≤ m) (hmc : m ≤ cap) (hmh : mx.isSome → hi.isSome) :
    (Instr.sliceBounds true len cap lo' hi' mx').run P w = .ok (l, g, if mx.isSome then m else cap) w := by
  have hmm := optNat_run (P := P) h3 hm hmc .slice3Acap
  unfold Instr.sliceBounds
  rcases hmm with ⟨rfl, rfl, rfl⟩ | ⟨v, rfl, ⟨p, rfl⟩, hv⟩
  · have hgg := optNat_run (P := P) h2 hh (Nat.le_trans hgm hmc) .sliceAcap
    have hll := optNat_run (P := P) h1 hl hlg .sliceB
    rcases hgg with ⟨rfl, rfl, rfl⟩ | ⟨v, rfl, ⟨p, rfl⟩, hv⟩ <;> rcases hll with ⟨rfl, rfl, rfl⟩ | ⟨v', rfl, ⟨p', rfl⟩, hv'⟩ <;> simp [*]
  · have hgg := optNat_run (P := P) h2 hh hgm .slice3B
    have hll := optNat_run (P := P) h1 hl hlg .slice3C
    rcases hgg with ⟨rfl, rfl, rfl⟩ | ⟨v2, rfl, ⟨p, rfl⟩, hv2⟩
    · simp at hmh
    · rcases hll with ⟨rfl, rfl, rfl⟩ | ⟨v', rfl, ⟨p', rfl⟩, hv'⟩ <;> simp [*]

theorem slice_sound {t : TypeId} {x p : PV} {lo hi mx : Option PV} {lo' hi' mx' : Option Value} {v : Value} (hx : Rep β h w x v) (hl : ORep β h w lo lo') (hh : ORep β h w hi hi') (hm : ORep β h w mx mx')
    (hp : opSlice P t x lo hi mx = some p) : ∃ u, (Instr.sliceAt t v lo' hi' mx').run P w = .ok u w ∧ Rep β h w p u := by
  unfold opSlice at hp
  split at hp
  case h_2 => cases hp
  rename_i e hu
  replace hu := tk_sl hu
  split at hp
  case h_2 => cases hp
  rename_i k hk
  split at hp
  case h_2 => cases hp
  rename_i l g m h1 h2 h3
  split at hp
  case isFalse => cases hp
  rename_i hc
  obtain ⟨hlg, hgm, hmk, hmh, hinfo⟩ := hc
  obtain ⟨i, hi⟩ := infoB_some hinfo
  obtain ⟨a, cap, rfl, hkc, hanone⟩ := sk_slice hk hx
  have hb := sliceBounds_run (P := P) (w := w) hl hh hm h1 h2 h3 hlg hgm (Nat.le_trans hmk hkc) hmh
  have hrun : (Instr.sliceAt t (.slice a k.len cap) lo' hi' mx').run P w =
      .ok (.slice (if (if mx.isSome then m else cap) = l then a else a.map (·.add (l * szOf P e))) (g - l) ((if mx.isSome then m else cap) - l)) w := by
    simp [Instr.sliceAt, Instr.slice, run_underlying hu, hb, sizeOf_run hi]
  generalize hM : (if mx.isSome then m else cap) = M at hrun
  have hMcap : M ≤ cap := by subst hM; split <;> omega
  have hgM : g ≤ M := by subst hM; split <;> omega
  refine ⟨_, hrun, ?_⟩
  have := sk_rep hk; subst this
  cases k with
  | nil =>
    cases hp
    cases hx with
    | i x v hx => cases hx; simp only [SK.len] at *; obtain rfl : l = 0 := by omega
                  obtain rfl : g = 0 := by omega
                  obtain rfl : M = 0 := by omega
                  exact .i _ _ (.v _)
  | imm n cs =>
    simp only at hp
    split at hp
    case isFalse => cases hp
    rename_i hcl
    cases hp
    simp only [SK.len] at *
    cases hx with
    | i x v hx =>
      cases hx with
      | nil =>
        obtain rfl : l = 0 := by omega
        obtain rfl : g = 0 := by omega
        obtain rfl : M = 0 := by omega
        simpa using (RepP.i _ _ .nil : Rep β h w (.i (.l 0 [])) (.slice none 0 0))
      | l n cs a cap f hc hr h1' hs =>
        refine .i _ _ ?_
        have hlen : ((cs.drop (l * szOf P e)).take ((g - l) * szOf P e)).length = (g - l) * szOf P e := by
          simp only [List.length_take, List.length_drop, hcl]
          have : l * szOf P e + (g - l) * szOf P e ≤ n * szOf P e := by rw [← Nat.add_mul]; exact Nat.mul_le_mul_right _ (by omega)
          omega
        by_cases hml : M = l
        · rw [if_pos hml]
          have hgl : g - l = 0 := by omega
          refine .l _ _ a _ f (by omega) (fun j hj => ?_) (fun j hj => ?_) (fun j x hj => ?_)
          · rw [hlen, hgl] at hj; omega
          · rw [hlen, hgl] at hj; omega
          · have := (List.getElem?_eq_some_iff.1 hj).1; rw [hlen, hgl] at this; omega
        · rw [if_neg hml]
          have hle : ∀ j, j < (g - l) * szOf P e → l * szOf P e + j < cs.length := fun j hj => by
            rw [hcl]
            have : l * szOf P e + (g - l) * szOf P e ≤ n * szOf P e := by rw [← Nat.add_mul]; exact Nat.mul_le_mul_right _ (by omega)
            omega
          refine .l _ _ _ _ (fun j => f (l * szOf P e + j)) (by omega) (fun j hj => ?_) (fun j hj => ?_) (fun j x hj => ?_)
          · rw [Addr.add_add]; exact hr _ (hle j (by omega))
          · exact h1' _ (hle j (by omega))
          · exact hs _ _ (take_drop_get hj).2
  | own b off z n top =>
    simp only at hp
    split at hp
    case isFalse => cases hp
    rename_i hz
    cases hp
    simp only [SK.len] at *
    cases hx with
    | view b off z n top x a cap hb' hrow ht hn ha hv =>
      subst hz
      by_cases hml : M = l
      · rw [if_pos hml]
        exact .view _ _ _ _ _ x _ _ hb' hrow ht (by omega) (fun he => ⟨by omega, by omega⟩) (fun he => .inl ⟨by omega, by omega⟩)
      · rw [if_neg hml]
        refine .view _ _ _ _ _ x _ _ hb' hrow ht (by omega) (fun he => ?_) (fun he => ?_)
        · have : a = none := by cases a <;> simp_all
          have := ha this
          omega
        · rcases hv he with h0 | ⟨h0, h0'⟩
          · exact absurd (show M = l by omega) hml
          · refine .inr ⟨by rw [h0]; simp [add_lit], ?_⟩
            have hq : l * szOf P e + (M - l) * szOf P e ≤ cap * szOf P e := by rw [← Nat.add_mul]; exact Nat.mul_le_mul_right _ (by omega)
            omega

theorem fieldAddr_sound {s : TypeId} {x p : PV} {f : Nat} {v : Value} (hx : Rep β h w x v) (hp : opFieldAddr P s x f = some p) : ∃ u, (Instr.fieldAt s v f).run P w = .ok u w ∧ Rep β h w p u := by
  unfold opFieldAddr at hp
  split at hp
  case h_2 => cases hp
  rename_i ty o hf
  obtain ⟨fs, q, i, dd, hu, hq, rfl, rfl, hi, hpos, _⟩ := fieldB_some hf
  have hsz : szOf P q.type ≠ 0 := by
    simp [szOf, Program.cellsOf, hi]; omega
  have hrun : ∀ a, (Instr.fieldAt s (.pointer (some a)) f).run P w = .ok (.pointer (some (a.add q.offset))) w := by
    intro a
    simp [Instr.fieldAt, run_underlying hu, hq, Instr.sureAddr, fieldPlace, sizeOf_run hi, hsz]
  cases hx with
  | ref b off top x a hb ht hv =>
    cases hp
    refine ⟨_, hrun a, .ref _ _ _ x _ hb ht fun he => ?_⟩
    rw [hv he, add_lit]
  | iref cs off a g hr h1 hs =>
    cases hp
    refine ⟨_, hrun _, ?_⟩
    rw [Addr.add_add]
    exact .iref _ _ a g hr h1 hs
  | _ => cases hp

theorem indexAddr_sound {t : TypeId} {x ix p : PV} {v iv : Value} (hx : Rep β h w x v) (hix : Rep β h w ix iv) (hp : opIndexAddr P t x ix = some p) : ∃ u, (Instr.indexAt t v iv).run P w = .ok u w ∧ Rep β h w p u := by
  unfold opIndexAddr at hp
  split at hp
  case h_3 => cases hp
  · rename_i e i hu hn
    replace hu := tk_sl hu
    obtain ⟨k, n, rfl, h0, rfl⟩ := natOf_some hn hix
    split at hp
    case h_3 => cases hp
    · rename_i m cs hk
      split at hp
      case isFalse => cases hp
      rename_i hc
      obtain ⟨q, hq⟩ := infoB_some hc.2
      have := sk_rep hk; subst this
      cases hp
      cases hx with
      | i x v hx => cases hx with
        | nil => exact absurd hc.1 (by simp)
        | l n' cs a cap f hcc hr h1 hs =>
          have hin : 0 ≤ n ∧ n < m := ⟨h0, by omega⟩
          refine ⟨.pointer (some (a.add (n.toNat * szOf P e))), by simp [Instr.indexAt, asIntOf, run_underlying hu, hin, sizeOf_run hq], .iref _ _ a f hr h1 hs⟩
    · rename_i b off z m top hk
      split at hp
      case isFalse => cases hp
      rename_i hc
      obtain ⟨hlt, hz, hinfo⟩ := hc
      obtain ⟨q, hq⟩ := infoB_some hinfo
      have := sk_rep hk; subst this
      cases hp
      cases hx with
      | view b off z n' top x a cap hb hrow ht hn' ha hv =>
        have hin : 0 ≤ n ∧ n < m := ⟨h0, by omega⟩
        cases a with
        | none => have := ha rfl; omega
        | some a =>
          refine ⟨.pointer (some (a.add (n.toNat * szOf P e))), by simp [Instr.indexAt, asIntOf, run_underlying hu, hin, sizeOf_run hq], .ref _ _ _ x _ hb ht fun he => ?_⟩
          rcases hv he with ⟨h0', _⟩ | ⟨h0', _⟩
          · omega
          · cases h0'; rw [add_lit, hz]
  · rename_i m e i hu hn
    replace hu := tk_arr hu
    obtain ⟨k, n, rfl, h0, rfl⟩ := natOf_some hn hix
    split at hp
    case isFalse => cases hp
    rename_i hc
    obtain ⟨q, hq⟩ := infoB_some hc.2
    have hin : 0 ≤ n ∧ n < m := ⟨h0, by omega⟩
    have hrun : ∀ a, (Instr.indexAt t (.pointer (some a)) (.int k n)).run P w = .ok (.pointer (some (a.add (n.toNat * szOf P e)))) w := by
      intro a
      simp [Instr.indexAt, asIntOf, run_underlying hu, hin, sizeOf_run hq, Instr.sureAddr]
    cases hx with
    | ref b off top x a hb ht hv =>
      cases hp
      exact ⟨_, hrun a, .ref _ _ _ x _ hb ht fun he => by rw [hv he, add_lit]⟩
    | iref cs off a g hr h1 hs =>
      cases hp
      refine ⟨_, hrun _, ?_⟩
      rw [Addr.add_add]
      exact .iref _ _ a g hr h1 hs
    | _ => cases hp
end Go.Proofs.Ytnnkoghmglpnmaa.TM
