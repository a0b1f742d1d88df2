/- slices.Chunk: its contract for loops over iterators. -/
import Derived.Test.YtkhjfphenflefaaWIter
import Derived.Test.YtkhjfphenflefaaWWords
namespace Go.Proofs.Ytkhjfphenflefaa.TM
open Go Go.RowKit
set_option linter.unusedVariables false
set_option linter.defProp false
set_option linter.unusedSimpArgs false
/-- A captured variable's place, and what lies there. -/
theorem iter_ref {β : Pl} {h : Heap} {w : World} (H : HInv β h w) {c : Name} {x : PV} (hc : h c = some (.var [x])) {v : Value} (hr : Rep β h w (.ref c 0 1) v) :
    v = .pointer (some ⟨β c, 0, none⟩) ∧ ∃ u, w.cell? ⟨β c, 0, none⟩ = some u ∧ Rep β h w x u := by
  cases hr with
  | ref b off top y a hb ht hv =>
    rw [hc] at hb; cases hb
    refine ⟨by rw [hv rfl], ?_⟩
    obtain ⟨cc, e, ho, h1, h2⟩ := H.cells hc rfl
    have hlen : 1 ≤ cc.size := h1
    refine ⟨cc.getD 0 undef, ?_, (h2 0 x rfl).2⟩
    unfold World.cell?
    rw [ho]
    simp [Array.getD_eq_getD_getElem?, show 0 < cc.size from hlen]

/-- slices.Chunk's function value hands over the parts of q elements, one by one. -/
theorem chunkU_iter {h : Heap} {cS cN : Name} {N q : Nat} {cs : List IV} (hS : h cS = some (.var [.i (.l (N * q) cs)])) (hN : h cN = some (.var [i64 q])) (hl : cs.length = N * q) (hq : 1 ≤ q) (hb : N * q ≤ 17592186043904) :
    IterC Try.prog 68 [.ref cS 0 1, .ref cN 0 1] h [cS, cN] {k : Nat // k < N} (fun k => [.i (.l q ((cs.drop (k.1 * q)).take q))]) (fun xs => xs.map (·.1) = List.range N) N := by
  intro β w lb H hlb
  obtain ⟨hls, hlr⟩ := hlb
  obtain ⟨e1, x1⟩ := iter_ref H hS (hlr 0 _ rfl)
  obtain ⟨e2, x2⟩ := iter_ref H hN (hlr 1 _ rfl)
  have elb : lb = #[.pointer (some ⟨β cS, 0, none⟩), .pointer (some ⟨β cN, 0, none⟩)] := by
    obtain ⟨l⟩ := lb
    match l, hls, e1, e2 with
    | [a, b], _, e1, e2 => simp at e1 e2; subst e1; subst e2; rfl
  subst elb
  obtain ⟨sv, hsv, hsr⟩ := x1
  obtain ⟨nv, hnv, hnr⟩ := x2
  have hnv' : nv = .int .i64 q := by cases hnr with | i x v hx => cases hx with | v => rfl
  subst hnv'
  have hlt1 := H.lt hS
  have hlt2 := H.lt hN
  -- the slice's value
  obtain ⟨ad, cap, rfl, hcap, hcell⟩ : ∃ ad cap, sv = .slice ad (N * q) cap ∧ N * q ≤ cap ∧ (1 ≤ N → ∃ b off, ad = some ⟨b, off, none⟩ ∧ ∃ f : Nat → Value, (∀ j, j < N * q → Rd β h w ⟨b, off + j, none⟩ (f j)) ∧ (∀ j, j < N * q → (f j).oneCell' = true) ∧ ∀ j y, cs[j]? = some y → RepI (Rd β h w) y (f j)) := by
    cases hsr with
    | i x v hx =>
      generalize hNq : N * q = Nq at hx hl ⊢
      cases hx with
      | nil => exact ⟨none, 0, rfl, Nat.le_refl _, fun h1 => by have := Nat.mul_le_mul h1 hq; omega⟩
      | l n cs a cap f hc hr h1 hs =>
        refine ⟨some a, cap, rfl, hc, fun hN1 => ?_⟩
        have hpos : 0 < Nq := by have := Nat.mul_le_mul hN1 hq; omega
        obtain ⟨b, off, sp⟩ := a
        have hc0 := (hr 0 (by omega)).2
        have hsp : sp = none := by
          simp only [Addr.add, if_true] at hc0
          unfold World.cell? at hc0
          cases sp with
          | none => rfl
          | some s => simp at hc0; split at hc0 <;> cases hc0
        subst hsp
        refine ⟨b, off, rfl, f, fun j hj => ?_, fun j hj => h1 j (by omega), hs⟩
        have := hr j (by omega)
        by_cases hj0 : j = 0
        · subst hj0; simpa [Addr.add] using this
        · simpa [Addr.add, hj0] using this
  have hdrop : ∀ {a v}, Rd β h w a v → Rd β (h.drop [cS, cN]) w a v := fun {a v} hr => ⟨⟨hr.1.1, fun b x hx ho => by
    unfold Heap.drop at hx
    split at hx
    · cases hx
    · exact hr.1.2 b x hx ho⟩, hr.2⟩
  have hshut : ∀ c x, c ∈ [cS, cN] → h c = some x → Shut β (h.drop [cS, cN]) (β c) := fun c x hm hx b y hb _ hbc => by
    unfold Heap.drop at hb
    split at hb
    · cases hb
    · rename_i hnm
      exact hnm (H.inj b c y x hb hx hbc ▸ hm)
  obtain ⟨b, off, had, f, hff⟩ : ∃ b off, (1 ≤ N → ad = some ⟨b, off, none⟩) ∧ ∃ f : Nat → Value, 1 ≤ N → (∀ j, j < N * q → Rd β h w ⟨b, off + j, none⟩ (f j)) ∧ (∀ j, j < N * q → (f j).oneCell' = true) ∧ ∀ j y, cs[j]? = some y → RepI (Rd β h w) y (f j) := by
    by_cases hN0 : 1 ≤ N
    · obtain ⟨b, off, h1, f, h2⟩ := hcell hN0
      exact ⟨b, off, fun _ => h1, f, fun _ => h2⟩
    · exact ⟨0, 0, fun h1 => absurd h1 hN0, fun _ => undef, fun h1 => absurd h1 hN0⟩
  refine ⟨fun k => #[.slice (some ⟨b, off + k.1 * q, none⟩) q q], fun k => ⟨rfl, fun j p hj => ?_⟩, fun n hn l J Jx W hW hJ hJx hY h0 => ?_⟩
  · match j, hj with
    | 0, hj =>
      simp only [List.getElem?_cons_zero, Option.some.injEq] at hj
      subst hj
      have hk := k.2
      obtain ⟨hf, hf1, hfs⟩ := hff (by omega)
      have m1 : k.1 * q + q ≤ N * q := by have := Nat.mul_le_mul_right q k.2; rw [Nat.succ_mul] at this; exact this
      have tl : ((cs.drop (k.1 * q)).take q).length = q := by rw [List.length_take, List.length_drop]; omega
      refine .i _ _ (.l q _ ⟨b, off + k.1 * q, none⟩ q (fun j => f (k.1 * q + j)) (Nat.le_refl _) (fun j hj => ?_) (fun j hj => hf1 _ (by omega)) fun j x hj => ?_)
      · rw [tl] at hj
        have := hdrop (hf (k.1 * q + j) (by omega))
        by_cases hj0 : j = 0
        · subst hj0; simpa [Addr.add] using this
        · simp only [Addr.add, hj0, if_false]
          rw [show off + k.1 * q + j = off + (k.1 * q + j) by omega]
          exact this
      · have hlj : j < q := by have := (List.getElem?_eq_some_iff.1 hj).1; omega
        rw [List.getElem?_take, if_pos hlj, List.getElem?_drop] at hj
        exact (hfs _ _ hj).mono fun a v => hdrop
    | j + 1, hj => simp at hj
  · refine CallsIn.mono (chunkU_in Fence.wide n trivial rfl hn l (β cS) 0 (β cN) 0 b off N q cap ad hq had (fun k : {k : Nat // k < N} => k.1) (fun k => #[.slice (some ⟨b, off + k.1 * q, none⟩) q q]) (fun k hk => ⟨⟨k, hk⟩, rfl, rfl⟩) hcap hb J Jx
      (fun s A B hs hg => hJ s A B none hs hg (fun r e => by cases e)) (fun pre x W1 hj hl => ?_) W ((hW.cell (p := ⟨β cS, 0, none⟩) hlt1).trans hsv) ((hW.cell (p := ⟨β cN, 0, none⟩) hlt2).trans hnv) h0) fun e W' he => he
    obtain ⟨fn, tmps, assign, body, hy, hR⟩ := hY pre x W1 hj hl
    refine ⟨fn, tmps, assign, body, hy, hR.mono ?_⟩
    rintro e W' (⟨he, hj', hk⟩ | hr)
    · exact .inl ⟨he, hj', fun hc => (World.cell?_of_block ((hk _ hlt1).1 (hshut cS _ (by simp) hS))).trans hc, fun hc => (World.cell?_of_block ((hk _ hlt2).1 (hshut cN _ (by simp) hN))).trans hc⟩
    · exact .inr hr

theorem iter_iref {β : Pl} {h : Heap} {w : World} {x : IV} {v : Value} (hr : Rep β h w (.iref [x] 0) v) :
    ∃ B o, v = .pointer (some ⟨B, o, none⟩) ∧ Stable β h B ∧ ∃ u, w.cell? ⟨B, o, none⟩ = some u ∧ RepI (Rd β h w) x u := by
  cases hr with
  | iref cs off a f hr h1 hs =>
    have h0 := hr 0 (by simp)
    obtain ⟨b, o, sp⟩ := a
    simp only [Addr.add, if_true] at h0 ⊢
    have hsp : sp = none := by
      have hc0 := h0.2
      unfold World.cell? at hc0
      cases sp with
      | none => rfl
      | some s => simp at hc0; split at hc0 <;> cases hc0
    subst hsp
    exact ⟨b, o, rfl, h0.1, _, h0.2, hs 0 x rfl⟩

/-- The same, where what is captured is data. -/
theorem chunkU_iterD {h : Heap} {N q : Nat} {cs : List IV} (hl : cs.length = N * q) (hq : 1 ≤ q) (hb : N * q ≤ 17592186043904) :
    IterC Try.prog 68 [.iref [.l (N * q) cs] 0, .iref [.v (.int .i64 q)] 0] h [] {k : Nat // k < N} (fun k => [.i (.l q ((cs.drop (k.1 * q)).take q))]) (fun xs => xs.map (·.1) = List.range N) N := by
  intro β w lb H hlb
  obtain ⟨hls, hlr⟩ := hlb
  obtain ⟨B1, o1, e1, t1, x1⟩ := iter_iref (hlr 0 _ rfl)
  obtain ⟨B2, o2, e2, t2, x2⟩ := iter_iref (hlr 1 _ rfl)
  have elb : lb = #[.pointer (some ⟨B1, o1, none⟩), .pointer (some ⟨B2, o2, none⟩)] := by
    obtain ⟨l⟩ := lb
    match l, hls, e1, e2 with
    | [a, b], _, e1, e2 => simp at e1 e2; subst e1; subst e2; rfl
  subst elb
  obtain ⟨sv, hsv, hsr⟩ := x1
  obtain ⟨nv, hnv, hnr⟩ := x2
  have hnv' : nv = .int .i64 q := by cases hnr with | v => rfl
  subst hnv'
  have hlt1 := (World.block_lt_of_cell? w _ hsv)
  have hlt2 := (World.block_lt_of_cell? w _ hnv)
  -- the slice's value
  obtain ⟨ad, cap, rfl, hcap, hcell⟩ : ∃ ad cap, sv = .slice ad (N * q) cap ∧ N * q ≤ cap ∧ (1 ≤ N → ∃ b off, ad = some ⟨b, off, none⟩ ∧ ∃ f : Nat → Value, (∀ j, j < N * q → Rd β h w ⟨b, off + j, none⟩ (f j)) ∧ (∀ j, j < N * q → (f j).oneCell' = true) ∧ ∀ j y, cs[j]? = some y → RepI (Rd β h w) y (f j)) := by
    · generalize hNq : N * q = Nq at hsr hl ⊢
      cases hsr with
      | nil => exact ⟨none, 0, rfl, Nat.le_refl _, fun h1 => by have := Nat.mul_le_mul h1 hq; omega⟩
      | l n cs a cap f hc hr h1 hs =>
        refine ⟨some a, cap, rfl, hc, fun hN1 => ?_⟩
        have hpos : 0 < Nq := by have := Nat.mul_le_mul hN1 hq; omega
        obtain ⟨b, off, sp⟩ := a
        have hc0 := (hr 0 (by omega)).2
        have hsp : sp = none := by
          simp only [Addr.add, if_true] at hc0
          unfold World.cell? at hc0
          cases sp with
          | none => rfl
          | some s => simp at hc0; split at hc0 <;> cases hc0
        subst hsp
        refine ⟨b, off, rfl, f, fun j hj => ?_, fun j hj => h1 j (by omega), hs⟩
        have := hr j (by omega)
        by_cases hj0 : j = 0
        · subst hj0; simpa [Addr.add] using this
        · simpa [Addr.add, hj0] using this
  have hdrop : ∀ {a v}, Rd β h w a v → Rd β (h.drop []) w a v := fun {a v} hr => ⟨⟨hr.1.1, fun b x hx ho => by
    unfold Heap.drop at hx
    split at hx
    · cases hx
    · exact hr.1.2 b x hx ho⟩, hr.2⟩
  have hshut1 := (hdrop (a := ⟨B1, o1, none⟩) ⟨t1, hsv⟩).1.2
  have hshut2 := (hdrop (a := ⟨B2, o2, none⟩) ⟨t2, hnv⟩).1.2
  obtain ⟨b, off, had, f, hff⟩ : ∃ b off, (1 ≤ N → ad = some ⟨b, off, none⟩) ∧ ∃ f : Nat → Value, 1 ≤ N → (∀ j, j < N * q → Rd β h w ⟨b, off + j, none⟩ (f j)) ∧ (∀ j, j < N * q → (f j).oneCell' = true) ∧ ∀ j y, cs[j]? = some y → RepI (Rd β h w) y (f j) := by
    by_cases hN0 : 1 ≤ N
    · obtain ⟨b, off, h1, f, h2⟩ := hcell hN0
      exact ⟨b, off, fun _ => h1, f, fun _ => h2⟩
    · exact ⟨0, 0, fun h1 => absurd h1 hN0, fun _ => undef, fun h1 => absurd h1 hN0⟩
  refine ⟨fun k => #[.slice (some ⟨b, off + k.1 * q, none⟩) q q], fun k => ⟨rfl, fun j p hj => ?_⟩, fun n hn l J Jx W hW hJ hJx hY h0 => ?_⟩
  · match j, hj with
    | 0, hj =>
      simp only [List.getElem?_cons_zero, Option.some.injEq] at hj
      subst hj
      have hk := k.2
      obtain ⟨hf, hf1, hfs⟩ := hff (by omega)
      have m1 : k.1 * q + q ≤ N * q := by have := Nat.mul_le_mul_right q k.2; rw [Nat.succ_mul] at this; exact this
      have tl : ((cs.drop (k.1 * q)).take q).length = q := by rw [List.length_take, List.length_drop]; omega
      refine .i _ _ (.l q _ ⟨b, off + k.1 * q, none⟩ q (fun j => f (k.1 * q + j)) (Nat.le_refl _) (fun j hj => ?_) (fun j hj => hf1 _ (by omega)) fun j x hj => ?_)
      · rw [tl] at hj
        have := hdrop (hf (k.1 * q + j) (by omega))
        by_cases hj0 : j = 0
        · subst hj0; simpa [Addr.add] using this
        · simp only [Addr.add, hj0, if_false]
          rw [show off + k.1 * q + j = off + (k.1 * q + j) by omega]
          exact this
      · have hlj : j < q := by have := (List.getElem?_eq_some_iff.1 hj).1; omega
        rw [List.getElem?_take, if_pos hlj, List.getElem?_drop] at hj
        exact (hfs _ _ hj).mono fun a v => hdrop
    | j + 1, hj => simp at hj
  · refine CallsIn.mono (chunkU_in Fence.wide n trivial rfl hn l B1 o1 B2 o2 b off N q cap ad hq had (fun k : {k : Nat // k < N} => k.1) (fun k => #[.slice (some ⟨b, off + k.1 * q, none⟩) q q]) (fun k hk => ⟨⟨k, hk⟩, rfl, rfl⟩) hcap hb J Jx
      (fun s A B hs hg => hJ s A B none hs hg (fun r e => by cases e)) (fun pre x W1 hj hl => ?_) W ((hW.cell (p := ⟨B1, o1, none⟩) hlt1).trans hsv) ((hW.cell (p := ⟨B2, o2, none⟩) hlt2).trans hnv) h0) fun e W' he => he
    obtain ⟨fn, tmps, assign, body, hy, hR⟩ := hY pre x W1 hj hl
    refine ⟨fn, tmps, assign, body, hy, hR.mono ?_⟩
    rintro e W' (⟨he, hj', hk⟩ | hr)
    · exact .inl ⟨he, hj', fun hc => (World.cell?_of_block ((hk _ hlt1).1 hshut1)).trans hc, fun hc => (World.cell?_of_block ((hk _ hlt2).1 hshut2)).trans hc⟩
    · exact .inr hr
theorem CallsP.get {P : Program} {g : FuncId} {args : List PV} {v : PV} (h : CallsP P g args v) (base : Name) : ∃ u hu, CallR P base g args Heap.none u hu ∧ lowerT hu u = some v := h base
end Go.Proofs.Ytkhjfphenflefaa.TM
