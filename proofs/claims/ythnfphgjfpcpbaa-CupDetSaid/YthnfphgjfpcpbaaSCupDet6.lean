/- What is proved of functions, and plain facts, part 6. Conditions: none. -/
import Derived.Test.YthnfphgjfpcpbaaSCupDet5
set_option linter.defProp false
set_option linter.unusedSectionVars false
set_option linter.unusedSimpArgs false
set_option linter.unusedVariables false
namespace Go.Proofs.Ythnfphgjfpcpbaa.TM
open Go
def lowerJ (h : Heap) (p : PV) : Option IV := match lowerC h p with
  | some (.i x) => some x
  | _ => none
def lowerCN (h : Heap) : PV → Option PV
  | .view b off z n top => match h b with
    | some (.var cs) => if cs.length = top ∧ off + n * z ≤ cs.length then (mapO (lowerJ h) ((cs.drop off).take (n * z))).map fun xs => .i (.l n xs) else none
    | _ => lowerC h (.view b off z n top)
  | p => lowerC h p
def lowerAN (h : Heap) : PV → Option PV
  | .agg cs => (mapO (lowerCN h) cs).map .agg
  | p => lowerCN h p
def lowerTN (h : Heap) : PV → Option PV
  | .tup cs => (mapO (lowerAN h) cs).map .tup
  | p => lowerAN h p
section
variable {P : Program} {β : Pl} {h1 : Heap} {w : World}
theorem lowerC_rep1 (H1 : HInv β h1 w) {R : Addr → Value → Prop} {β0 : Pl} {h0 : Heap} {S0 : Nat → Nat} {p q : PV} {v : Value} (hp : Rep β h1 w p v) (hl : lowerC h1 p = some q)
    (hR1 : ∀ a v, Rd β h1 w a v → R a v) (hR2 : ∀ b x, h1 b = some x → ∀ j v, w.cell? ⟨β b, j, none⟩ = some v → R ⟨β b, j, none⟩ v) : RepP β0 h0 R S0 q v :=
  lowerC_rep H1 hp hl (fun b _ fz cs hb => ⟨fz, hb⟩) hR1 fun b _ => hR2 b
theorem lowerCN_rep (H1 : HInv β h1 w) {R : Addr → Value → Prop} {β0 : Pl} {h0 : Heap} {S0 : Nat → Nat} {p q : PV} {v : Value} (hp : Rep β h1 w p v) (hl : lowerCN h1 p = some q)
    (hR1 : ∀ a v, Rd β h1 w a v → R a v) (hR2 : ∀ b x, h1 b = some x → ∀ j v, w.cell? ⟨β b, j, none⟩ = some v → R ⟨β b, j, none⟩ v) : RepP β0 h0 R S0 q v := by
  unfold lowerCN at hl
  split at hl
  · rename_i b off z n top
    split at hl
    · rename_i cs hb
      split at hl
      case isFalse => cases hl
      rename_i hc
      cases hm : mapO (lowerJ h1) ((cs.drop off).take (n * z)) with
      | none => simp [hm] at hl
      | some xs =>
        simp [hm] at hl
        subst hl
        obtain ⟨hlen, hg⟩ := mapO_get hm
        cases hp with
        | view _ _ _ _ _ x a cap hbx hrow ht hn ha hva =>
          rw [hb] at hbx; cases hbx
          rcases hva hc.1 with ⟨h0, hc0, _⟩ | ⟨h0, hs0, _⟩
          · subst h0
            have : xs = [] := List.eq_nil_of_length_eq_zero (by rw [hlen]; simp)
            subst this
            cases a with
            | none => rw [hc0]; exact .i _ _ .nil
            | some a => exact .i _ _ (.l _ _ a cap (fun _ => undef) hn (fun j hj => by simp at hj) (fun j hj => by simp at hj) (fun j y hj => by simp at hj))
          · subst h0
            obtain ⟨c, e, hcc, hr, hcell⟩ := box_cell H1 hb
            have hlen2 : ((cs.drop off).take (n * z)).length = n * z := by simp; omega
            refine .i _ _ (.l _ _ _ cap (fun j => c.getD (off + j) undef) hn (fun j hj => ?_) (fun j hj => ?_) (fun j y hj => ?_))
            · rw [add_lit]
              exact hR2 b _ hb _ _ (hcell _ (by have := hr.1; omega))
            · have hlt : off + j < cs.length := by omega
              exact (hr.2 (off + j) cs[off + j] (List.getElem?_eq_getElem hlt)).1
            · have hjl : j < xs.length := (List.getElem?_eq_some_iff.1 hj).1
              have hj2 : j < ((cs.drop off).take (n * z)).length := by omega
              obtain ⟨x, hx, hxy⟩ := hg j _ (List.getElem?_eq_getElem hj2)
              rw [hxy] at hj; cases hj
              unfold lowerJ at hx
              split at hx
              · rename_i x' hlc
                cases hx
                have h7 := (hr.2 _ _ (take_drop_get (List.getElem?_eq_getElem hj2)).2).2
                have h8 : RepP β h1 R (szW w) (.i _) (c.getD (off + j) undef) := lowerC_rep1 H1 h7 hlc hR1 hR2
                generalize c.getD (off + j) undef = u at h8
                cases h8 with | i _ _ h9 => exact h9
              · cases hx
    · exact lowerC_rep1 H1 hp hl hR1 hR2
  · exact lowerC_rep1 H1 hp hl hR1 hR2
theorem lowerAN_rep (H1 : HInv β h1 w) {R : Addr → Value → Prop} {β0 : Pl} {h0 : Heap} {S0 : Nat → Nat} {p q : PV} {v : Value} (hp : Rep β h1 w p v) (hl : lowerAN h1 p = some q)
    (hR1 : ∀ a v, Rd β h1 w a v → R a v) (hR2 : ∀ b x, h1 b = some x → ∀ j v, w.cell? ⟨β b, j, none⟩ = some v → R ⟨β b, j, none⟩ v) : RepP β0 h0 R S0 q v := by
  unfold lowerAN at hl
  split at hl
  · rename_i cs
    cases hm : mapO (lowerCN h1) cs with
    | none => simp [hm] at hl
    | some qs =>
      simp [hm] at hl
      subst hl
      obtain ⟨hlen, hg⟩ := mapO_get hm
      cases hp with
      | agg cs arr hla hs =>
        refine .agg _ _ (by omega) fun j x hj => ?_
        have hlt : j < cs.length := by rw [← hlen]; exact (List.getElem?_eq_some_iff.1 hj).1
        obtain ⟨y, hy, hqy⟩ := hg j _ (List.getElem?_eq_getElem hlt)
        rw [hqy] at hj; cases hj
        exact lowerCN_rep H1 (hs j _ (List.getElem?_eq_getElem hlt)) hy hR1 hR2
  · exact lowerCN_rep H1 hp hl hR1 hR2
theorem lowerTN_rep (H1 : HInv β h1 w) {R : Addr → Value → Prop} {β0 : Pl} {h0 : Heap} {S0 : Nat → Nat} {p q : PV} {v : Value} (hp : Rep β h1 w p v) (hl : lowerTN h1 p = some q)
    (hR1 : ∀ a v, Rd β h1 w a v → R a v) (hR2 : ∀ b x, h1 b = some x → ∀ j v, w.cell? ⟨β b, j, none⟩ = some v → R ⟨β b, j, none⟩ v) : RepP β0 h0 R S0 q v := by
  unfold lowerTN at hl
  split at hl
  · rename_i cs
    cases hm : mapO (lowerAN h1) cs with
    | none => simp [hm] at hl
    | some qs =>
      simp [hm] at hl
      subst hl
      obtain ⟨hlen, hg⟩ := mapO_get hm
      cases hp with
      | tup cs arr hla hs =>
        refine .tup _ _ (by omega) fun j x hj => ?_
        have hlt : j < cs.length := by rw [← hlen]; exact (List.getElem?_eq_some_iff.1 hj).1
        obtain ⟨y, hy, hqy⟩ := hg j _ (List.getElem?_eq_getElem hlt)
        rw [hqy] at hj; cases hj
        exact lowerAN_rep H1 (hs j _ (List.getElem?_eq_getElem hlt)) hy hR1 hR2
  · exact lowerAN_rep H1 hp hl hR1 hR2
end
theorem CallsP.of_low {P : Program} (hm : P.follows .mixedOrders = true) {g : FuncId} {args : List PV} {v : PV} (hv : lowerT Heap.none v = some v) (h : ∀ base, ∃ u hu, CallR P base g args Heap.none u hu ∧ lowerTN hu u = some v) : CallsP P g args v := by
  intro base
  obtain ⟨u, hu, h1, h2⟩ := h base
  refine ⟨v, Heap.none, CallR.of_sound ?_, hv⟩
  intro β w rargs H Hr
  refine (CallR_sound hm _ _ _ _ _ _ h1 β w rargs H Hr).mono ?_
  rintro e w' ⟨rv, β1, rfl, H1, hrep, E1⟩
  refine ⟨rv, β, rfl, HInv.none fun blk hb => Nat.lt_of_lt_of_le (H.flt blk hb) E1.size, ?_, ⟨E1.os, E1.tape, E1.output, E1.size, rfl, fun blk hl hs => ⟨shut_none _ _, (E1.stab blk hl (shut_none _ _)).2⟩, fun b x hb => (by cases hb), E1.sz⟩⟩
  refine lowerTN_rep H1 hrep h2 (fun a v hrd => ⟨⟨by have := hrd.1.1; rw [E1.F] at this; exact this, shut_none _ _⟩, hrd.2⟩) fun b x hb j v hcell => ⟨⟨by have := H1.nf b x hb; rw [E1.F] at this; exact this, shut_none _ _⟩, hcell⟩
end Go.Proofs.Ythnfphgjfpcpbaa.TM
namespace Go.Proofs.Ythnfphgjfpcpbaa.TM
open Go Go.RowKit
def rowsX (b : Name) (f : Nat → List Int) (n : Nat) : Name → Option Box
  | (900, k) :: c => if c = b ∧ k < n ∧ (f k).length ≠ 0 then some (.row false ((f k).map iu)) else none
  | _ => none
def rowsH (b : Name) (f : Nat → List Int) (n : Nat) (h : Heap) : Heap := fun c => match rowsX b f n c with
  | some x => some x
  | none => h c
def rowN (b : Name) (f : Nat → List Int) (k : Nat) : PV := rowP ((900, k) :: b) 1 (f k).length ((f k).map iu)
def crowsL (b : Name) (f : Nat → List Int) (n : Nat) : List PV := (List.range n).map (rowN b f)
theorem crowsL_len (b : Name) (f : Nat → List Int) (n : Nat) : (crowsL b f n).length = n := by simp [crowsL]
theorem rowsL_succ (b : Name) (f : Nat → List Int) (n : Nat) : crowsL b f (n + 1) = crowsL b f n ++ [rowN b f n] := by simp [crowsL, List.range_succ]
theorem rowsL_congr {b : Name} {f g : Nat → List Int} {n : Nat} (h : ∀ k, k < n → f k = g k) : crowsL b f n = crowsL b g n := List.map_congr_left fun k hk => by unfold rowN; rw [h k (List.mem_range.1 hk)]
theorem rowsL_get {b : Name} {f : Nat → List Int} {n k : Nat} (h : k < n) : (crowsL b f n)[k]? = some (rowN b f k) := by
  unfold crowsL; rw [List.getElem?_map, List.getElem?_range h]; rfl
theorem rowsL_put {b : Name} {f g : Nat → List Int} {n k : Nat} (h : k < n) (hg : ∀ m, m ≠ k → g m = f m) : (crowsL b f n).take k ++ [rowN b g k] ++ (crowsL b f n).drop (k + 1) = crowsL b g n := by
  apply List.ext_getElem?
  intro m
  have tl : ((crowsL b f n).take k).length = k := by rw [List.length_take, crowsL_len]; omega
  by_cases h1 : m < k
  · rw [List.append_assoc, List.getElem?_append_left (by omega), List.getElem?_take, if_pos h1, rowsL_get (by omega), rowsL_get (by omega)]
    unfold rowN; rw [hg m (by omega)]
  · rw [List.append_assoc, List.getElem?_append_right (by omega), tl]
    by_cases h2 : m = k
    · subst h2; rw [Nat.sub_self, rowsL_get h]; rfl
    · rw [List.getElem?_append_right (by simp; omega), List.getElem?_drop, List.length_singleton, show k + 1 + (m - k - 1) = m by omega]
      by_cases h3 : m < n
      · rw [rowsL_get h3, rowsL_get h3]; unfold rowN; rw [hg m h2]
      · rw [List.getElem?_eq_none (by rw [crowsL_len]; omega), List.getElem?_eq_none (by rw [crowsL_len]; omega)]
theorem mem_rowsL {b c : Name} {f : Nat → List Int} {n : Nat} (h : c ∈ refsL (crowsL b f n)) : ∃ k, c = (900, k) :: b := by
  obtain ⟨p, hp, hc⟩ := of_refsL h
  obtain ⟨k, _, rfl⟩ := List.mem_map.1 hp
  unfold rowN at hc
  exact ⟨k, (mem_refs_rowP.1 hc).2⟩
theorem rowsX_var {b c : Name} {f : Nat → List Int} {n : Nat} {cs : List PV} : rowsX b f n c ≠ some (.var cs) := by
  unfold rowsX
  split
  · split <;> simp
  · simp
theorem noVar_rowsH {b c : Name} {f : Nat → List Int} {n : Nat} {h : Heap} (h1 : noVar c h) : noVar c (rowsH b f n h) := fun d ds hd => by
  unfold rowsH at hd
  split at hd
  · rename_i x hx; cases hd; exact absurd hx rowsX_var
  · exact h1 d ds hd
theorem rowsX_at {b : Name} {f : Nat → List Int} {n k : Nat} (hk : k < n) (hl : (f k).length ≠ 0) : rowsX b f n ((900, k) :: b) = some (.row false ((f k).map iu)) := if_pos ⟨rfl, hk, hl⟩
theorem rowsX_out {b : Name} {f : Nat → List Int} {n k : Nat} (hk : n ≤ k) : rowsX b f n ((900, k) :: b) = none := if_neg (by omega)
theorem rowsX_nil {b : Name} {f : Nat → List Int} {n k : Nat} (hl : (f k).length = 0) : rowsX b f n ((900, k) :: b) = none := if_neg (by omega)
theorem rowsX_ne {b c : Name} {f g : Nat → List Int} {n m i : Nat} (hc : c ≠ (900, i) :: b) (h : ∀ k, k ≠ i → f k = g k) (hn : ∀ k, k ≠ i → (k < n ↔ k < m)) : rowsX b f n c = rowsX b g m c := by
  unfold rowsX
  split
  · rename_i k d
    by_cases e : d = b
    · subst e
      have hk : k ≠ i := fun e => hc (by rw [e])
      rw [h k hk]
      simp only [hn k hk]
    · rw [if_neg (by simp [e]), if_neg (by simp [e])]
  · rfl
theorem rowsX_congr {b c : Name} {f g : Nat → List Int} {n : Nat} (h : ∀ k, k < n → f k = g k) : rowsX b f n c = rowsX b g n c := by
  unfold rowsX
  split
  · rename_i k d
    by_cases e : k < n
    · rw [h k e]
    · rw [if_neg (by simp [e]), if_neg (by simp [e])]
  · rfl
def csF (T : Tk) (k : Nat) : List Int := T.cs.getD k []
def mtB (R C : Nat) (l : List Int) : Box := .var [i64 R, i64 C, lu l]
def tkH (base : Name) (P R C i : Nat) (l : List Int) (T : Tk) (f : Nat → List Int) : Heap :=
  rowH (rowH (rowH (rowH (rowsH ((7, 14) :: base) f i (fun c => if c = (3, 2) :: base then some (.var [rowP ((16, 11) :: (7, 14) :: base) 1 T.us.length (T.rows.map ii), rowP ((16, 19) :: (7, 14) :: base) 1 T.us.length (T.cols.map ii), clmP ((10, 8) :: (7, 14) :: base) i, rowP ((16, 27) :: (7, 14) :: base) 1 T.us.length (T.us.map (lv C)), u64 P, rowP ((16, 34) :: (7, 14) :: base) 1 T.us.length (T.vs.map iu)])
    else if c = (0, 0) :: base then some (mtB R C l) else if c = (0, 1) :: base then some (.var [nilP, nilP, nilP, nilP]) else if c = (10, 8) :: (7, 14) :: base then clmB i (crowsL ((7, 14) :: base) f i) else none))
    ((16, 11) :: (7, 14) :: base) T.us.length (T.rows.map ii)) ((16, 19) :: (7, 14) :: base) T.us.length (T.cols.map ii)) ((16, 27) :: (7, 14) :: base) T.us.length (T.us.map (lv C))) ((16, 34) :: (7, 14) :: base) T.us.length (T.vs.map iu)
abbrev junkR (base : Name) : List Name := [(1, 1) :: base, (8, 2) :: base, (10, 7) :: base, (15, 7) :: base, (16, 10) :: base, (16, 18) :: base, (16, 26) :: base, (16, 33) :: base]
theorem base_ne : ∀ (base : Name) (x : Nat × Nat), base ≠ x :: base
  | [], x, h => by cases h
  | y :: b, x, h => by injection h with h1 h2; exact base_ne b y h2
theorem cup_next {base : Name} {P R C i : Nat} {l : List Int} {T T' : Tk} (hcl : T'.cs.length = i + 1) (hc : ∀ k, k < i → csF T' k = csF T k) (hu : T'.us.length = T.us.length ∨ T'.us.length = T.us.length + 1) :
    cupH (tkH base P R C i l T (csF T)) ((7, 14) :: base) base P C i (crowsL ((7, 14) :: base) (csF T) i) T T' T'.us.length = tkH base P R C (i + 1) l T' (csF T') := by
  have hL : crowsL ((7, 14) :: base) (csF T') (i + 1) = crowsL ((7, 14) :: base) (csF T) i ++ [rowP ((900, i) :: (7, 14) :: base) 1 (T'.cs.getD i []).length ((T'.cs.getD i []).map iu)] := by
    rw [rowsL_succ, rowsL_congr hc]; rfl
  have ne1 : ∀ x : Nat × Nat, base ≠ x :: base := base_ne base
  have ne2 : ∀ x : Nat × Nat, x :: base ≠ base := fun x h => base_ne base x h.symm
  obtain ⟨x, hx⟩ : ∃ x, T'.cs.getD i [] = x := ⟨_, rfl⟩
  have hx' : csF T' i = x := hx
  unfold cupH tkH
  rw [hL, hx]
  funext c
  simp (maxSteps := 20000000) only [rowH_app, Heap.put_at, rowsH]
  by_cases e1 : c = (3, 2) :: base
  · subst e1
    simp [rowsX]
  by_cases e2 : c = (10, 8) :: (7, 14) :: base
  · subst e2
    simp [rowsX, clmB]
  by_cases e3 : c = (16, 11) :: (7, 14) :: base
  · subst e3
    rcases hu with hu | hu <;> by_cases z : T.us = [] <;> simp [rowsX, hu, z]
  by_cases e4 : c = (16, 19) :: (7, 14) :: base
  · subst e4
    rcases hu with hu | hu <;> by_cases z : T.us = [] <;> simp [rowsX, hu, z]
  by_cases e5 : c = (16, 27) :: (7, 14) :: base
  · subst e5
    rcases hu with hu | hu <;> by_cases z : T.us = [] <;> simp [rowsX, hu, z]
  by_cases e6 : c = (16, 34) :: (7, 14) :: base
  · subst e6
    rcases hu with hu | hu <;> by_cases z : T.us = [] <;> simp [rowsX, hu, z]
  by_cases e7 : c = (900, i) :: (7, 14) :: base
  · subst e7
    by_cases h0 : x.length = 0
    · rw [rowsX_out (Nat.le_refl _), rowsX_nil (by rw [hx']; exact h0)]
      have h0' : x = [] := List.eq_nil_of_length_eq_zero h0
      simp [h0']
    · rw [rowsX_out (Nat.le_refl _), rowsX_at (by omega) (by rw [hx']; exact h0), hx']
      have h0' : x ≠ [] := fun e => h0 (by rw [e]; rfl)
      simp [h0']
  simp [e1, e2, e3, e4, e5, e6, e7]
  have hX : rowsX ((7, 14) :: base) (csF T) i c = rowsX ((7, 14) :: base) (csF T') (i + 1) c := by
    rw [rowsX_congr (g := csF T') (fun k hk => (hc k hk).symm)]
    exact rowsX_ne e7 (fun _ _ => rfl) (by omega)
  rw [hX]
end Go.Proofs.Ythnfphgjfpcpbaa.TM
namespace Go.Proofs.Ythnfphgjfpcpbaa.TM
open Go Go.RowKit
theorem TkI.next {P C i : Nat} {T : Tk} {row : List Int} (hP : Prm P) (hp : Md P) (I : TkI P C i T) (hrow : ∀ a ∈ row, In P a) (hl : row.length = C) : TkI P C (i + 1) (tkRow P T i row) := by
  have r1 : (rstT P T row).length = C := by unfold rstT; rw [elR_len, hl]
  have r2 : ∀ a ∈ rstT P T row, In P a := elR_in hp T hrow _
  have x1 : (xsT P T row).length = T.us.length := tbl_len ..
  have x2 : ∀ a ∈ xsT P T row, In P a := fun a ha => by obtain ⟨k, _, rfl⟩ := tbl_mem ha; exact elX_in hp T row k
  have o1 : In P 1 := ⟨by decide, by have := hp.1; omega⟩
  unfold tkRow
  split
  · refine ⟨I.rl, I.ql, I.vl, by simp [I.cl], by have := I.ri; simp only; omega, fun a ha => by have := I.rb a ha; omega, I.qb, I.ul, I.vb, fun c hc => ?_⟩
    rcases List.mem_append.1 hc with hc | hc
    · exact I.cb c hc
    · rw [List.mem_singleton.1 hc]; exact ⟨by rw [x1]; exact Nat.le_refl _, x2⟩
  · rename_i hn
    rcases nzA_spec (rstT P T row) 0 with ⟨z1, _⟩ | ⟨n, z1, z2, z3, _⟩
    · rw [z1] at hn; exact absurd (by decide) hn
    · rw [z1]
      refine ⟨by simp [I.rl], by simp [I.ql], by simp [I.vl], by simp [I.cl], by have := I.ri; simp only [List.length_append, List.length_singleton]; omega, fun a ha => ?_, fun a ha => ?_, fun u hu => ?_, fun a ha => ?_, fun c hc => ?_⟩
      · rcases List.mem_append.1 ha with ha | ha
        · have := I.rb a ha; omega
        · rw [List.mem_singleton.1 ha]; omega
      · rcases List.mem_append.1 ha with ha | ha
        · exact I.qb a ha
        · rw [List.mem_singleton.1 ha]; omega
      · rcases List.mem_append.1 hu with hu | hu
        · exact I.ul u hu
        · rw [List.mem_singleton.1 hu]; exact ⟨r1, r2⟩
      · rcases List.mem_append.1 ha with ha | ha
        · exact I.vb a ha
        · rw [List.mem_singleton.1 ha, show (((0 + n : Nat) : Int)).toNat = n by omega]
          exact (finvC_in (by exact hp.1) hp.2 (getD_of r2 z2) (prm_gcd hP (getD_of r2 z2) z3)).1
      · rcases List.mem_append.1 hc with hc | hc
        · have := I.cb c hc
          exact ⟨by simp only [List.length_append, List.length_singleton]; omega, this.2⟩
        · rw [List.mem_singleton.1 hc]
          refine ⟨by simp [x1], fun a ha => ?_⟩
          rcases List.mem_append.1 ha with ha | ha
          · exact x2 a ha
          · rw [List.mem_singleton.1 ha]; exact o1
theorem tkN_I {P R C : Nat} {l : List Int} (hP : Prm P) (M : Mt P R C l) (hin : ∀ a ∈ l, In P a) : ∀ i, i ≤ R → TkI P C i (tkN P C l i)
  | 0, _ => TkI.zero _ _
  | i + 1, h => (tkN_I hP M hin i (by omega)).next hP M.hp (fun a ha => hin a (rowM_mem ha)) (rowM_len M.len (by omega))
theorem tkRow_cs {P : Int} {C i : Nat} {T : Tk} {row : List Int} (I : TkI P C i T) : (∀ k, k < i → csF (tkRow P T i row) k = csF T k) ∧ ((tkRow P T i row).us.length = T.us.length ∨ (tkRow P T i row).us.length = T.us.length + 1) := by
  have h : ∀ (x : List Int) (k : Nat), k < i → (T.cs ++ [x]).getD k [] = T.cs.getD k [] := fun x k hk => by
    rw [List.getD_eq_getElem?_getD, List.getElem?_append_left (by rw [I.cl]; exact hk), List.getD_eq_getElem?_getD]
  unfold tkRow csF
  split
  · exact ⟨fun k hk => h _ k hk, .inl rfl⟩
  · exact ⟨fun k hk => h _ k hk, .inr (by simp)⟩
theorem nv_tk {base : Name} {P R C i : Nat} {l : List Int} {T : Tk} {f : Nat → List Int} {b : Name} (hb9 : ∀ k, b ≠ (900, k) :: (7, 14) :: base)
    (n1 : b ≠ (16, 11) :: (7, 14) :: base) (n2 : b ≠ (16, 19) :: (7, 14) :: base) (n3 : b ≠ (16, 27) :: (7, 14) :: base) (n4 : b ≠ (16, 34) :: (7, 14) :: base) (n5 : b ≠ (10, 8) :: (7, 14) :: base) : noVar b (tkH base P R C i l T f) := by
  unfold tkH
  refine noVar_rowH (noVar_rowH (noVar_rowH (noVar_rowH (noVar_rowsH ?_))))
  intro c cs hc
  simp only [mtB] at hc
  split at hc
  · cases hc
    simp only [refsL, refsP, List.mem_append, mem_refs_rowP, mem_refs_clmP, List.not_mem_nil, or_false, not_or]
    simp [n1, n2, n3, n4, n5]
  · split at hc
    · cases hc
      simp [refsL, refsP]
    · split at hc
      · cases hc; simp [refsL, refsP, nilP]
      · split at hc
        · unfold clmB at hc
          split at hc
          · cases hc
          · cases hc
            intro h
            obtain ⟨k, hk⟩ := mem_rowsL h
            exact hb9 k hk
        · cases hc
theorem nv_junk (base : Name) (P R C i : Nat) (l : List Int) (T : Tk) (f : Nat → List Int) (b : Name) (hb : b ∈ junkR ((7, 14) :: base)) : noVar b (tkH base P R C i l T f) := by
  refine nv_tk (fun k e => ?_) ?_ ?_ ?_ ?_ ?_
  · subst e; simp at hb
  all_goals (intro e; subst e; simp at hb)
theorem row_call {base : Name} {P R C i : Nat} {l : List Int} {T : Tk} {row : List Int} (hP : Prm P) (hp : Md P) (I : TkI P C i T) (hrow : ∀ a ∈ row, In P a) (hl : row.length = C) (h0 : 0 < C) (hC : C ≤ 64) (hi : i < 64) :
    ∃ h', CallR Try.prog ((7, 14) :: base) 85 [.ref ((3, 2) :: base) 0 6, i64 i, .i (.l C (row.map iu))] (tkH base P R C i l T (csF T)) (bl true) h' ∧ (h'.drop (junkR ((7, 14) :: base)) = tkH base P R C (i + 1) l (tkRow P T i row) (csF (tkRow P T i row)) ∧ ∀ b ∈ junkR ((7, 14) :: base), noVar b h') := by
  obtain ⟨c1, c2⟩ := tkRow_cs (row := row) I
  rw [← cup_next (by rw [(I.next hP hp hrow hl).cl]) c1 c2]
  have ne1 : ∀ x : Nat × Nat, base ≠ x :: base := base_ne base
  have ne2 : ∀ x : Nat × Nat, x :: base ≠ base := fun x h => base_ne base x h.symm
  have x9 : rowsX ((7, 14) :: base) (csF T) i ((900, i) :: (7, 14) :: base) = none := rowsX_out (Nat.le_refl _)
  have nv := nv_junk base P R C i l T (csF T)
  rcases hr : T.us.length with _ | r
  · refine rowA0_walk hP hp I hrow hl h0 hC hi (crowsL_len ..) hr ?_ ?_ ?_ ?_ ?_ ?_ ?_ ?_ ?_ ?_ ?_ ?_ ?_ ?_ ?_ nv
    all_goals (unfold tkH; rw [hr]; simp [rowH_app, rowsH, x9, rowsX, ne1, ne2])
  · refine rowA1_walk hP hp I hrow hl h0 hC hi (crowsL_len ..) hr ?_ ?_ ?_ ?_ ?_ ?_ ?_ ?_ ?_ ?_ ?_ ?_ ?_ ?_ ?_ nv
    all_goals (unfold tkH; rw [hr]; simp [rowH_app, rowsH, x9, rowsX, ne1, ne2])
end Go.Proofs.Ythnfphgjfpcpbaa.TM
namespace Go.Proofs.Ythnfphgjfpcpbaa.TM
open Go Go.RowKit
attribute [local irreducible] K W WOps Effs Xg Xo Xr Xdg Xdo Xdr Xif CallsP CallR
theorem noVar_drop {b : Name} {h : Heap} {bs : List Name} (h1 : noVar b h) : noVar b (h.drop bs) := fun c cs hc => h1 c cs (drop_some hc)
def padF (r : Nat) (x : List Int) : List Int := x ++ List.replicate (r - x.length) 0
abbrev llP (L : List (List Int)) : PV := .i (.l L.length (L.map fun u => .l u.length (u.map iu)))
abbrev CupT := List Int × List Int × List (List Int) × List (List Int)
abbrev cupQ (c : CupT) : PV := .agg [li c.1, li c.2.1, llP c.2.2.1, llP c.2.2.2]
def tkCup (p : Int) (C R : Nat) (l : List Int) : CupT := ((tkN p C l R).rows, (tkN p C l R).cols, (tkN p C l R).cs.map (padF (tkN p C l R).us.length), (tkN p C l R).us)
def takeR (p r c : Int) (l : List Int) : CupT × Int := if MatB p r c l then (tkCup p c.toNat r.toNat l, 0) else (([], [], [], []), 1)
def fP (T : Tk) (i d k : Nat) : List Int := if k < i then padF T.us.length (csF T k) else if k = i then csF T k ++ List.replicate d 0 else csF T k
theorem mat_walk_no {P : Int} {r c : Int} {l : List Int} (hl : l.length ≤ maxLen) (h : MatB P r c l = false) : CallsP Try.prog 46 [u64 P, matP r c l] (.tup [cupQ ([], [], [], []), i64 1]) := by
  have q1 := mright_walk P r c l hl
  rw [h] at q1
  refine X_startP (n := 87) (m := 2) (rs := [.cell 4 64, .tmp 5]) Try.func46 rfl rfl rfl rfl (by decide) fun base => ?_
  repeat (first | ((first | refine X_call_fn2 rfl (by simp only [tys]) ?_ | refine X_dcall_fn2 rfl (by simp only [tys]) ?_); apply Exists.intro; apply And.intro; (focus (simp -dsimp only [simx, zzC, zzB, tys, ite_self, opnL, callB, callX, readsB, stepOp, nilCmp, ofVal, opBuiltin, opLen, PV.sk, scalBin, scalUn, intBin, opLoad, natOf, opConvert, opField, cellsP, oneP, Value.oneCell', opStore, toIV, scalT, scalA, scalC, boxesA, boxesC, zipB_none, zipB_mx, isZ, opZip, zeroP, opAppendZ, opMakeMap, opLookup, mboxB, opUpdate, ↓reduceIte, Nat.reduceSub, Nat.reduceEqDiff, Nat.reduceAdd, Nat.reduceMul, Nat.reduceLT, Nat.reduceLeDiff, Int.reduceToNat, Int.reduceLE, Int.reduceLT, Int.reduceNeg, reduceCtorEq, zzL, if_true, if_false] <;> rfl)); apply Exists.intro; apply And.intro; (focus (first | exact q1))) | refine X_opc rfl ?_ | refine X_dopc rfl ?_ | refine ⟨(by show drawK _ _ = true; kernel_rfl : drawX _ _ _), ?_⟩ | exact (by show drawK _ _ = true; kernel_rfl : drawX _ _ _) | simp -dsimp (maxSteps := 20000000) (disch := omega) only [simx, zzC, zzB, tys, ite_self, opnL, callB, callX, readsB, stepOp, nilCmp, ofVal, opBuiltin, opLen, PV.sk, scalBin, scalUn, intBin, opLoad, natOf, opConvert, opField, cellsP, oneP, Value.oneCell', opStore, toIV, scalT, scalA, scalC, boxesA, boxesC, zipB_none, zipB_mx, isZ, opZip, zeroP, opAppendZ, opMakeMap, opLookup, mboxB, opUpdate, ↓reduceIte, Nat.reduceSub, Nat.reduceEqDiff, Nat.reduceAdd, Nat.reduceMul, Nat.reduceLT, Nat.reduceLeDiff, Int.reduceToNat, Int.reduceLE, Int.reduceLT, Int.reduceNeg, reduceCtorEq, zzR, gos, Int.reduceAdd, Int.reduceSub, Int.reduceMul, Int.reduceEq])
  rfl
theorem rowsX_zero (b : Name) (f : Nat → List Int) (c : Name) : rowsX b f 0 c = none := by
  unfold rowsX
  split
  · exact if_neg (by omega)
  · rfl
theorem tkH_T (base : Name) (P R C i : Nat) (l : List Int) (T : Tk) (f : Nat → List Int) : tkH base P R C i l T f ((3, 2) :: base) = some (.var [rowP ((16, 11) :: (7, 14) :: base) 1 T.us.length (T.rows.map ii), rowP ((16, 19) :: (7, 14) :: base) 1 T.us.length (T.cols.map ii), clmP ((10, 8) :: (7, 14) :: base) i, rowP ((16, 27) :: (7, 14) :: base) 1 T.us.length (T.us.map (lv C)), u64 P, rowP ((16, 34) :: (7, 14) :: base) 1 T.us.length (T.vs.map iu)]) := by
  have ne1 : ∀ x : Nat × Nat, base ≠ x :: base := base_ne base
  have ne2 : ∀ x : Nat × Nat, x :: base ≠ base := fun x h => base_ne base x h.symm
  simp [tkH, rowH_app, rowsH, rowsX, ne1, ne2]
theorem tkH_0 (base : Name) (P R C i : Nat) (l : List Int) (T : Tk) (f : Nat → List Int) : tkH base P R C i l T f ((0, 0) :: base) = some (.var [i64 R, i64 C, lu l]) := by
  have ne1 : ∀ x : Nat × Nat, base ≠ x :: base := base_ne base
  have ne2 : ∀ x : Nat × Nat, x :: base ≠ base := fun x h => base_ne base x h.symm
  simp [tkH, rowH_app, rowsH, rowsX, ne1, ne2, mtB]
theorem tkH_1 (base : Name) (P R C i : Nat) (l : List Int) (T : Tk) (f : Nat → List Int) : tkH base P R C i l T f ((0, 1) :: base) = some (.var [nilP, nilP, nilP, nilP]) := by
  have ne1 : ∀ x : Nat × Nat, base ≠ x :: base := base_ne base
  have ne2 : ∀ x : Nat × Nat, x :: base ≠ base := fun x h => base_ne base x h.symm
  simp [tkH, rowH_app, rowsH, rowsX, ne1, ne2, mtB]
theorem tkH_C (base : Name) (P R C i : Nat) (l : List Int) (T : Tk) (f : Nat → List Int) : tkH base P R C i l T f ((10, 8) :: (7, 14) :: base) = clmB i (crowsL ((7, 14) :: base) f i) := by
  have ne1 : ∀ x : Nat × Nat, base ≠ x :: base := base_ne base
  have ne2 : ∀ x : Nat × Nat, x :: base ≠ base := fun x h => base_ne base x h.symm
  simp [tkH, rowH_app, rowsH, rowsX, ne1, ne2, mtB]
theorem tkH_upd {base : Name} {P R C i : Nat} {l : List Int} {T : Tk} {f g : Nat → List Int} (hi : i < R) (hg : ∀ m, m ≠ i → g m = f m) (hx : (g i).length ≠ 0) :
    ((tkH base P R C R l T f).put ((900, i) :: (7, 14) :: base) (.row false ((g i).map iu))).put ((10, 8) :: (7, 14) :: base) (.var (crowsL ((7, 14) :: base) g R)) = tkH base P R C R l T g := by
  have ne1 : ∀ x : Nat × Nat, base ≠ x :: base := base_ne base
  have ne2 : ∀ x : Nat × Nat, x :: base ≠ base := fun x h => base_ne base x h.symm
  funext c
  unfold tkH
  simp only [Heap.put_at, rowH_app, rowsH]
  by_cases e1 : c = (10, 8) :: (7, 14) :: base
  · subst e1
    simp [rowsX, clmB, ne1, ne2]; omega
  by_cases e2 : c = (900, i) :: (7, 14) :: base
  · subst e2
    rw [rowsX_at hi hx]
    simp
  simp only [e1, e2, if_false]
  rw [rowsX_ne (i := i) (g := g) (m := R) e2 (fun k hk => (hg k hk).symm) (fun _ _ => Iff.rfl)]
theorem low_row {h : Heap} {s : Name} {n : Nat} {cs : List IV} (hn : cs.length = n) (hs : n ≠ 0 → h s = some (.row false cs)) : lowerCN h (rowP s 1 n cs) = some (.i (.l n cs)) := by
  rw [← lower_row (h := h) (s := s) (z := 1) (n := n) (cs := cs) (by omega) hs]
  unfold rowP
  split
  · rfl
  · rename_i h0
    show (match h s with | some (.var cs) => _ | _ => _) = _
    rw [hs h0]
theorem mapO_list {α β γ : Type} {g : β → α} {f : α → Option γ} {k : β → γ} : ∀ {l : List β}, (∀ x ∈ l, f (g x) = some (k x)) → mapO f (l.map g) = some (l.map k)
  | [], _ => rfl
  | x :: l, h => by
    rw [List.map_cons, mapO, h x (by simp), mapO_list (l := l) fun y hy => h y (by simp [hy])]
    rfl
theorem low_col {h : Heap} {s b : Name} {n : Nat} {f : Nat → List Int} (h0 : 0 < n) (hs : h s = some (.var (crowsL b f n))) (hr : ∀ k, k < n → (f k).length ≠ 0 → h ((900, k) :: b) = some (.row false ((f k).map iu))) :
    lowerCN h (.view s 0 1 n n) = some (.i (.l n ((List.range n).map fun k => .l (f k).length ((f k).map iu)))) := by
  have hm : mapO (lowerJ h) (crowsL b f n) = some ((List.range n).map fun k => IV.l (f k).length ((f k).map iu)) := by
    unfold crowsL
    refine mapO_list fun k hk => ?_
    have hk := List.mem_range.1 hk
    unfold lowerJ rowN
    rw [lower_row (by simp) (fun h1 => hr k hk h1)]
  show (match h s with | some (.var cs) => _ | _ => _) = _
  rw [hs]
  simp only [crowsL_len, Nat.mul_one, Nat.zero_add, Nat.le_refl, and_self, if_true, List.drop_zero]
  rw [List.take_of_length_le (by rw [crowsL_len]; exact Nat.le_refl _), hm]
  rfl
theorem low_cup {h : Heap} {nR nQ nC nU b : Name} {n R C : Nat} {rows cols : List Int} {us : List (List Int)} {f : Nat → List Int} (hr : rows.length = n) (hq : cols.length = n) (hu : us.length = n)
    (h1 : n ≠ 0 → h nR = some (.row false (rows.map ii))) (h2 : n ≠ 0 → h nQ = some (.row false (cols.map ii))) (h3 : n ≠ 0 → h nU = some (.row false (us.map (lv C)))) (h0 : 0 < R) (hs : h nC = some (.var (crowsL b f R)))
    (hf : ∀ k, k < R → (f k).length ≠ 0 → h ((900, k) :: b) = some (.row false ((f k).map iu))) (hul : ∀ u ∈ us, u.length = C) :
    lowerTN h (.tup [.agg [rowP nR 1 n (rows.map ii), rowP nQ 1 n (cols.map ii), .view nC 0 1 R R, rowP nU 1 n (us.map (lv C))], i64 0]) = some (.tup [cupQ (rows, cols, (List.range R).map f, us), i64 0]) := by
  have e1 := low_row (h := h) (s := nR) (n := n) (cs := rows.map ii) (by simp [hr]) h1
  have e2 := low_row (h := h) (s := nQ) (n := n) (cs := cols.map ii) (by simp [hq]) h2
  have e3 := low_row (h := h) (s := nU) (n := n) (cs := us.map (lv C)) (by simp [hu]) h3
  have e4 := low_col h0 hs hf
  have e5 : us.map (lv C) = us.map fun u => IV.l u.length (u.map iu) := List.map_congr_left fun u hm => by rw [hul u hm]
  simp only [lowerTN, lowerAN, mapO, e1, e2, e3, e4, Option.map_some]
  simp [lowerAN, lowerCN, lowerC, cupQ, llP, hr, hq, hu, e5, List.map_map, Function.comp_def]
theorem fP_cs {p : Int} {T : Tk} {C R : Nat} (I : TkI p C R T) : (List.range R).map (fP T R 0) = T.cs.map (padF T.us.length) := by
  apply List.ext_getElem?
  intro k
  rw [List.getElem?_map, List.getElem?_map]
  by_cases h : k < R
  · rw [List.getElem?_range h, List.getElem?_eq_getElem (by rw [I.cl]; exact h)]
    show some (fP T R 0 k) = some _
    unfold fP csF
    rw [if_pos h, List.getD_eq_getElem?_getD, List.getElem?_eq_getElem (by rw [I.cl]; exact h)]; rfl
  · rw [List.getElem?_eq_none (by simp; omega), List.getElem?_eq_none (by rw [I.cl]; omega)]; rfl
theorem fP_zero (T : Tk) : fP T 0 0 = csF T := by
  funext k; unfold fP
  by_cases h : k = 0
  · subst h; simp
  · rw [if_neg (by omega), if_neg h]
theorem fP_full {T : Tk} {i : Nat} : fP T i (T.us.length - (csF T i).length) = fP T (i + 1) 0 := by
  funext k; unfold fP
  by_cases h : k < i
  · rw [if_pos h, if_pos (by omega)]
  · by_cases e : k = i
    · subst e; rw [if_neg (by omega), if_pos rfl, if_pos (by omega)]; rfl
    · by_cases d : k = i + 1
      · subst d; rw [if_neg (by omega), if_neg (by omega), if_neg (by omega), if_pos rfl]; simp
      · rw [if_neg h, if_neg e, if_neg (by omega), if_neg d]
theorem fP_at {T : Tk} {i d : Nat} : fP T i d i = csF T i ++ List.replicate d 0 := by unfold fP; rw [if_neg (by omega), if_pos rfl]
theorem fP_ne {T : Tk} {i d k : Nat} (h : k ≠ i) : fP T i (d + 1) k = fP T i d k := by unfold fP; rw [if_neg h, if_neg h]
structure TkHp (h : Heap) (base : Name) (R C : Nat) (T : Tk) : Prop where
  r : T.us.length ≠ 0 → h ((16, 11) :: (7, 14) :: base) = some (.row false (T.rows.map ii))
  q : T.us.length ≠ 0 → h ((16, 19) :: (7, 14) :: base) = some (.row false (T.cols.map ii))
  u : T.us.length ≠ 0 → h ((16, 27) :: (7, 14) :: base) = some (.row false (T.us.map (lv C)))
  c : h ((10, 8) :: (7, 14) :: base) = some (.var (crowsL ((7, 14) :: base) (fP T R 0) R))
  f : ∀ k, k < R → (fP T R 0 k).length ≠ 0 → h ((900, k) :: (7, 14) :: base) = some (.row false ((fP T R 0 k).map iu))
set_option maxHeartbeats 4000000 in
theorem take_run {P R C : Nat} {l : List Int} (hP : Prm P) (M : Mt P R C l) (hin : ∀ a ∈ l, In P a) (base : Name) {T : Tk} (hT : tkN P C l R = T) : ∃ hu, CallR Try.prog base 46 [u64 P, matP R C l] Heap.none (.tup [.agg [rowP ((16, 11) :: (7, 14) :: base) 1 T.us.length (T.rows.map ii), rowP ((16, 19) :: (7, 14) :: base) 1 T.us.length (T.cols.map ii), clmP ((10, 8) :: (7, 14) :: base) R, rowP ((16, 27) :: (7, 14) :: base) 1 T.us.length (T.us.map (lv C))], i64 0]) hu ∧ TkHp hu base R C T := by
  have q1 := mright_walk P R C l (by have := M.len; have := rc_bd M.r2 M.c2; rw [mx_len]; omega)
  rw [mat_mk M] at q1
  have I := tkN_I hP M hin R (Nat.le_refl R)
  rw [hT] at I
  have r1 := M.r1
  have r2 := M.r2
  have c1 := M.c1
  have c2 := M.c2
  have ne1 : ∀ x : Nat × Nat, base ≠ x :: base := base_ne base
  have ne2 : ∀ x : Nat × Nat, x :: base ≠ base := fun x h => base_ne base x h.symm
  refine X_startE (n := 87) (m := 2) (rs := [.cell 4 64, .tmp 5]) Try.func46 rfl rfl rfl rfl (by decide) ?_
  repeat (first | ((first | refine X_call_fn2 rfl (by simp only [tys]) ?_ | refine X_dcall_fn2 rfl (by simp only [tys]) ?_); apply Exists.intro; apply And.intro; (focus (simp -dsimp only [simx, zzC, zzB, tys, ite_self, opnL, callB, callX, readsB, stepOp, nilCmp, ofVal, opBuiltin, opLen, PV.sk, scalBin, scalUn, intBin, opLoad, natOf, opConvert, opField, cellsP, oneP, Value.oneCell', opStore, toIV, scalT, scalA, scalC, boxesA, boxesC, zipB_none, zipB_mx, isZ, opZip, zeroP, opAppendZ, opMakeMap, opLookup, mboxB, opUpdate, ↓reduceIte, Nat.reduceSub, Nat.reduceEqDiff, Nat.reduceAdd, Nat.reduceMul, Nat.reduceLT, Nat.reduceLeDiff, Int.reduceToNat, Int.reduceLE, Int.reduceLT, Int.reduceNeg, reduceCtorEq, zzL, if_true, if_false] <;> rfl)); apply Exists.intro; apply And.intro; (focus (first | exact q1))) | refine X_opc rfl ?_ | refine X_dopc rfl ?_ | refine ⟨(by show drawK _ _ = true; kernel_rfl : drawX _ _ _), ?_⟩ | exact (by show drawK _ _ = true; kernel_rfl : drawX _ _ _) | simp -dsimp (maxSteps := 20000000) (disch := omega) only [simx, zzC, zzB, tys, ite_self, opnL, callB, callX, readsB, stepOp, nilCmp, ofVal, opBuiltin, opLen, PV.sk, scalBin, scalUn, intBin, opLoad, natOf, opConvert, opField, cellsP, oneP, Value.oneCell', opStore, toIV, scalT, scalA, scalC, boxesA, boxesC, zipB_none, zipB_mx, isZ, opZip, zeroP, opAppendZ, opMakeMap, opLookup, mboxB, opUpdate, ↓reduceIte, Nat.reduceSub, Nat.reduceEqDiff, Nat.reduceAdd, Nat.reduceMul, Nat.reduceLT, Nat.reduceLeDiff, Int.reduceToNat, Int.reduceLE, Int.reduceLT, Int.reduceNeg, reduceCtorEq, gos, Int.reduceAdd, Int.reduceSub, Int.reduceMul, Int.reduceEq])
  refine X_loopH [3, 4, 6, 18, 19] [(1, 1) :: (7, 14) :: base, (8, 2) :: (7, 14) :: base, (10, 7) :: (7, 14) :: base, (15, 7) :: (7, 14) :: base, (16, 10) :: (7, 14) :: base, (16, 18) :: (7, 14) :: base, (16, 26) :: (7, 14) :: base, (16, 33) :: (7, 14) :: base] (0) (R) (fun j => True) (fun j => [(18, i64 R), (19, i64 j)]) (fun j => tkH base P R C j l (tkN P C l j) (csF (tkN P C l j))) ?_ ?_ ?_ ?_ ?_ (by decide) ?_
  · intro b hb
    simp only [List.mem_cons, List.not_mem_nil, or_false] at hb
    rcases hb with rfl | rfl | rfl | rfl | rfl | rfl | rfl | rfl
    all_goals (refine ⟨rfl, ?_, noVar_drop (noVar_var (noVar_var (noVar_var (noVar_none _) (by simp [refsL, refsP])) (by simp [refsL, refsP])) (by simp [refsL, refsP]))⟩; show NotIn _ _ _; simp -dsimp only [zzB, tys, ite_self, opnL, callB, callX, readsB, stepOp, nilCmp, ofVal, opBuiltin, opLen, PV.sk, scalBin, scalUn, intBin, opLoad, natOf, opConvert, opField, cellsP, oneP, Value.oneCell', opStore, toIV, scalT, scalA, scalC, boxesA, boxesC, zipB_none, zipB_mx, isZ, opZip, zeroP, opAppendZ, opMakeMap, opLookup, mboxB, opUpdate, ↓reduceIte, Nat.reduceSub, Nat.reduceEqDiff, Nat.reduceAdd, Nat.reduceMul, Nat.reduceLT, Nat.reduceLeDiff, Int.reduceToNat, Int.reduceLE, Int.reduceLT, Int.reduceNeg, reduceCtorEq, gos, Int.reduceAdd, Int.reduceSub, Int.reduceMul, Int.reduceEq, simx, notIn_cons, notIn_nil]; simp [refsP, ne1, ne2])
  · ((simp -dsimp (disch := omega) only [simx, zzB, tys, ite_self, opnL, callB, callX, readsB, stepOp, nilCmp, ofVal, opBuiltin, opLen, PV.sk, scalBin, scalUn, intBin, opLoad, natOf, opConvert, opField, cellsP, oneP, Value.oneCell', opStore, toIV, scalT, scalA, scalC, boxesA, boxesC, zipB_none, zipB_mx, isZ, opZip, zeroP, opAppendZ, opMakeMap, opLookup, mboxB, opUpdate, ↓reduceIte, Nat.reduceSub, Nat.reduceEqDiff, Nat.reduceAdd, Nat.reduceMul, Nat.reduceLT, Nat.reduceLeDiff, Int.reduceToNat, Int.reduceLE, Int.reduceLT, Int.reduceNeg, reduceCtorEq, gos, Int.reduceAdd, Int.reduceSub, Int.reduceMul, Int.reduceEq]) <;> first | rfl | simp)
  · funext c
    have hz : ∀ c, rowsX ((7, 14) :: base) (csF (tkN P C l 0)) 0 c = none := rowsX_zero _ _
    have hl0 : crowsL ((7, 14) :: base) (csF (tkN P C l 0)) 0 = [] := rfl
    rw [Heap.drop_at]
    unfold tkH
    rw [hl0]
    simp only [tkN, rowH_app, rowsH, List.length_nil, if_true, List.map_nil, rowP_zero, clmP_zero, clmB, mtB]
    simp only [show csF ⟨[], [], [], [], []⟩ = csF (tkN P C l 0) from rfl, hz]
    simp only [Heap.put_at, Heap.none_at]
    by_cases e0 : c = (3, 2) :: base
    · subst e0; simp [ne1, ne2]
    by_cases e1 : c = (0, 1) :: base
    · subst e1; simp [ne1, ne2]
    by_cases e2 : c = (0, 0) :: base
    · subst e2; simp [ne1, ne2]
    simp [e0, e1, e2]
  · omega
  · trivial
  · intro j hj _
    by_cases cj : j < R
    · have b1 := ic_bd (c := C) cj
      have b2 := rc_bd r2 c2
      have rl := rowM_len M.len cj
      have ml := M.len
      have m1 : (j + 1) * C = j * C + C := Nat.succ_mul j C
      have f1 : IntKind.i64.wrap ((j : Int) * (C : Int)) = ((j * C : Nat) : Int) := by rw [← Int.natCast_mul]; exact iw_of (by omega) (by omega)
      have f2 : IntKind.i64.wrap (((j : Int) + 1) * (C : Int)) = ((j * C + C : Nat) : Int) := by
        rw [show ((j : Int) + 1) * (C : Int) = ((j * C + C : Nat) : Int) by rw [← m1]; push_cast; rfl]; exact iw_of (by omega) (by omega)
      have f3 : j * C + C - j * C = C := by omega
      have f4 : ((l.map iu).drop (j * C)).take C = (rowM C l j).map iu := by unfold rowM; rw [List.map_take, List.map_drop]
      have f5 : j * C ≤ j * C + C := by omega
      have f6 : j * C + C ≤ l.length := by omega
      have t0 := tkH_T base P R C j l (tkN P C l j) (csF (tkN P C l j))
      have t1 := tkH_0 base P R C j l (tkN P C l j) (csF (tkN P C l j))
      obtain ⟨h', k1, k2, k3⟩ := row_call (base := base) (R := R) (l := l) hP M.hp (tkN_I hP M hin j (by omega)) (fun a ha => hin a (rowM_mem ha)) rl (by omega) c2 (by omega)
      have tn : tkRow P (tkN P C l j) j (rowM C l j) = tkN P C l (j + 1) := rfl
      rw [tn] at k2
      generalize hh0 : tkH base P R C j l (tkN P C l j) (csF (tkN P C l j)) = h0 at t0 t1 k1
      clear M hin I hT
      repeat (first | refine X_opc rfl ?_ | refine X_dopc rfl ?_ | refine ⟨(by show drawK _ _ = true; kernel_rfl : drawX _ _ _), ?_⟩ | exact (by show drawK _ _ = true; kernel_rfl : drawX _ _ _) | simp -dsimp (maxSteps := 20000000) (disch := omega) only [simx, zzC, zzB, tys, ite_self, opnL, callB, callX, readsB, stepOp, nilCmp, ofVal, opBuiltin, opLen, PV.sk, scalBin, scalUn, intBin, opLoad, natOf, opConvert, opField, cellsP, oneP, Value.oneCell', opStore, toIV, scalT, scalA, scalC, boxesA, boxesC, zipB_none, zipB_mx, isZ, opZip, zeroP, opAppendZ, opMakeMap, opLookup, mboxB, opUpdate, ↓reduceIte, Nat.reduceSub, Nat.reduceEqDiff, Nat.reduceAdd, Nat.reduceMul, Nat.reduceLT, Nat.reduceLeDiff, Int.reduceToNat, Int.reduceLE, Int.reduceLT, Int.reduceNeg, reduceCtorEq, gos, Int.reduceAdd, Int.reduceSub, Int.reduceMul, Int.reduceEq, cj, t0, t1, f1, f2, f3, f4, f5, f6, List.length_map])
      refine X_call_sh rfl (by simp only [tys]) rfl k1 ?_
      repeat (first | refine X_opc rfl ?_ | refine X_dopc rfl ?_ | refine ⟨(by show drawK _ _ = true; kernel_rfl : drawX _ _ _), ?_⟩ | exact (by show drawK _ _ = true; kernel_rfl : drawX _ _ _) | simp -dsimp (maxSteps := 20000000) (disch := omega) only [simx, zzC, zzB, tys, ite_self, opnL, callB, callX, readsB, stepOp, nilCmp, ofVal, opBuiltin, opLen, PV.sk, scalBin, scalUn, intBin, opLoad, natOf, opConvert, opField, cellsP, oneP, Value.oneCell', opStore, toIV, scalT, scalA, scalC, boxesA, boxesC, zipB_none, zipB_mx, isZ, opZip, zeroP, opAppendZ, opMakeMap, opLookup, mboxB, opUpdate, ↓reduceIte, Nat.reduceSub, Nat.reduceEqDiff, Nat.reduceAdd, Nat.reduceMul, Nat.reduceLT, Nat.reduceLeDiff, Int.reduceToNat, Int.reduceLE, Int.reduceLT, Int.reduceNeg, reduceCtorEq, gos, Int.reduceAdd, Int.reduceSub, Int.reduceMul, Int.reduceEq])
      refine ⟨cj, ?_, rfl, k2⟩
      intro b hb
      have nvb := k3 b hb
      clear k1 k2 k3 hh0 t0 t1
      simp only [List.mem_cons, List.not_mem_nil, or_false] at hb
      rcases hb with rfl | rfl | rfl | rfl | rfl | rfl | rfl | rfl
      all_goals (refine ⟨rfl, ?_, noVar_drop nvb⟩; show NotIn _ _ _; simp -dsimp only [zzB, tys, ite_self, opnL, callB, callX, readsB, stepOp, nilCmp, ofVal, opBuiltin, opLen, PV.sk, scalBin, scalUn, intBin, opLoad, natOf, opConvert, opField, cellsP, oneP, Value.oneCell', opStore, toIV, scalT, scalA, scalC, boxesA, boxesC, zipB_none, zipB_mx, isZ, opZip, zeroP, opAppendZ, opMakeMap, opLookup, mboxB, opUpdate, ↓reduceIte, Nat.reduceSub, Nat.reduceEqDiff, Nat.reduceAdd, Nat.reduceMul, Nat.reduceLT, Nat.reduceLeDiff, Int.reduceToNat, Int.reduceLE, Int.reduceLT, Int.reduceNeg, reduceCtorEq, gos, Int.reduceAdd, Int.reduceSub, Int.reduceMul, Int.reduceEq, simx, notIn_cons, notIn_nil]; simp [refsP, ne1, ne2])
    · have ej : R = j := by omega
      subst ej
      rw [hT, ← fP_zero T]
      have t0 := fun i d => tkH_T base P R C R l T (fP T i d)
      have tC := fun i d => tkH_C base P R C R l T (fP T i d)
      have cp : clmP ((10, 8) :: (7, 14) :: base) R = .view ((10, 8) :: (7, 14) :: base) 0 1 R R := if_neg (by omega)
      have cb : ∀ L, clmB R L = some (.var L) := fun L => if_neg (by omega)
      simp only [cp] at t0
      simp only [cb] at tC
      repeat (first | refine X_opc rfl ?_ | refine X_dopc rfl ?_ | refine ⟨(by show drawK _ _ = true; kernel_rfl : drawX _ _ _), ?_⟩ | exact (by show drawK _ _ = true; kernel_rfl : drawX _ _ _) | simp -dsimp (maxSteps := 20000000) (disch := omega) only [simx, zzC, zzB, tys, ite_self, opnL, callB, callX, readsB, stepOp, nilCmp, ofVal, opBuiltin, opLen, PV.sk, scalBin, scalUn, intBin, opLoad, natOf, opConvert, opField, cellsP, oneP, Value.oneCell', opStore, toIV, scalT, scalA, scalC, boxesA, boxesC, zipB_none, zipB_mx, isZ, opZip, zeroP, opAppendZ, opMakeMap, opLookup, mboxB, opUpdate, ↓reduceIte, Nat.reduceSub, Nat.reduceEqDiff, Nat.reduceAdd, Nat.reduceMul, Nat.reduceLT, Nat.reduceLeDiff, Int.reduceToNat, Int.reduceLE, Int.reduceLT, Int.reduceNeg, reduceCtorEq, gos, Int.reduceAdd, Int.reduceSub, Int.reduceMul, Int.reduceEq, t0])
      refine X_loopH [4, 6, 45, 46] [(14, 14) :: base] (0) (R) (fun j => True) (fun j => [(45, i64 R), (46, i64 j)]) (fun j => tkH base P R C R l T (fP T j 0)) ?_ ?_ ?_ ?_ ?_ (by decide) ?_
      · refine fgt_cons rfl (by simp -dsimp only [zzB, tys, ite_self, opnL, callB, callX, readsB, stepOp, nilCmp, ofVal, opBuiltin, opLen, PV.sk, scalBin, scalUn, intBin, opLoad, natOf, opConvert, opField, cellsP, oneP, Value.oneCell', opStore, toIV, scalT, scalA, scalC, boxesA, boxesC, zipB_none, zipB_mx, isZ, opZip, zeroP, opAppendZ, opMakeMap, opLookup, mboxB, opUpdate, ↓reduceIte, Nat.reduceSub, Nat.reduceEqDiff, Nat.reduceAdd, Nat.reduceMul, Nat.reduceLT, Nat.reduceLeDiff, Int.reduceToNat, Int.reduceLE, Int.reduceLT, Int.reduceNeg, reduceCtorEq, gos, Int.reduceAdd, Int.reduceSub, Int.reduceMul, Int.reduceEq, simx, notIn_cons, notIn_nil] <;> simp [refsP]) (nv_tk ?_ ?_ ?_ ?_ ?_ ?_) fgt_nil <;> simp [ne1, ne2]
      · repeat (first | refine X_opc rfl ?_ | refine X_dopc rfl ?_ | refine ⟨(by show drawK _ _ = true; kernel_rfl : drawX _ _ _), ?_⟩ | exact (by show drawK _ _ = true; kernel_rfl : drawX _ _ _) | simp -dsimp (maxSteps := 20000000) (disch := omega) only [simx, zzC, zzB, tys, ite_self, opnL, callB, callX, readsB, stepOp, nilCmp, ofVal, opBuiltin, opLen, PV.sk, scalBin, scalUn, intBin, opLoad, natOf, opConvert, opField, cellsP, oneP, Value.oneCell', opStore, toIV, scalT, scalA, scalC, boxesA, boxesC, zipB_none, zipB_mx, isZ, opZip, zeroP, opAppendZ, opMakeMap, opLookup, mboxB, opUpdate, ↓reduceIte, Nat.reduceSub, Nat.reduceEqDiff, Nat.reduceAdd, Nat.reduceMul, Nat.reduceLT, Nat.reduceLeDiff, Int.reduceToNat, Int.reduceLE, Int.reduceLT, Int.reduceNeg, reduceCtorEq, gos, Int.reduceAdd, Int.reduceSub, Int.reduceMul, Int.reduceEq])
        exact ⟨rfl, rfl⟩
      · funext c
        rw [Heap.drop_at]
        split
        · rename_i e
          rw [List.mem_singleton.1 e]
          simp [tkH, rowH_app, rowsH, rowsX, ne1, ne2]
        · rfl
      · omega
      · trivial
      · intro i hi _
        by_cases ci : i < R
        · repeat (first | refine X_opc rfl ?_ | refine X_dopc rfl ?_ | refine ⟨(by show drawK _ _ = true; kernel_rfl : drawX _ _ _), ?_⟩ | exact (by show drawK _ _ = true; kernel_rfl : drawX _ _ _) | simp -dsimp (maxSteps := 20000000) (disch := omega) only [simx, zzC, zzB, tys, ite_self, opnL, callB, callX, readsB, stepOp, nilCmp, ofVal, opBuiltin, opLen, PV.sk, scalBin, scalUn, intBin, opLoad, natOf, opConvert, opField, cellsP, oneP, Value.oneCell', opStore, toIV, scalT, scalA, scalC, boxesA, boxesC, zipB_none, zipB_mx, isZ, opZip, zeroP, opAppendZ, opMakeMap, opLookup, mboxB, opUpdate, ↓reduceIte, Nat.reduceSub, Nat.reduceEqDiff, Nat.reduceAdd, Nat.reduceMul, Nat.reduceLT, Nat.reduceLeDiff, Int.reduceToNat, Int.reduceLE, Int.reduceLT, Int.reduceNeg, reduceCtorEq, gos, Int.reduceAdd, Int.reduceSub, Int.reduceMul, Int.reduceEq, ci])
          refine X_loopH [4, 6, 8, 45, 46] [(14, 14) :: base] (0) (T.us.length - (csF T i).length) (fun j => True) (fun j => [(8, i64 i)]) (fun j => tkH base P R C R l T (fP T i j)) ?_ ?_ ?_ ?_ ?_ (by decide) ?_
          · refine fgt_cons rfl (by simp -dsimp only [zzB, tys, ite_self, opnL, callB, callX, readsB, stepOp, nilCmp, ofVal, opBuiltin, opLen, PV.sk, scalBin, scalUn, intBin, opLoad, natOf, opConvert, opField, cellsP, oneP, Value.oneCell', opStore, toIV, scalT, scalA, scalC, boxesA, boxesC, zipB_none, zipB_mx, isZ, opZip, zeroP, opAppendZ, opMakeMap, opLookup, mboxB, opUpdate, ↓reduceIte, Nat.reduceSub, Nat.reduceEqDiff, Nat.reduceAdd, Nat.reduceMul, Nat.reduceLT, Nat.reduceLeDiff, Int.reduceToNat, Int.reduceLE, Int.reduceLT, Int.reduceNeg, reduceCtorEq, gos, Int.reduceAdd, Int.reduceSub, Int.reduceMul, Int.reduceEq, simx, notIn_cons, notIn_nil] <;> simp [refsP]) (nv_tk ?_ ?_ ?_ ?_ ?_ ?_) fgt_nil <;> simp [ne1, ne2]
          · ((simp -dsimp (disch := omega) only [simx, zzB, tys, ite_self, opnL, callB, callX, readsB, stepOp, nilCmp, ofVal, opBuiltin, opLen, PV.sk, scalBin, scalUn, intBin, opLoad, natOf, opConvert, opField, cellsP, oneP, Value.oneCell', opStore, toIV, scalT, scalA, scalC, boxesA, boxesC, zipB_none, zipB_mx, isZ, opZip, zeroP, opAppendZ, opMakeMap, opLookup, mboxB, opUpdate, ↓reduceIte, Nat.reduceSub, Nat.reduceEqDiff, Nat.reduceAdd, Nat.reduceMul, Nat.reduceLT, Nat.reduceLeDiff, Int.reduceToNat, Int.reduceLE, Int.reduceLT, Int.reduceNeg, reduceCtorEq, gos, Int.reduceAdd, Int.reduceSub, Int.reduceMul, Int.reduceEq]) <;> first | rfl | simp)
          · funext c
            rw [Heap.drop_at]
            split
            · rename_i e
              rw [List.mem_singleton.1 e]
              simp [tkH, rowH_app, rowsH, rowsX, ne1, ne2]
            · rfl
          · omega
          · trivial
          · intro j hj _
            by_cases cj : j < T.us.length - (csF T i).length
            · have ru : rowP ((16, 27) :: (7, 14) :: base) 1 T.us.length (T.us.map (lv C)) = .view ((16, 27) :: (7, 14) :: base) 0 1 T.us.length T.us.length := by unfold rowP; rw [if_neg (by omega), List.length_map]
              have t1 := t0 i j
              have tc := tC i j
              have g1 := rowsL_get (b := (7, 14) :: base) (f := fP T i j) ci
              have rI := I.ri
              have xl : (fP T i j i).length = (csF T i).length + j := by rw [fP_at]; simp
              have xn : fP T i (j + 1) i = fP T i j i ++ [0] := by rw [fP_at, fP_at, List.replicate_succ', List.append_assoc]
              have rp := rowsL_put (b := (7, 14) :: base) (f := fP T i j) (g := fP T i (j + 1)) ci (fun m hm => fP_ne hm)
              have hu := tkH_upd (base := base) (P := P) (C := C) (l := l) (T := T) (f := fP T i j) (g := fP T i (j + 1)) ci (fun m hm => fP_ne hm) (by rw [xn]; simp)
              unfold rowN at g1 rp
              rw [xn] at rp hu
              have hX : (fP T i j i).length ≠ 0 → tkH base P R C R l T (fP T i j) ((900, i) :: (7, 14) :: base) = some (.row false ((fP T i j i).map iu)) := fun h => by
                unfold tkH
                simp only [rowH_app, rowsH, rowsX_at ci h]
                simp
              have hX0 : (fP T i j i).length = 0 → tkH base P R C R l T (fP T i j) ((900, i) :: (7, 14) :: base) = none := fun h => by
                unfold tkH
                simp only [rowH_app, rowsH, rowsX_nil h]
                simp [ne1, ne2]
              have h14 : tkH base P R C R l T (fP T i j) ((14, 14) :: base) = none := by
                unfold tkH
                simp [rowH_app, rowsH, rowsX, ne1, ne2]
              have cl : ((fP T i j i).length : Int) < (T.us.length : Int) := by omega
              have ile : i + 1 ≤ R := ci
              have ll := crowsL_len ((7, 14) :: base) (fP T i j) R
              have nvh : noVar ((14, 14) :: base) (tkH base P R C R l T (fP T i j)) := nv_tk (by simp [ne1, ne2]) (by simp [ne1, ne2]) (by simp [ne1, ne2]) (by simp [ne1, ne2]) (by simp [ne1, ne2]) (by simp [ne1, ne2])
              have nvl : (14, 14) :: base ∉ refsL (crowsL ((7, 14) :: base) (fP T i (j + 1)) R) := fun h => by
                obtain ⟨k, hk⟩ := mem_rowsL h
                simp at hk
              generalize hh : tkH base P R C R l T (fP T i j) = h0 at t1 tc hu hX hX0 h14 nvh
              generalize fP T i j i = X at g1 rp hu hX hX0 xl cl
              generalize crowsL ((7, 14) :: base) (fP T i j) R = RL at g1 rp tc ll
              generalize T.us.length = r at *
              rcases hn : X.length with _ | m
              · rw [hn] at g1 cl
                have Xe : X = [] := List.eq_nil_of_length_eq_zero hn
                subst Xe
                have hX0 := hX0 rfl
                rw [rowP_zero] at g1
                simp only [List.nil_append, List.length_singleton, List.map_cons, List.map_nil] at rp hu
                rw [show rowP ((900, i) :: (7, 14) :: base) 1 1 [iu 0] = .view ((900, i) :: (7, 14) :: base) 0 1 1 1 from rfl] at rp
                repeat (first | refine ⟨(by show drawK _ _ = true; kernel_rfl : drawX _ _ _), ?_⟩ | exact (by show drawK _ _ = true; kernel_rfl : drawX _ _ _) | simp -dsimp (maxSteps := 20000000) (disch := omega) only [simx, zzC, zzB, tys, ite_self, opnL, callB, callX, readsB, stepOp, nilCmp, ofVal, opBuiltin, opLen, PV.sk, scalBin, scalUn, intBin, opLoad, natOf, opConvert, opField, cellsP, oneP, Value.oneCell', opStore, toIV, scalT, scalA, scalC, boxesA, boxesC, zipB_none, zipB_mx, isZ, opZip, zeroP, opAppendZ, opMakeMap, opLookup, mboxB, opUpdate, ↓reduceIte, Nat.reduceSub, Nat.reduceEqDiff, Nat.reduceAdd, Nat.reduceMul, Nat.reduceLT, Nat.reduceLeDiff, Int.reduceToNat, Int.reduceLE, Int.reduceLT, Int.reduceNeg, reduceCtorEq, gos, Int.reduceAdd, Int.reduceSub, Int.reduceMul, Int.reduceEq, t1, tc, g1, ci, ru, cl, ll, SK.len])
                refine X_dopc rfl ?_
                repeat (first | refine ⟨(by show drawK _ _ = true; kernel_rfl : drawX _ _ _), ?_⟩ | exact (by show drawK _ _ = true; kernel_rfl : drawX _ _ _) | simp -dsimp (maxSteps := 20000000) (disch := omega) only [simx, zzC, zzB, tys, ite_self, opnL, callB, callX, readsB, stepOp, nilCmp, ofVal, opBuiltin, opLen, PV.sk, scalBin, scalUn, intBin, opLoad, natOf, opConvert, opField, cellsP, oneP, Value.oneCell', opStore, toIV, scalT, scalA, scalC, boxesA, boxesC, zipB_none, zipB_mx, isZ, opZip, zeroP, opAppendZ, opMakeMap, opLookup, mboxB, opUpdate, ↓reduceIte, Nat.reduceSub, Nat.reduceEqDiff, Nat.reduceAdd, Nat.reduceMul, Nat.reduceLT, Nat.reduceLeDiff, Int.reduceToNat, Int.reduceLE, Int.reduceLT, Int.reduceNeg, reduceCtorEq, gos, Int.reduceAdd, Int.reduceSub, Int.reduceMul, Int.reduceEq, h14])
                refine X_dopn ((900, i) :: (7, 14) :: base) rfl ?_
                repeat (first | refine ⟨(by show drawK _ _ = true; kernel_rfl : drawX _ _ _), ?_⟩ | exact (by show drawK _ _ = true; kernel_rfl : drawX _ _ _) | simp -dsimp (maxSteps := 20000000) (disch := omega) only [simx, zzC, zzB, tys, ite_self, opnL, callB, callX, readsB, stepOp, nilCmp, ofVal, opBuiltin, opLen, PV.sk, scalBin, scalUn, intBin, opLoad, natOf, opConvert, opField, cellsP, oneP, Value.oneCell', opStore, toIV, scalT, scalA, scalC, boxesA, boxesC, zipB_none, zipB_mx, isZ, opZip, zeroP, opAppendZ, opMakeMap, opLookup, mboxB, opUpdate, ↓reduceIte, Nat.reduceSub, Nat.reduceEqDiff, Nat.reduceAdd, Nat.reduceMul, Nat.reduceLT, Nat.reduceLeDiff, Int.reduceToNat, Int.reduceLE, Int.reduceLT, Int.reduceNeg, reduceCtorEq, gos, Int.reduceAdd, Int.reduceSub, Int.reduceMul, Int.reduceEq])
                refine X_dappend_one (s := (900, i) :: (7, 14) :: base) (n := 0) (z := 1) (cs := []) 22 [.int .u64 0] [iu 0] (by simp only [tys]) (by simp only [tys]) rfl (by decide) rfl (by simp [Heap.put_at]; exact hX0) (by simp [Heap.put_at]; rfl) rfl (by simp only [tys]; omega) (by rw [mx_len]; omega) ?_
                rw [rowP_succ]
                repeat (first | refine ⟨(by show drawK _ _ = true; kernel_rfl : drawX _ _ _), ?_⟩ | exact (by show drawK _ _ = true; kernel_rfl : drawX _ _ _) | simp -dsimp (maxSteps := 20000000) (disch := omega) only [simx, zzC, zzB, tys, ite_self, opnL, callB, callX, readsB, stepOp, nilCmp, ofVal, opBuiltin, opLen, PV.sk, scalBin, scalUn, intBin, opLoad, natOf, opConvert, opField, cellsP, oneP, Value.oneCell', opStore, toIV, scalT, scalA, scalC, boxesA, boxesC, zipB_none, zipB_mx, isZ, opZip, zeroP, opAppendZ, opMakeMap, opLookup, mboxB, opUpdate, ↓reduceIte, Nat.reduceSub, Nat.reduceEqDiff, Nat.reduceAdd, Nat.reduceMul, Nat.reduceLT, Nat.reduceLeDiff, Int.reduceToNat, Int.reduceLE, Int.reduceLT, Int.reduceNeg, reduceCtorEq, gos, Int.reduceAdd, Int.reduceSub, Int.reduceMul, Int.reduceEq, t1, tc, ci, ile, ll, rp, List.nil_append])
                refine ⟨cj, fgt_cons rfl (by simp -dsimp only [zzB, tys, ite_self, opnL, callB, callX, readsB, stepOp, nilCmp, ofVal, opBuiltin, opLen, PV.sk, scalBin, scalUn, intBin, opLoad, natOf, opConvert, opField, cellsP, oneP, Value.oneCell', opStore, toIV, scalT, scalA, scalC, boxesA, boxesC, zipB_none, zipB_mx, isZ, opZip, zeroP, opAppendZ, opMakeMap, opLookup, mboxB, opUpdate, ↓reduceIte, Nat.reduceSub, Nat.reduceEqDiff, Nat.reduceAdd, Nat.reduceMul, Nat.reduceLT, Nat.reduceLeDiff, Int.reduceToNat, Int.reduceLE, Int.reduceLT, Int.reduceNeg, reduceCtorEq, gos, Int.reduceAdd, Int.reduceSub, Int.reduceMul, Int.reduceEq, simx, notIn_cons, notIn_nil] <;> simp [refsP]) (noVar_var (noVar_row (noVar_row nvh)) nvl) fgt_nil, ?_⟩
                rw [← hu]
                funext c
                simp (maxSteps := 20000000) only [Heap.drop_at, rowH_app, Heap.put_at, Heap.none_at, List.mem_cons, List.not_mem_nil, or_false]
                by_cases e0 : c = (14, 14) :: base
                · subst e0; simp [h14]
                by_cases e1 : c = (900, i) :: (7, 14) :: base
                · subst e1; simp [h14]
                by_cases e2 : c = (10, 8) :: (7, 14) :: base
                · subst e2; simp [h14]
                simp [e0, e1, e2, h14]
              · rw [hn] at g1 cl
                have hX := hX (by omega)
                rw [rowP_succ, List.length_map, hn] at g1
                rw [List.length_append, hn, List.length_singleton, rowP_succ, List.length_map, List.length_append, hn, List.length_singleton] at rp
                repeat (first | refine ⟨(by show drawK _ _ = true; kernel_rfl : drawX _ _ _), ?_⟩ | exact (by show drawK _ _ = true; kernel_rfl : drawX _ _ _) | simp -dsimp (maxSteps := 20000000) (disch := omega) only [simx, zzC, zzB, tys, ite_self, opnL, callB, callX, readsB, stepOp, nilCmp, ofVal, opBuiltin, opLen, PV.sk, scalBin, scalUn, intBin, opLoad, natOf, opConvert, opField, cellsP, oneP, Value.oneCell', opStore, toIV, scalT, scalA, scalC, boxesA, boxesC, zipB_none, zipB_mx, isZ, opZip, zeroP, opAppendZ, opMakeMap, opLookup, mboxB, opUpdate, ↓reduceIte, Nat.reduceSub, Nat.reduceEqDiff, Nat.reduceAdd, Nat.reduceMul, Nat.reduceLT, Nat.reduceLeDiff, Int.reduceToNat, Int.reduceLE, Int.reduceLT, Int.reduceNeg, reduceCtorEq, gos, Int.reduceAdd, Int.reduceSub, Int.reduceMul, Int.reduceEq, t1, tc, g1, ci, ru, cl, ll, SK.len])
                refine X_dopc rfl ?_
                repeat (first | refine ⟨(by show drawK _ _ = true; kernel_rfl : drawX _ _ _), ?_⟩ | exact (by show drawK _ _ = true; kernel_rfl : drawX _ _ _) | simp -dsimp (maxSteps := 20000000) (disch := omega) only [simx, zzC, zzB, tys, ite_self, opnL, callB, callX, readsB, stepOp, nilCmp, ofVal, opBuiltin, opLen, PV.sk, scalBin, scalUn, intBin, opLoad, natOf, opConvert, opField, cellsP, oneP, Value.oneCell', opStore, toIV, scalT, scalA, scalC, boxesA, boxesC, zipB_none, zipB_mx, isZ, opZip, zeroP, opAppendZ, opMakeMap, opLookup, mboxB, opUpdate, ↓reduceIte, Nat.reduceSub, Nat.reduceEqDiff, Nat.reduceAdd, Nat.reduceMul, Nat.reduceLT, Nat.reduceLeDiff, Int.reduceToNat, Int.reduceLE, Int.reduceLT, Int.reduceNeg, reduceCtorEq, gos, Int.reduceAdd, Int.reduceSub, Int.reduceMul, Int.reduceEq, h14])
                refine X_dopc rfl ?_
                repeat (first | refine ⟨(by show drawK _ _ = true; kernel_rfl : drawX _ _ _), ?_⟩ | exact (by show drawK _ _ = true; kernel_rfl : drawX _ _ _) | simp -dsimp (maxSteps := 20000000) (disch := omega) only [simx, zzC, zzB, tys, ite_self, opnL, callB, callX, readsB, stepOp, nilCmp, ofVal, opBuiltin, opLen, PV.sk, scalBin, scalUn, intBin, opLoad, natOf, opConvert, opField, cellsP, oneP, Value.oneCell', opStore, toIV, scalT, scalA, scalC, boxesA, boxesC, zipB_none, zipB_mx, isZ, opZip, zeroP, opAppendZ, opMakeMap, opLookup, mboxB, opUpdate, ↓reduceIte, Nat.reduceSub, Nat.reduceEqDiff, Nat.reduceAdd, Nat.reduceMul, Nat.reduceLT, Nat.reduceLeDiff, Int.reduceToNat, Int.reduceLE, Int.reduceLT, Int.reduceNeg, reduceCtorEq, gos, Int.reduceAdd, Int.reduceSub, Int.reduceMul, Int.reduceEq])
                refine X_dappend_own (z := 1) (cs := X.map iu) 22 [.int .u64 0] [iu 0] (by simp only [tys]) (by simp only [tys]) rfl (by decide) (by simp [Heap.put_at]; exact hX) (by simp [hn]) (by simp [hn]) (by simp [Heap.put_at]; rfl) rfl (by simp only [tys]; omega) (by rw [mx_len]; omega) ?_
                have la : (X.map iu ++ [iu 0]).length = m + 1 + 1 := by simp [hn]
                have lm : X.map iu ++ [iu 0] = (X ++ [0]).map iu := by simp
                rw [la, lm]
                repeat (first | refine ⟨(by show drawK _ _ = true; kernel_rfl : drawX _ _ _), ?_⟩ | exact (by show drawK _ _ = true; kernel_rfl : drawX _ _ _) | simp -dsimp (maxSteps := 20000000) (disch := omega) only [simx, zzC, zzB, tys, ite_self, opnL, callB, callX, readsB, stepOp, nilCmp, ofVal, opBuiltin, opLen, PV.sk, scalBin, scalUn, intBin, opLoad, natOf, opConvert, opField, cellsP, oneP, Value.oneCell', opStore, toIV, scalT, scalA, scalC, boxesA, boxesC, zipB_none, zipB_mx, isZ, opZip, zeroP, opAppendZ, opMakeMap, opLookup, mboxB, opUpdate, ↓reduceIte, Nat.reduceSub, Nat.reduceEqDiff, Nat.reduceAdd, Nat.reduceMul, Nat.reduceLT, Nat.reduceLeDiff, Int.reduceToNat, Int.reduceLE, Int.reduceLT, Int.reduceNeg, reduceCtorEq, gos, Int.reduceAdd, Int.reduceSub, Int.reduceMul, Int.reduceEq, t1, tc, ci, ile, ll, rp])
                refine ⟨cj, fgt_cons rfl (by simp -dsimp only [zzB, tys, ite_self, opnL, callB, callX, readsB, stepOp, nilCmp, ofVal, opBuiltin, opLen, PV.sk, scalBin, scalUn, intBin, opLoad, natOf, opConvert, opField, cellsP, oneP, Value.oneCell', opStore, toIV, scalT, scalA, scalC, boxesA, boxesC, zipB_none, zipB_mx, isZ, opZip, zeroP, opAppendZ, opMakeMap, opLookup, mboxB, opUpdate, ↓reduceIte, Nat.reduceSub, Nat.reduceEqDiff, Nat.reduceAdd, Nat.reduceMul, Nat.reduceLT, Nat.reduceLeDiff, Int.reduceToNat, Int.reduceLE, Int.reduceLT, Int.reduceNeg, reduceCtorEq, gos, Int.reduceAdd, Int.reduceSub, Int.reduceMul, Int.reduceEq, simx, notIn_cons, notIn_nil] <;> simp [refsP]) (noVar_var (noVar_row (noVar_row nvh)) nvl) fgt_nil, ?_⟩
                rw [← hu]
                funext c
                simp (maxSteps := 20000000) only [Heap.drop_at, rowH_app, Heap.put_at, Heap.none_at, List.mem_cons, List.not_mem_nil, or_false]
                by_cases e0 : c = (14, 14) :: base
                · subst e0; simp [h14]
                by_cases e1 : c = (900, i) :: (7, 14) :: base
                · subst e1; simp [h14]
                by_cases e2 : c = (10, 8) :: (7, 14) :: base
                · subst e2; simp [h14]
                simp [e0, e1, e2, h14]
            · have ej : j = T.us.length - (csF T i).length := by omega
              have ic := (I.cb (csF T i) (by unfold csF; rw [List.getD_eq_getElem?_getD, List.getElem?_eq_getElem (by rw [I.cl]; exact ci)]; exact List.getElem_mem _)).1
              have xl : (fP T i j i).length = T.us.length := by rw [fP_at]; simp; omega
              have t1 := t0 i j
              have tc := tC i j
              have g1 := rowsL_get (b := (7, 14) :: base) (f := fP T i j) ci
              unfold rowN at g1
              rw [xl] at g1
              have hend : tkH base P R C R l T (fP T i j) = tkH base P R C R l T (fP T (i + 1) 0) := by rw [ej, fP_full]
              have h14 : tkH base P R C R l T (fP T i j) ((14, 14) :: base) = none := by
                unfold tkH
                simp [rowH_app, rowsH, rowsX, ne1, ne2]
              have nvh : noVar ((14, 14) :: base) (tkH base P R C R l T (fP T i j)) := nv_tk (by simp [ne1, ne2]) (by simp [ne1, ne2]) (by simp [ne1, ne2]) (by simp [ne1, ne2]) (by simp [ne1, ne2]) (by simp [ne1, ne2])
              have ll := crowsL_len ((7, 14) :: base) (fP T i j) R
              generalize tkH base P R C R l T (fP T i j) = h0 at t1 tc h14 nvh hend ⊢
              rcases hr : T.us.length with _ | r
              · rw [hr] at t1 g1
                have nlt : ¬ (((0 : Nat) : Int) < ((0 : Nat) : Int)) := by omega
                repeat (first | refine X_opc rfl ?_ | refine X_dopc rfl ?_ | refine ⟨(by show drawK _ _ = true; kernel_rfl : drawX _ _ _), ?_⟩ | exact (by show drawK _ _ = true; kernel_rfl : drawX _ _ _) | simp -dsimp (maxSteps := 20000000) (disch := omega) only [simx, zzC, zzB, tys, ite_self, opnL, callB, callX, readsB, stepOp, nilCmp, ofVal, opBuiltin, opLen, PV.sk, scalBin, scalUn, intBin, opLoad, natOf, opConvert, opField, cellsP, oneP, Value.oneCell', opStore, toIV, scalT, scalA, scalC, boxesA, boxesC, zipB_none, zipB_mx, isZ, opZip, zeroP, opAppendZ, opMakeMap, opLookup, mboxB, opUpdate, ↓reduceIte, Nat.reduceSub, Nat.reduceEqDiff, Nat.reduceAdd, Nat.reduceMul, Nat.reduceLT, Nat.reduceLeDiff, Int.reduceToNat, Int.reduceLE, Int.reduceLT, Int.reduceNeg, reduceCtorEq, gos, Int.reduceAdd, Int.reduceSub, Int.reduceMul, Int.reduceEq, t1, tc, g1, ci, ll, rowP_zero, SK.len, nlt])
                refine ⟨ci, fgt_cons rfl (by simp -dsimp only [zzB, tys, ite_self, opnL, callB, callX, readsB, stepOp, nilCmp, ofVal, opBuiltin, opLen, PV.sk, scalBin, scalUn, intBin, opLoad, natOf, opConvert, opField, cellsP, oneP, Value.oneCell', opStore, toIV, scalT, scalA, scalC, boxesA, boxesC, zipB_none, zipB_mx, isZ, opZip, zeroP, opAppendZ, opMakeMap, opLookup, mboxB, opUpdate, ↓reduceIte, Nat.reduceSub, Nat.reduceEqDiff, Nat.reduceAdd, Nat.reduceMul, Nat.reduceLT, Nat.reduceLeDiff, Int.reduceToNat, Int.reduceLE, Int.reduceLT, Int.reduceNeg, reduceCtorEq, gos, Int.reduceAdd, Int.reduceSub, Int.reduceMul, Int.reduceEq, simx, notIn_cons, notIn_nil] <;> simp [refsP]) nvh fgt_nil, rfl, ?_⟩
                rw [← hend]
                funext c
                rw [Heap.drop_at]
                split
                · rename_i e
                  rw [List.mem_singleton.1 e, h14]
                · rfl
              · rw [hr] at t1 g1
                have nlt : ¬ (((r + 1 : Nat) : Int) < ((r + 1 : Nat) : Int)) := by omega
                repeat (first | refine X_opc rfl ?_ | refine X_dopc rfl ?_ | refine ⟨(by show drawK _ _ = true; kernel_rfl : drawX _ _ _), ?_⟩ | exact (by show drawK _ _ = true; kernel_rfl : drawX _ _ _) | simp -dsimp (maxSteps := 20000000) (disch := omega) only [simx, zzC, zzB, tys, ite_self, opnL, callB, callX, readsB, stepOp, nilCmp, ofVal, opBuiltin, opLen, PV.sk, scalBin, scalUn, intBin, opLoad, natOf, opConvert, opField, cellsP, oneP, Value.oneCell', opStore, toIV, scalT, scalA, scalC, boxesA, boxesC, zipB_none, zipB_mx, isZ, opZip, zeroP, opAppendZ, opMakeMap, opLookup, mboxB, opUpdate, ↓reduceIte, Nat.reduceSub, Nat.reduceEqDiff, Nat.reduceAdd, Nat.reduceMul, Nat.reduceLT, Nat.reduceLeDiff, Int.reduceToNat, Int.reduceLE, Int.reduceLT, Int.reduceNeg, reduceCtorEq, gos, Int.reduceAdd, Int.reduceSub, Int.reduceMul, Int.reduceEq, t1, tc, g1, ci, ll, rowP_succ, SK.len, nlt])
                refine ⟨ci, fgt_cons rfl (by simp -dsimp only [zzB, tys, ite_self, opnL, callB, callX, readsB, stepOp, nilCmp, ofVal, opBuiltin, opLen, PV.sk, scalBin, scalUn, intBin, opLoad, natOf, opConvert, opField, cellsP, oneP, Value.oneCell', opStore, toIV, scalT, scalA, scalC, boxesA, boxesC, zipB_none, zipB_mx, isZ, opZip, zeroP, opAppendZ, opMakeMap, opLookup, mboxB, opUpdate, ↓reduceIte, Nat.reduceSub, Nat.reduceEqDiff, Nat.reduceAdd, Nat.reduceMul, Nat.reduceLT, Nat.reduceLeDiff, Int.reduceToNat, Int.reduceLE, Int.reduceLT, Int.reduceNeg, reduceCtorEq, gos, Int.reduceAdd, Int.reduceSub, Int.reduceMul, Int.reduceEq, simx, notIn_cons, notIn_nil] <;> simp [refsP]) nvh fgt_nil, rfl, ?_⟩
                rw [← hend]
                funext c
                rw [Heap.drop_at]
                split
                · rename_i e
                  rw [List.mem_singleton.1 e, h14]
                · rfl
        · have ej : R = i := by omega
          subst ej
          have t1 := t0 R 0
          have t2 := tkH_1 base P R C R l T (fP T R 0)
          have fin : ∀ (x : Box), TkHp ((tkH base P R C R l T (fP T R 0)).put ((0, 1) :: base) x) base R C T := by
            intro x
            refine ⟨fun h => ?_, fun h => ?_, fun h => ?_, ?_, fun k hk h => ?_⟩
            · simp [tkH, Heap.put_at, rowH_app, rowsH, rowsX, ne1, ne2]; intro h2; exact absurd (by rw [h2]; rfl) h
            · simp [tkH, Heap.put_at, rowH_app, rowsH, rowsX, ne1, ne2]; intro h2; exact absurd (by rw [h2]; rfl) h
            · simp [tkH, Heap.put_at, rowH_app, rowsH, rowsX, ne1, ne2]; intro h2; exact absurd (by rw [h2]; rfl) h
            · simp only [Heap.put_at]; rw [if_neg (by simp)]; exact tC R 0
            · simp only [Heap.put_at]; rw [if_neg (by simp)]
              unfold tkH
              simp only [rowH_app, rowsH, rowsX_at hk h]
              simp
          rcases hr : T.us.length with _ | r
          · rw [hr] at t1
            repeat (first | refine X_opc rfl ?_ | refine X_dopc rfl ?_ | refine ⟨(by show drawK _ _ = true; kernel_rfl : drawX _ _ _), ?_⟩ | exact (by show drawK _ _ = true; kernel_rfl : drawX _ _ _) | simp -dsimp (maxSteps := 20000000) (disch := omega) only [simx, zzC, zzB, tys, ite_self, opnL, callB, callX, readsB, stepOp, nilCmp, ofVal, opBuiltin, opLen, PV.sk, scalBin, scalUn, intBin, opLoad, natOf, opConvert, opField, cellsP, oneP, Value.oneCell', opStore, toIV, scalT, scalA, scalC, boxesA, boxesC, zipB_none, zipB_mx, isZ, opZip, zeroP, opAppendZ, opMakeMap, opLookup, mboxB, opUpdate, ↓reduceIte, Nat.reduceSub, Nat.reduceEqDiff, Nat.reduceAdd, Nat.reduceMul, Nat.reduceLT, Nat.reduceLeDiff, Int.reduceToNat, Int.reduceLE, Int.reduceLT, Int.reduceNeg, reduceCtorEq, zzR, gos, Int.reduceAdd, Int.reduceSub, Int.reduceMul, Int.reduceEq, t1, t2, rowP_zero])
            rw [cp]
            exact ⟨rfl, fin _⟩
          · rw [hr] at t1
            repeat (first | refine X_opc rfl ?_ | refine X_dopc rfl ?_ | refine ⟨(by show drawK _ _ = true; kernel_rfl : drawX _ _ _), ?_⟩ | exact (by show drawK _ _ = true; kernel_rfl : drawX _ _ _) | simp -dsimp (maxSteps := 20000000) (disch := omega) only [simx, zzC, zzB, tys, ite_self, opnL, callB, callX, readsB, stepOp, nilCmp, ofVal, opBuiltin, opLen, PV.sk, scalBin, scalUn, intBin, opLoad, natOf, opConvert, opField, cellsP, oneP, Value.oneCell', opStore, toIV, scalT, scalA, scalC, boxesA, boxesC, zipB_none, zipB_mx, isZ, opZip, zeroP, opAppendZ, opMakeMap, opLookup, mboxB, opUpdate, ↓reduceIte, Nat.reduceSub, Nat.reduceEqDiff, Nat.reduceAdd, Nat.reduceMul, Nat.reduceLT, Nat.reduceLeDiff, Int.reduceToNat, Int.reduceLE, Int.reduceLT, Int.reduceNeg, reduceCtorEq, zzR, gos, Int.reduceAdd, Int.reduceSub, Int.reduceMul, Int.reduceEq, t1, t2, rowP_succ])
            rw [cp]
            exact ⟨rfl, fin _⟩
theorem take_yes {P R C : Nat} {l : List Int} (hP : Prm P) (M : Mt P R C l) (hin : ∀ a ∈ l, In P a) : CallsP Try.prog 46 [u64 P, matP R C l] (.tup [cupQ (tkCup P C R l), i64 0]) := by
  refine CallsP.of_low mixed rfl fun base => ?_
  have I := tkN_I hP M hin R (Nat.le_refl R)
  have r1 := M.r1
  generalize hT : tkN P C l R = T at I
  obtain ⟨hu, h1, H⟩ := take_run hP M hin base hT
  refine ⟨_, hu, h1, ?_⟩
  have e : tkCup P C R l = (T.rows, T.cols, (List.range R).map (fP T R 0), T.us) := by unfold tkCup; rw [hT, fP_cs I]
  have cp : clmP ((10, 8) :: (7, 14) :: base) R = .view ((10, 8) :: (7, 14) :: base) 0 1 R R := if_neg (by omega)
  rw [e, cp]
  exact low_cup (b := (7, 14) :: base) I.rl I.ql rfl H.r H.q H.u (by omega) H.c H.f (fun u hu => (I.ul u hu).1)
end Go.Proofs.Ythnfphgjfpcpbaa.TM
namespace Go.Proofs.Ythnfphgjfpcpbaa.TM
open Go Go.RowKit
attribute [local irreducible] K W WOps Effs Xg Xo Xr Xdg Xdo Xdr Xif CallsP CallR
theorem take_walk {P : Nat} (hP : Prm P) (r c : Int) (l : List Int) (hl : l.length ≤ maxLen) (wl : W64s l) : CallsP Try.prog 46 [u64 P, matP r c l] (.tup [cupQ (takeR P r c l).1, i64 (takeR P r c l).2]) := by
  unfold takeR
  cases h : MatB P r c l with
  | false => exact mat_walk_no hl h
  | true =>
    obtain ⟨R, C, rfl, rfl, M⟩ := mat_of h
    have := take_yes hP M (fun a ha => in_of M.has wl ha)
    simpa using this
def rankR (p r c : Int) (l : List Int) : Int := (takeR p r c l).1.1.length
theorem rank_walk {P : Nat} (hP : Prm P) (r c : Int) (l : List Int) (hl : l.length ≤ maxLen) (wl : W64s l) : CallsP Try.prog 34 [u64 P, matP r c l] (.tup [i64 (rankR P r c l), i64 (takeR P r c l).2]) := by
  have q1 := take_walk hP r c l hl wl
  unfold rankR
  generalize takeR P r c l = t at q1
  obtain ⟨⟨a, b, cc, d⟩, e⟩ := t
  refine X_startP (n := 18) (m := 2) (rs := [.tmp 4, .tmp 5]) Try.func34 rfl rfl rfl rfl (by decide) fun base => ?_
  repeat (first | ((first | refine X_call_fn2 rfl (by simp only [tys]) ?_ | refine X_dcall_fn2 rfl (by simp only [tys]) ?_); apply Exists.intro; apply And.intro; (focus (simp -dsimp only [simx, zzC, zzB, tys, ite_self, opnL, callB, callX, readsB, stepOp, nilCmp, ofVal, opBuiltin, opLen, PV.sk, scalBin, scalUn, intBin, opLoad, natOf, opConvert, opField, cellsP, oneP, Value.oneCell', opStore, toIV, scalT, scalA, scalC, boxesA, boxesC, zipB_none, zipB_mx, isZ, opZip, zeroP, opAppendZ, opMakeMap, opLookup, mboxB, opUpdate, ↓reduceIte, Nat.reduceSub, Nat.reduceEqDiff, Nat.reduceAdd, Nat.reduceMul, Nat.reduceLT, Nat.reduceLeDiff, Int.reduceToNat, Int.reduceLE, Int.reduceLT, Int.reduceNeg, reduceCtorEq, zzL, if_true, if_false] <;> rfl)); apply Exists.intro; apply And.intro; (focus (first | exact q1))) | refine X_opc rfl ?_ | refine X_dopc rfl ?_ | refine ⟨(by show drawK _ _ = true; kernel_rfl : drawX _ _ _), ?_⟩ | exact (by show drawK _ _ = true; kernel_rfl : drawX _ _ _) | simp -dsimp (maxSteps := 20000000) (disch := omega) only [simx, zzC, zzB, tys, ite_self, opnL, callB, callX, readsB, stepOp, nilCmp, ofVal, opBuiltin, opLen, PV.sk, scalBin, scalUn, intBin, opLoad, natOf, opConvert, opField, cellsP, oneP, Value.oneCell', opStore, toIV, scalT, scalA, scalC, boxesA, boxesC, zipB_none, zipB_mx, isZ, opZip, zeroP, opAppendZ, opMakeMap, opLookup, mboxB, opUpdate, ↓reduceIte, Nat.reduceSub, Nat.reduceEqDiff, Nat.reduceAdd, Nat.reduceMul, Nat.reduceLT, Nat.reduceLeDiff, Int.reduceToNat, Int.reduceLE, Int.reduceLT, Int.reduceNeg, reduceCtorEq, zzR, gos, Int.reduceAdd, Int.reduceSub, Int.reduceMul, Int.reduceEq, SK.len])
theorem profile_walk {P : Nat} (hP : Prm P) (r c : Int) (l : List Int) (hl : l.length ≤ maxLen) (wl : W64s l) : CallsP Try.prog 35 [u64 P, matP r c l] (.tup [li (takeR P r c l).1.1, i64 (takeR P r c l).2]) := by
  have q1 := take_walk hP r c l hl wl
  generalize takeR P r c l = t at q1
  obtain ⟨⟨a, b, cc, d⟩, e⟩ := t
  refine X_startP (n := 17) (m := 2) (rs := [.tmp 4, .tmp 5]) Try.func35 rfl rfl rfl rfl (by decide) fun base => ?_
  repeat (first | ((first | refine X_call_fn2 rfl (by simp only [tys]) ?_ | refine X_dcall_fn2 rfl (by simp only [tys]) ?_); apply Exists.intro; apply And.intro; (focus (simp -dsimp only [simx, zzC, zzB, tys, ite_self, opnL, callB, callX, readsB, stepOp, nilCmp, ofVal, opBuiltin, opLen, PV.sk, scalBin, scalUn, intBin, opLoad, natOf, opConvert, opField, cellsP, oneP, Value.oneCell', opStore, toIV, scalT, scalA, scalC, boxesA, boxesC, zipB_none, zipB_mx, isZ, opZip, zeroP, opAppendZ, opMakeMap, opLookup, mboxB, opUpdate, ↓reduceIte, Nat.reduceSub, Nat.reduceEqDiff, Nat.reduceAdd, Nat.reduceMul, Nat.reduceLT, Nat.reduceLeDiff, Int.reduceToNat, Int.reduceLE, Int.reduceLT, Int.reduceNeg, reduceCtorEq, zzL, if_true, if_false] <;> rfl)); apply Exists.intro; apply And.intro; (focus (first | exact q1))) | refine X_opc rfl ?_ | refine X_dopc rfl ?_ | refine ⟨(by show drawK _ _ = true; kernel_rfl : drawX _ _ _), ?_⟩ | exact (by show drawK _ _ = true; kernel_rfl : drawX _ _ _) | simp -dsimp (maxSteps := 20000000) (disch := omega) only [simx, zzC, zzB, tys, ite_self, opnL, callB, callX, readsB, stepOp, nilCmp, ofVal, opBuiltin, opLen, PV.sk, scalBin, scalUn, intBin, opLoad, natOf, opConvert, opField, cellsP, oneP, Value.oneCell', opStore, toIV, scalT, scalA, scalC, boxesA, boxesC, zipB_none, zipB_mx, isZ, opZip, zeroP, opAppendZ, opMakeMap, opLookup, mboxB, opUpdate, ↓reduceIte, Nat.reduceSub, Nat.reduceEqDiff, Nat.reduceAdd, Nat.reduceMul, Nat.reduceLT, Nat.reduceLeDiff, Int.reduceToNat, Int.reduceLE, Int.reduceLT, Int.reduceNeg, reduceCtorEq, zzR, gos, Int.reduceAdd, Int.reduceSub, Int.reduceMul, Int.reduceEq, SK.len])
end Go.Proofs.Ythnfphgjfpcpbaa.TM
namespace Go.Proofs.Ythnfphgjfpcpbaa.TM
open Go Go.RowKit
attribute [local irreducible] K W WOps Effs Xg Xo Xr Xdg Xdo Xdr Xif CallsP CallR
structure CupW (p : Int) (R C : Nat) (c : CupT) : Prop where
  ql : c.2.1.length = c.1.length
  ul : c.2.2.2.length = c.1.length
  cl : c.2.2.1.length = R
  rb : ∀ a ∈ c.1, 0 ≤ a ∧ a < R
  qb : ∀ a ∈ c.2.1, 0 ≤ a ∧ a < C
  ur : ∀ u ∈ c.2.2.2, u.length = C ∧ ∀ a ∈ u, In p a
  cr : ∀ x ∈ c.2.2.1, x.length = c.1.length ∧ ∀ a ∈ x, In p a
  nz : ∀ k, k < c.1.length → (c.2.2.2.getD k []).getD (c.2.1.getD k 0).toNat 0 ≠ 0
  rle : c.1.length ≤ R
theorem getD_mm {α : Type} {l : List α} {d : α} {i : Nat} (h : i < l.length) : l.getD i d ∈ l := by
  rw [List.getD_eq_getElem?_getD, List.getElem?_eq_getElem h]; exact List.getElem_mem h
theorem getD_at' {α : Type} {l : List α} {d : α} {i : Nat} (h : i < l.length) : l[i]? = some (l.getD i d) := by
  rw [List.getD_eq_getElem?_getD, List.getElem?_eq_getElem h]; rfl
theorem tkCup_W {P R C : Nat} {l : List Int} (hP : Prm P) (M : Mt P R C l) (hin : ∀ a ∈ l, In P a) : CupW P R C (tkCup P C R l) := by
  have I := tkN_I hP M hin R (Nat.le_refl R)
  unfold tkCup
  generalize hT : tkN P C l R = T at I
  have one : In (P : Int) 0 := ⟨by decide, by have := M.hp.1; omega⟩
  refine ⟨by simp only; rw [I.ql, I.rl], by simp only; rw [I.rl], by simp [I.cl], I.rb, I.qb, I.ul, fun x hx => ?_, ?_, by simp only; rw [I.rl]; exact I.ri⟩
  · obtain ⟨c, hc, rfl⟩ := List.mem_map.1 hx
    obtain ⟨h1, h2⟩ := I.cb c hc
    refine ⟨by unfold padF; simp [I.rl]; omega, fun a ha => ?_⟩
    unfold padF at ha
    rcases List.mem_append.1 ha with ha | ha
    · exact h2 a ha
    · rw [List.eq_of_mem_replicate ha]; exact one
  · intro k hk
    have hk2 : k < T.us.length := by rw [← I.rl]; exact hk
    have : ∀ i, i ≤ R → ∀ k, k < (tkN P C l i).us.length → ((tkN P C l i).us.getD k []).getD ((tkN P C l i).cols.getD k 0).toNat 0 ≠ 0 := by
      intro i
      induction i with
      | zero => intro _ k hk; exact absurd hk (Nat.not_lt_zero k)
      | succ i ih =>
        intro hi k hk
        have J := tkN_I hP M hin i (by omega)
        have ih := ih (by omega)
        have e : tkN P C l (i + 1) = tkRow P (tkN P C l i) i (rowM C l i) := rfl
        rw [e] at hk ⊢
        generalize tkN P C l i = T at J ih hk
        rcases nzA_spec (rstT P T (rowM C l i)) 0 with ⟨z1, _⟩ | ⟨n, z1, z2, z3, _⟩
        · obtain ⟨_, t2, t3, _⟩ := tk_no (p := P) (T := T) (row := rowM C l i) (x := i) (by rw [z1]; decide)
          rw [t3] at hk
          rw [t2, t3]; exact ih k hk
        · obtain ⟨_, t2, t3, _⟩ := tk_yes (p := P) (T := T) (row := rowM C l i) (x := i) (by rw [z1]; omega)
          rw [t3, List.length_append, List.length_singleton] at hk
          rw [t2, t3, z1]
          have ql := J.ql
          by_cases c : k < T.us.length
          · have e1 : (T.us ++ [rstT P T (rowM C l i)]).getD k [] = T.us.getD k [] := by rw [List.getD_eq_getElem?_getD, List.getElem?_append_left c, List.getD_eq_getElem?_getD]
            have e2 : (T.cols ++ [((0 + n : Nat) : Int)]).getD k 0 = T.cols.getD k 0 := by rw [List.getD_eq_getElem?_getD, List.getElem?_append_left (by omega), List.getD_eq_getElem?_getD]
            rw [e1, e2]; exact ih k c
          · have ek : k = T.us.length := by omega
            have e1 : (T.us ++ [rstT P T (rowM C l i)]).getD k [] = rstT P T (rowM C l i) := by rw [List.getD_eq_getElem?_getD, List.getElem?_append_right (by omega), ek]; simp
            have e2 : (T.cols ++ [((0 + n : Nat) : Int)]).getD k 0 = ((0 + n : Nat) : Int) := by rw [List.getD_eq_getElem?_getD, List.getElem?_append_right (by omega), ek, ql]; simp
            rw [e1, e2, show (((0 + n : Nat) : Int)).toNat = n by omega]; exact z3
    have := this R (Nat.le_refl R) k (by rw [hT]; exact hk2)
    rw [hT] at this
    exact this
end Go.Proofs.Ythnfphgjfpcpbaa.TM
namespace Go.Proofs.Ythnfphgjfpcpbaa.TM
open Go Go.RowKit
attribute [local irreducible] K W WOps Effs Xg Xo Xr Xdg Xdo Xdr Xif CallsP CallR
theorem row_walk {r c i : Nat} {l : List Int} (hl : l.length = r * c) (hr : r ≤ 64) (hc : c ≤ 64) (hi : i < r) : CallsP Try.prog 80 [matP r c l, i64 i] (lu (rowM c l i)) := by
  have b1 := ic_bd (c := c) hi
  have b2 := rc_bd hr hc
  have rl := rowM_len hl hi
  have m0 : i * c ≤ 4096 := by omega
  have m1 : (i + 1) * c = i * c + c := Nat.succ_mul i c
  have e1 : IntKind.i64.wrap ((i : Int) * (c : Int)) = ((i * c : Nat) : Int) := by rw [← Int.natCast_mul]; exact iw_of (by omega) (by omega)
  have e2 : IntKind.i64.wrap (((i : Int) + 1) * (c : Int)) = ((i * c + c : Nat) : Int) := by
    rw [show ((i : Int) + 1) * (c : Int) = ((i * c + c : Nat) : Int) by rw [← m1]; push_cast; rfl]; exact iw_of (by omega) (by omega)
  have e3 : i * c + c - i * c = c := by omega
  have e4 : ((l.map iu).drop (i * c)).take c = (rowM c l i).map iu := by unfold rowM; rw [List.map_take, List.map_drop]
  have e5 : i * c ≤ i * c + c := by omega
  have e6 : i * c + c ≤ l.length := by omega
  refine X_startP (n := 17) (m := 2) (rs := [.tmp 4]) Try.func80 rfl rfl rfl rfl (by decide) fun base => ?_
  repeat (first | refine X_opc rfl ?_ | refine X_dopc rfl ?_ | refine ⟨(by show drawK _ _ = true; kernel_rfl : drawX _ _ _), ?_⟩ | exact (by show drawK _ _ = true; kernel_rfl : drawX _ _ _) | simp -dsimp (maxSteps := 20000000) (disch := omega) only [simx, zzC, zzB, tys, ite_self, opnL, callB, callX, readsB, stepOp, nilCmp, ofVal, opBuiltin, opLen, PV.sk, scalBin, scalUn, intBin, opLoad, natOf, opConvert, opField, cellsP, oneP, Value.oneCell', opStore, toIV, scalT, scalA, scalC, boxesA, boxesC, zipB_none, zipB_mx, isZ, opZip, zeroP, opAppendZ, opMakeMap, opLookup, mboxB, opUpdate, ↓reduceIte, Nat.reduceSub, Nat.reduceEqDiff, Nat.reduceAdd, Nat.reduceMul, Nat.reduceLT, Nat.reduceLeDiff, Int.reduceToNat, Int.reduceLE, Int.reduceLT, Int.reduceNeg, reduceCtorEq, zzR, gos, Int.reduceAdd, Int.reduceSub, Int.reduceMul, Int.reduceEq, e1, e2, e3, e4, e5, e6, List.length_map, lu, rl])
end Go.Proofs.Ythnfphgjfpcpbaa.TM
namespace Go.Proofs.Ythnfphgjfpcpbaa.TM
open Go Go.RowKit
attribute [local irreducible] K W WOps Effs Xg Xo Xr Xdg Xdo Xdr Xif CallsP CallR
abbrev mat2 (q : (Int × Int × List Int) × Int) : PV := .tup [matP q.1.1 q.1.2.1 q.1.2.2, i64 q.2]
end Go.Proofs.Ythnfphgjfpcpbaa.TM
namespace Go.Proofs.Ythnfphgjfpcpbaa.TM
open Go Go.RowKit
attribute [local irreducible] K W WOps Effs Xg Xo Xr Xdg Xdo Xdr Xif CallsP CallR
theorem is_walk (p : Nat) (hp : p < 1048576) : ∃ b, CallsP Try.prog 55 [u64 p] (bl b) ∧ (b = true → Prm p) := by
  by_cases h2 : p < 2
  · refine ⟨false, ?_, fun h => by cases h⟩
    refine X_startP (n := 17) (m := 1) (rs := [.tmp 2]) Try.func55 rfl rfl rfl rfl (by decide) fun base => ?_
    repeat (first | refine X_opc rfl ?_ | refine X_dopc rfl ?_ | refine ⟨(by show drawK _ _ = true; kernel_rfl : drawX _ _ _), ?_⟩ | exact (by show drawK _ _ = true; kernel_rfl : drawX _ _ _) | simp -dsimp (maxSteps := 20000000) (disch := omega) only [simx, zzC, zzB, tys, ite_self, opnL, callB, callX, readsB, stepOp, nilCmp, ofVal, opBuiltin, opLen, PV.sk, scalBin, scalUn, intBin, opLoad, natOf, opConvert, opField, cellsP, oneP, Value.oneCell', opStore, toIV, scalT, scalA, scalC, boxesA, boxesC, zipB_none, zipB_mx, isZ, opZip, zeroP, opAppendZ, opMakeMap, opLookup, mboxB, opUpdate, ↓reduceIte, Nat.reduceSub, Nat.reduceEqDiff, Nat.reduceAdd, Nat.reduceMul, Nat.reduceLT, Nat.reduceLeDiff, Int.reduceToNat, Int.reduceLE, Int.reduceLT, Int.reduceNeg, reduceCtorEq, zzR, gos, Int.reduceAdd, Int.reduceSub, Int.reduceMul, Int.reduceEq])
  obtain ⟨d0, ⟨d2, dd⟩, dl⟩ := least (fun d => 2 ≤ d ∧ (p < d * d ∨ p % d = 0)) p ⟨by omega, .inr (Nat.mod_self p)⟩
  have lo : ∀ d, 2 ≤ d → d < d0 → d * d ≤ p ∧ p % d ≠ 0 := fun d h1 h3 => by
    have := dl d h3
    constructor
    · rcases Nat.lt_or_ge p (d * d) with h | h
      · exact absurd ⟨h1, .inl h⟩ this
      · exact h
    · intro h; exact this ⟨h1, .inr h⟩
  have dm : d0 ≤ 1024 := by
    rcases Nat.lt_or_ge 1024 d0 with h | h
    · have := (lo 1024 (by omega) h).1; omega
    · exact h
  have sq : ∀ j : Nat, j ≤ 1024 → j * j ≤ 1024 * 1024 := fun j h => Nat.mul_le_mul h h
  refine ⟨decide (p < d0 * d0), ?_, fun h => prm_of (by omega) fun d h1 h3 => ?_⟩
  · refine X_startP (n := 17) (m := 1) (rs := [.tmp 2]) Try.func55 rfl rfl rfl rfl (by decide) fun base => ?_
    repeat (first | refine X_opc rfl ?_ | refine X_dopc rfl ?_ | refine ⟨(by show drawK _ _ = true; kernel_rfl : drawX _ _ _), ?_⟩ | exact (by show drawK _ _ = true; kernel_rfl : drawX _ _ _) | simp -dsimp (maxSteps := 20000000) (disch := omega) only [simx, zzC, zzB, tys, ite_self, opnL, callB, callX, readsB, stepOp, nilCmp, ofVal, opBuiltin, opLen, PV.sk, scalBin, scalUn, intBin, opLoad, natOf, opConvert, opField, cellsP, oneP, Value.oneCell', opStore, toIV, scalT, scalA, scalC, boxesA, boxesC, zipB_none, zipB_mx, isZ, opZip, zeroP, opAppendZ, opMakeMap, opLookup, mboxB, opUpdate, ↓reduceIte, Nat.reduceSub, Nat.reduceEqDiff, Nat.reduceAdd, Nat.reduceMul, Nat.reduceLT, Nat.reduceLeDiff, Int.reduceToNat, Int.reduceLE, Int.reduceLT, Int.reduceNeg, reduceCtorEq, gos, Int.reduceAdd, Int.reduceSub, Int.reduceMul, Int.reduceEq])
    refine X_loopH [0, 3] [] (0) (d0 - 2) (fun j => True) (fun j => [(3, u64 ((2 + j : Nat) : Int))]) (fun j => Heap.none) ?_ ?_ ?_ ?_ ?_ (by decide) ?_
    · exact (fgt_nil)
    · ((simp -dsimp (disch := omega) only [simx, zzB, tys, ite_self, opnL, callB, callX, readsB, stepOp, nilCmp, ofVal, opBuiltin, opLen, PV.sk, scalBin, scalUn, intBin, opLoad, natOf, opConvert, opField, cellsP, oneP, Value.oneCell', opStore, toIV, scalT, scalA, scalC, boxesA, boxesC, zipB_none, zipB_mx, isZ, opZip, zeroP, opAppendZ, opMakeMap, opLookup, mboxB, opUpdate, ↓reduceIte, Nat.reduceSub, Nat.reduceEqDiff, Nat.reduceAdd, Nat.reduceMul, Nat.reduceLT, Nat.reduceLeDiff, Int.reduceToNat, Int.reduceLE, Int.reduceLT, Int.reduceNeg, reduceCtorEq, gos, Int.reduceAdd, Int.reduceSub, Int.reduceMul, Int.reduceEq]) <;> first | rfl | simp)
    · exact drop_nil _
    · omega
    · trivial
    · intro j hj _
      have s1 := sq (2 + j) (by omega)
      have e1 : IntKind.u64.wrap (((2 + j : Nat) : Int) * ((2 + j : Nat) : Int)) = (((2 + j) * (2 + j) : Nat) : Int) := by rw [← Int.natCast_mul]; exact uw_of (by omega) (by omega)
      by_cases cj : j < d0 - 2
      · obtain ⟨l1, l2⟩ := lo (2 + j) (by omega) (by omega)
        have e2 : (((2 + j) * (2 + j) : Nat) : Int) ≤ (p : Int) := by omega
        have e3 : ¬ (p : Int) % ((2 + j : Nat) : Int) = 0 := by rw [← Int.natCast_emod]; omega
        have e4 : IntKind.u64.wrap (((2 + j : Nat) : Int) + 1) = ((2 + (j + 1) : Nat) : Int) := by
          rw [show ((2 + j : Nat) : Int) + 1 = ((2 + (j + 1) : Nat) : Int) by omega]
          exact uw_of (by omega) (by omega)
        have e5 : ¬ ((2 + j : Nat) : Int) = 0 := by omega
        generalize (((2 + j) * (2 + j) : Nat) : Int) = sq2 at *
        clear lo dl dd sq
        repeat (first | refine X_opc rfl ?_ | refine X_dopc rfl ?_ | refine ⟨(by show drawK _ _ = true; kernel_rfl : drawX _ _ _), ?_⟩ | exact (by show drawK _ _ = true; kernel_rfl : drawX _ _ _) | simp -dsimp (maxSteps := 20000000) (disch := omega) only [simx, zzC, zzB, tys, ite_self, opnL, callB, callX, readsB, stepOp, nilCmp, ofVal, opBuiltin, opLen, PV.sk, scalBin, scalUn, intBin, opLoad, natOf, opConvert, opField, cellsP, oneP, Value.oneCell', opStore, toIV, scalT, scalA, scalC, boxesA, boxesC, zipB_none, zipB_mx, isZ, opZip, zeroP, opAppendZ, opMakeMap, opLookup, mboxB, opUpdate, ↓reduceIte, Nat.reduceSub, Nat.reduceEqDiff, Nat.reduceAdd, Nat.reduceMul, Nat.reduceLT, Nat.reduceLeDiff, Int.reduceToNat, Int.reduceLE, Int.reduceLT, Int.reduceNeg, reduceCtorEq, gos, Int.reduceAdd, Int.reduceSub, Int.reduceMul, Int.reduceEq, e1, e2, e3, e4, e5])
        exact ⟨cj, (fgt_nil), by first | exact drop_nil _ | exact ⟨rfl, drop_nil _⟩⟩
      · have hj' : 2 + j = d0 := by omega
        rw [hj'] at e1 s1 ⊢
        by_cases c : p < d0 * d0
        · rw [decide_eq_true c]
          have e2 : ¬ ((d0 * d0 : Nat) : Int) ≤ (p : Int) := by omega
          generalize ((d0 * d0 : Nat) : Int) = sq2 at *
          clear lo dl dd sq
          repeat (first | refine X_opc rfl ?_ | refine X_dopc rfl ?_ | refine ⟨(by show drawK _ _ = true; kernel_rfl : drawX _ _ _), ?_⟩ | exact (by show drawK _ _ = true; kernel_rfl : drawX _ _ _) | simp -dsimp (maxSteps := 20000000) (disch := omega) only [simx, zzC, zzB, tys, ite_self, opnL, callB, callX, readsB, stepOp, nilCmp, ofVal, opBuiltin, opLen, PV.sk, scalBin, scalUn, intBin, opLoad, natOf, opConvert, opField, cellsP, oneP, Value.oneCell', opStore, toIV, scalT, scalA, scalC, boxesA, boxesC, zipB_none, zipB_mx, isZ, opZip, zeroP, opAppendZ, opMakeMap, opLookup, mboxB, opUpdate, ↓reduceIte, Nat.reduceSub, Nat.reduceEqDiff, Nat.reduceAdd, Nat.reduceMul, Nat.reduceLT, Nat.reduceLeDiff, Int.reduceToNat, Int.reduceLE, Int.reduceLT, Int.reduceNeg, reduceCtorEq, zzR, gos, Int.reduceAdd, Int.reduceSub, Int.reduceMul, Int.reduceEq, e1, e2])
        · rw [decide_eq_false c]
          have e2 : ((d0 * d0 : Nat) : Int) ≤ (p : Int) := by omega
          have e3 : (p : Int) % (d0 : Int) = 0 := by
            rcases dd with h | h
            · exact absurd h c
            · rw [← Int.natCast_emod]; omega
          have e5 : ¬ (d0 : Int) = 0 := by omega
          generalize ((d0 * d0 : Nat) : Int) = sq2 at *
          clear lo dl dd sq
          repeat (first | refine X_opc rfl ?_ | refine X_dopc rfl ?_ | refine ⟨(by show drawK _ _ = true; kernel_rfl : drawX _ _ _), ?_⟩ | exact (by show drawK _ _ = true; kernel_rfl : drawX _ _ _) | simp -dsimp (maxSteps := 20000000) (disch := omega) only [simx, zzC, zzB, tys, ite_self, opnL, callB, callX, readsB, stepOp, nilCmp, ofVal, opBuiltin, opLen, PV.sk, scalBin, scalUn, intBin, opLoad, natOf, opConvert, opField, cellsP, oneP, Value.oneCell', opStore, toIV, scalT, scalA, scalC, boxesA, boxesC, zipB_none, zipB_mx, isZ, opZip, zeroP, opAppendZ, opMakeMap, opLookup, mboxB, opUpdate, ↓reduceIte, Nat.reduceSub, Nat.reduceEqDiff, Nat.reduceAdd, Nat.reduceMul, Nat.reduceLT, Nat.reduceLeDiff, Int.reduceToNat, Int.reduceLE, Int.reduceLT, Int.reduceNeg, reduceCtorEq, zzR, gos, Int.reduceAdd, Int.reduceSub, Int.reduceMul, Int.reduceEq, e1, e2, e3, e5])
  · rw [decide_eq_true_eq] at h
    exact (lo d h1 (sq_lt (Nat.lt_of_le_of_lt h3 h))).2
end Go.Proofs.Ythnfphgjfpcpbaa.TM
namespace Go.Proofs.Ythnfphgjfpcpbaa.TM
open Go Go.RowKit
attribute [local irreducible] K W WOps Effs Xg Xo Xr Xdg Xdo Xdr Xif CallsP CallR
theorem timesM_len (p : Int) (r c : Nat) (l x : List Int) : (timesM p r c l x).length = r := by simp [timesM]
end Go.Proofs.Ythnfphgjfpcpbaa.TM
namespace Go.Proofs.Ythnfphgjfpcpbaa.TM
open Go Go.RowKit
attribute [local irreducible] K W WOps Effs Xg Xo Xr Xdg Xdo Xdr Xif CallsP CallR
def zeroV (n : Nat) : List Int := tbl n (fun _ => 0)
theorem zeroV_len (n : Nat) : (zeroV n).length = n := tbl_len ..
end Go.Proofs.Ythnfphgjfpcpbaa.TM
namespace Go.Proofs.Ythnfphgjfpcpbaa.TM
open Go Go.RowKit
def sumN : Nat → (Nat → Int) → Int
  | 0, _ => 0
  | n + 1, f => sumN n f + f n
theorem sumN_congr {n : Nat} {f g : Nat → Int} (h : ∀ i, i < n → f i = g i) : sumN n f = sumN n g := by
  induction n with
  | zero => rfl
  | succ n ih => rw [sumN, sumN, ih (fun i hi => h i (by omega)), h n (by omega)]
theorem sumN_add (n : Nat) (f g : Nat → Int) : sumN n (fun i => f i + g i) = sumN n f + sumN n g := by
  induction n with
  | zero => rfl
  | succ n ih => simp only [sumN, ih]; omega
theorem sumN_sub (n : Nat) (f g : Nat → Int) : sumN n (fun i => f i - g i) = sumN n f - sumN n g := by
  induction n with
  | zero => rfl
  | succ n ih => simp only [sumN, ih]; omega
theorem sumN_mul (n : Nat) (a : Int) (f : Nat → Int) : sumN n (fun i => a * f i) = a * sumN n f := by
  induction n with
  | zero => simp [sumN]
  | succ n ih => simp only [sumN, ih, Int.mul_add]
theorem sumN_mulr (n : Nat) (a : Int) (f : Nat → Int) : sumN n (fun i => f i * a) = sumN n f * a := by
  induction n with
  | zero => simp [sumN]
  | succ n ih => simp only [sumN, ih, Int.add_mul]
theorem sumN_zero (n : Nat) : sumN n (fun _ => 0) = 0 := by
  induction n with
  | zero => rfl
  | succ n ih => simp [sumN, ih]
theorem sumN_z {n : Nat} {f : Nat → Int} (h : ∀ i, i < n → f i = 0) : sumN n f = 0 := (sumN_congr h).trans (sumN_zero n)
theorem sumN_swap (m n : Nat) (f : Nat → Nat → Int) : sumN m (fun i => sumN n (fun j => f i j)) = sumN n (fun j => sumN m (fun i => f i j)) := by
  induction m with
  | zero => simp [sumN, sumN_zero]
  | succ m ih => simp only [sumN, ih, sumN_add]
theorem sumN_mod {p : Int} {n : Nat} {f g : Nat → Int} (h : ∀ i, i < n → f i % p = g i % p) : sumN n f % p = sumN n g % p := by
  induction n with
  | zero => rfl
  | succ n ih => rw [sumN, sumN, Int.add_emod, ih (fun i hi => h i (by omega)), h n (by omega), ← Int.add_emod]
theorem sumN_one {n i : Nat} (f : Nat → Int) (hi : i < n) : sumN n (fun k => if k = i then f k else 0) = f i := by
  induction n with
  | zero => omega
  | succ n ih =>
    rw [sumN]
    by_cases h : i = n
    · subst h
      rw [sumN_z (fun k hk => if_neg (by omega)), if_pos rfl, Int.zero_add]
    · rw [ih (by omega), if_neg (by omega), Int.add_zero]
theorem sumN_split (m n : Nat) (f : Nat → Int) : sumN (m + n) f = sumN m f + sumN n (fun i => f (m + i)) := by
  induction n with
  | zero => simp [sumN]
  | succ n ih => rw [← Nat.add_assoc, sumN, ih, sumN]; omega
theorem dotI_eq : ∀ (n : Nat) (a b : List Int), a.length = n → b.length = n → dotI a b = sumN n (fun k => a.getD k 0 * b.getD k 0)
  | 0, [], [], _, _ => rfl
  | n + 1, x :: a, y :: b, ha, hb => by
    rw [dotI, dotI_eq n a b (by simpa using ha) (by simpa using hb), Nat.add_comm, sumN_split 1 n]
    simp only [sumN, Int.zero_add]
    congr 1
    apply sumN_congr
    intro i _
    rw [Nat.add_comm 1 i]; simp
  | 0, _ :: _, _, h, _ => by simp at h
  | 0, [], _ :: _, _, h => by simp at h
  | n + 1, [], _, h, _ => by simp at h
  | n + 1, _ :: _, [], _, h => by simp at h
def cl (c : Nat) (l : List Int) (i k : Nat) : Int := l.getD (i * c + k) 0
theorem rowM_cl {r c i k : Nat} {l : List Int} (hl : l.length = r * c) (hi : i < r) (hk : k < c) : (rowM c l i).getD k 0 = cl c l i k := by
  have b1 := ic_bd (c := c) hi
  have e3 : i * c + k < l.length := by omega
  unfold cl rowM
  rw [List.getD_eq_getElem?_getD, List.getD_eq_getElem?_getD, List.getElem?_take, if_pos hk, List.getElem?_drop]
theorem cl_tbl {r c i k : Nat} (f : Nat → Int) (hi : i < r) (hk : k < c) : cl c (tbl (r * c) f) i k = f (i * c + k) := by
  have b1 := ic_bd (c := c) hi
  exact tbl_getD f (by omega)
theorem dc_div {c i k : Nat} (hk : k < c) : (i * c + k) / c = i := by
  rw [Nat.add_comm, Nat.add_mul_div_right _ _ (by omega), Nat.div_eq_of_lt hk, Nat.zero_add]
theorem dc_mod {c i k : Nat} (hk : k < c) : (i * c + k) % c = k := by
  rw [Nat.add_comm, Nat.add_mul_mod_self_right, Nat.mod_eq_of_lt hk]
theorem cl_mem {r c i k : Nat} {l : List Int} (hl : l.length = r * c) (hi : i < r) (hk : k < c) : cl c l i k ∈ l := by
  have b1 := ic_bd (c := c) hi
  have e3 : i * c + k < l.length := by omega
  unfold cl
  rw [List.getD_eq_getElem?_getD, List.getElem?_eq_getElem e3]
  exact List.getElem_mem e3
theorem dotRow {r c i : Nat} {l x : List Int} (hl : l.length = r * c) (hi : i < r) (hx : x.length = c) : dotI (rowM c l i) x = sumN c (fun k => cl c l i k * x.getD k 0) := by
  rw [dotI_eq c _ _ (rowM_len hl hi) hx]
  exact sumN_congr fun k hk => by rw [rowM_cl hl hi hk]
theorem timesM_tbl {p : Int} {r c : Nat} {l x : List Int} (hl : l.length = r * c) (hx : x.length = c) : timesM p r c l x = tbl r (fun i => sumN c (fun k => cl c l i k * x.getD k 0) % p) := by
  unfold timesM tbl
  exact List.map_congr_left fun i hi => by rw [dotRow hl (List.mem_range.1 hi) hx]
theorem turn_cl {r c i k : Nat} (l : List Int) (hi : i < r) (hk : k < c) : cl r (turnM r c l) k i = cl c l i k := by
  have b1 := ic_bd (c := r) hk
  unfold cl turnM
  rw [show (List.range (c * r)).map (fun q => l.getD (srcT r c q) 0) = tbl (c * r) (fun q => l.getD (srcT r c q) 0) from rfl, tbl_getD _ (by omega)]
  unfold srcT
  rw [dc_div hi, dc_mod hi]
end Go.Proofs.Ythnfphgjfpcpbaa.TM
namespace Go.Proofs.Ythnfphgjfpcpbaa.TM
open Go Go.RowKit
def skip (k j : Nat) : Nat := if j < k then j else j + 1
def sg (k : Nat) : Int := if k % 2 = 0 then 1 else -1
theorem sg_zero : sg 0 = 1 := rfl
theorem sg_succ (k : Nat) : sg (k + 1) = - sg k := by
  unfold sg
  by_cases h : k % 2 = 0
  · rw [if_pos h, if_neg (by omega)]
  · rw [if_neg h, if_pos (by omega)]; rfl
abbrev Mx := Nat → Nat → Int
def tr (A : Mx) : Mx := fun i j => A j i
def mnr (A : Mx) (k : Nat) : Mx := fun i j => A (i + 1) (skip k j)
def Lp : Nat → Mx → Int
  | 0, _ => 1
  | n + 1, A => sumN (n + 1) (fun k => sg k * A 0 k * Lp n (mnr A k))
theorem Lp_succ (n : Nat) (A : Mx) : Lp (n + 1) A = sumN (n + 1) (fun k => sg k * A 0 k * Lp n (mnr A k)) := rfl
theorem sumN_succ' (n : Nat) (f : Nat → Int) : sumN (n + 1) f = f 0 + sumN n (fun i => f (i + 1)) := by
  rw [Nat.add_comm, sumN_split 1 n]
  simp only [sumN, Int.zero_add]
  congr 1
  exact sumN_congr fun i _ => by rw [Nat.add_comm 1 i]
theorem skip_lt {n k j : Nat} (hj : j < n) : skip k j < n + 1 := by unfold skip; split <;> omega
theorem Lp_congr : ∀ (n : Nat) {A B : Mx}, (∀ i j, i < n → j < n → A i j = B i j) → Lp n A = Lp n B
  | 0, _, _, _ => rfl
  | n + 1, A, B, h => by
    rw [Lp_succ, Lp_succ]
    refine sumN_congr fun k hk => ?_
    rw [h 0 k (by omega) hk, Lp_congr n (A := mnr A k) (B := mnr B k) fun i j hi hj => h _ _ (by omega) (skip_lt hj)]
theorem Lp_mod {p : Int} : ∀ (n : Nat) {A B : Mx}, (∀ i j, i < n → j < n → A i j % p = B i j % p) → Lp n A % p = Lp n B % p
  | 0, _, _, _ => rfl
  | n + 1, A, B, h => by
    rw [Lp_succ, Lp_succ]
    refine sumN_mod fun k hk => ?_
    rw [Int.mul_emod, Int.mul_emod (sg k), h 0 k (by omega) hk, Lp_mod n (A := mnr A k) (B := mnr B k) fun i j hi hj => h _ _ (by omega) (skip_lt hj), ← Int.mul_emod (sg k), ← Int.mul_emod]
theorem Lp_two (n : Nat) (h1 : ∀ A, Lp (n + 1) A = Lp (n + 1) (tr A)) (h2 : ∀ A, Lp n A = Lp n (tr A)) (A : Mx) :
    Lp (n + 2) A = A 0 0 * Lp (n + 1) (fun i j => A (i + 1) (j + 1)) + sumN (n + 1) (fun k => sumN (n + 1) (fun i => sg (k + 1) * sg i * A 0 (k + 1) * A (i + 1) 0 * Lp n (fun a b => A (skip i a + 1) (skip k b + 1)))) := by
  rw [Lp_succ, sumN_succ', sg_zero, Int.one_mul]
  congr 1
  refine sumN_congr fun k hk => ?_
  rw [h1, Lp_succ, ← sumN_mul]
  refine sumN_congr fun i hi => ?_
  have e1 : tr (mnr A (k + 1)) 0 i = A (i + 1) 0 := rfl
  have e2 : mnr (tr (mnr A (k + 1))) i = tr (fun a b => A (skip i a + 1) (skip k b + 1)) := by
    funext a b
    show A (skip i b + 1) (skip (k + 1) (a + 1)) = A (skip i b + 1) (skip k a + 1)
    congr 1
    unfold skip
    by_cases c : a < k
    · rw [if_pos (by omega), if_pos c]
    · rw [if_neg (by omega), if_neg c]
  rw [e1, e2, ← h2]
  grind
theorem Lp_tr : ∀ (n : Nat) (A : Mx), Lp n A = Lp n (tr A)
  | 0, A => rfl
  | 1, A => by
    rw [Lp_succ, Lp_succ]
    simp [sumN, tr, Lp]
  | n + 2, A => by
    rw [Lp_two n (Lp_tr (n + 1)) (Lp_tr n) A, Lp_two n (Lp_tr (n + 1)) (Lp_tr n) (tr A)]
    have e1 : Lp (n + 1) (fun i j => A (i + 1) (j + 1)) = Lp (n + 1) (fun i j => tr A (i + 1) (j + 1)) := Lp_tr (n + 1) _
    rw [e1, sumN_swap]
    congr 1
    refine sumN_congr fun i hi => sumN_congr fun k hk => ?_
    have e2 : Lp n (fun a b => A (skip i a + 1) (skip k b + 1)) = Lp n (fun a b => tr A (skip k a + 1) (skip i b + 1)) := Lp_tr n _
    rw [e2, sg_succ, sg_succ]
    show - sg k * sg i * A 0 (k + 1) * A (i + 1) 0 * _ = - sg i * sg k * A (i + 1) 0 * A 0 (k + 1) * _
    grind
def updc (A : Mx) (k : Nat) (u : Nat → Int) : Mx := fun i j => if j = k then u i else A i j
theorem mnr_updc_same (A : Mx) (k : Nat) (u : Nat → Int) : mnr (updc A k u) k = mnr A k := by
  funext i j
  show (if skip k j = k then _ else _) = _
  rw [if_neg (by unfold skip; split <;> omega)]; rfl
theorem mnr_updc {A : Mx} {m k : Nat} (h : m ≠ k) (u : Nat → Int) : mnr (updc A k u) m = updc (mnr A m) (if k < m then k else k - 1) (fun i => u (i + 1)) := by
  funext i j
  show (if skip m j = k then u (i + 1) else A (i + 1) (skip m j)) = if j = _ then u (i + 1) else A (i + 1) (skip m j)
  have : skip m j = k ↔ j = (if k < m then k else k - 1) := by
    unfold skip
    split <;> split <;> omega
  simp only [this]
theorem Lp_lin : ∀ (n : Nat) (A : Mx) (k : Nat) (u v : Nat → Int) (c : Int), k < n → Lp n (updc A k (fun i => u i + c * v i)) = Lp n (updc A k u) + c * Lp n (updc A k v)
  | 0, _, _, _, _, _, h => by omega
  | n + 1, A, k, u, v, c, h => by
    rw [Lp_succ, Lp_succ, Lp_succ, ← sumN_mul, ← sumN_add]
    refine sumN_congr fun m hm => ?_
    by_cases e : m = k
    · subst e
      rw [mnr_updc_same, mnr_updc_same, mnr_updc_same]
      show sg m * (if m = m then _ else _) * _ = sg m * (if m = m then _ else _) * _ + c * (sg m * (if m = m then _ else _) * _)
      rw [if_pos rfl, if_pos rfl, if_pos rfl]
      grind
    · rw [mnr_updc e, mnr_updc e, mnr_updc e]
      have ih := Lp_lin n (mnr A m) (if k < m then k else k - 1) (fun i => u (i + 1)) (fun i => v (i + 1)) c (by split <;> omega)
      rw [ih]
      show sg m * (if m = k then _ else _) * _ = sg m * (if m = k then _ else _) * _ + c * (sg m * (if m = k then _ else _) * _)
      rw [if_neg e, if_neg e, if_neg e]
      grind
theorem sumN_pair {n k : Nat} {f : Nat → Int} (hk : k + 1 < n) (h : ∀ m, m < n → m ≠ k → m ≠ k + 1 → f m = 0) (h2 : f k + f (k + 1) = 0) : sumN n f = 0 := by
  have e : sumN n f = sumN n (fun m => (if m = k then f m else 0) + (if m = k + 1 then f m else 0)) := sumN_congr fun m hm => by
    by_cases a : m = k
    · rw [if_pos a, if_neg (by omega)]; omega
    · by_cases b : m = k + 1
      · rw [if_neg a, if_pos b]; omega
      · rw [if_neg a, if_neg b, h m hm a b]; rfl
  rw [e, sumN_add, sumN_one f (by omega), sumN_one f hk, h2]
theorem Lp_adj : ∀ (n : Nat) (A : Mx) (k : Nat), k + 1 < n → (∀ i, A i k = A i (k + 1)) → Lp n A = 0
  | 0, _, _, h, _ => by omega
  | n + 1, A, k, hk, he => by
    rw [Lp_succ]
    refine sumN_pair hk (fun m hm h1 h2 => ?_) ?_
    · rw [Lp_adj n (mnr A m) (if k < m then k else k - 1) (by split <;> omega) fun i => ?_, Int.mul_zero]
      show A (i + 1) (skip m _) = A (i + 1) (skip m _)
      by_cases c : k < m
      · rw [if_pos c, show skip m k = k by unfold skip; rw [if_pos c], show skip m (k + 1) = k + 1 by unfold skip; rw [if_pos (by omega)], he]
      · rw [if_neg c, show skip m (k - 1) = k by unfold skip; rw [if_neg (by omega)]; omega, show skip m (k - 1 + 1) = k + 1 by unfold skip; rw [if_neg (by omega)]; omega, he]
    · have e : Lp n (mnr A k) = Lp n (mnr A (k + 1)) := by
        congr 1
        funext i j
        show A (i + 1) (skip k j) = A (i + 1) (skip (k + 1) j)
        by_cases a : j < k
        · rw [show skip k j = j by unfold skip; rw [if_pos a], show skip (k + 1) j = j by unfold skip; rw [if_pos (by omega)]]
        · by_cases b : j = k
          · subst b
            rw [show skip j j = j + 1 by unfold skip; rw [if_neg (by omega)], show skip (j + 1) j = j by unfold skip; rw [if_pos (by omega)], he]
          · rw [show skip k j = j + 1 by unfold skip; rw [if_neg a], show skip (k + 1) j = j + 1 by unfold skip; rw [if_neg (by omega)]]
      rw [e, he 0, sg_succ]
      grind
end Go.Proofs.Ythnfphgjfpcpbaa.TM
namespace Go.Proofs.Ythnfphgjfpcpbaa.TM
open Go Go.RowKit
theorem emod_sub0 {p a b : Int} : a % p = b % p ↔ (a - b) % p = 0 := (Int.emod_eq_emod_iff_emod_sub_eq_zero)
theorem em_mul {p a b c d : Int} (h1 : a % p = b % p) (h2 : c % p = d % p) : a * c % p = b * d % p := by rw [Int.mul_emod, h1, h2, ← Int.mul_emod]
theorem em_add {p a b c d : Int} (h1 : a % p = b % p) (h2 : c % p = d % p) : (a + c) % p = (b + d) % p := by rw [Int.add_emod, h1, h2, ← Int.add_emod]
theorem em_sub {p a b c d : Int} (h1 : a % p = b % p) (h2 : c % p = d % p) : (a - c) % p = (b - d) % p := by rw [Int.sub_emod, h1, h2, ← Int.sub_emod]
theorem em_z {p a b : Int} (h : a % p = 0) : a * b % p = 0 := by rw [Int.mul_emod, h, Int.zero_mul, Int.zero_emod]
theorem em_z' {p a b : Int} (h : b % p = 0) : a * b % p = 0 := by rw [Int.mul_comm]; exact em_z h
theorem bezout (m n : Nat) : ∃ x y : Int, (m : Int) * x + (n : Int) * y = (Nat.gcd m n : Int) := by
  induction m, n using Nat.gcd.induction with
  | H0 n => exact ⟨0, 1, by simp⟩
  | H1 m n hm ih =>
    obtain ⟨x, y, h⟩ := ih
    refine ⟨y - (n / m : Nat) * x, x, ?_⟩
    rw [Nat.gcd_rec, ← h]
    have e : (n : Int) = ((n % m : Nat) : Int) + (m : Int) * ((n / m : Nat) : Int) := by have := Nat.mod_add_div n m; omega
    rw [e]
    grind
theorem prm_nz {P : Nat} (hP : Prm P) {a : Int} (h : a % P ≠ 0) : ∃ b, a * b % P = 1 := by
  have h2 := hP.1
  have hp : (0 : Int) < P := by omega
  have i1 := Int.emod_nonneg a (show (P : Int) ≠ 0 by omega)
  have i2 := Int.emod_lt_of_pos a hp
  have g := hP.2 (a % P).toNat (by omega) (by omega)
  obtain ⟨x, y, hxy⟩ := bezout P (a % P).toNat
  rw [g, show ((a % P).toNat : Int) = a % P by omega] at hxy
  refine ⟨y, ?_⟩
  have e : a * y % P = (a % P) * y % P := em_mul (Int.emod_emod_of_dvd a (Int.dvd_refl _)).symm rfl
  rw [e, show (a % P) * y = 1 - P * x by rw [show ((1 : Nat) : Int) = 1 from rfl] at hxy; omega, Int.sub_mul_emod_self_left]
  exact Int.emod_eq_of_lt (by omega) (by omega)
theorem sumN_0 {p : Int} {n : Nat} {f : Nat → Int} (h : ∀ i, i < n → f i % p = 0) : sumN n f % p = 0 := by
  rw [sumN_mod (g := fun _ => 0) (fun i hi => by rw [h i hi]; rfl), sumN_zero]; rfl
theorem sumN_only {p : Int} {n k : Nat} {f : Nat → Int} (hk : k < n) (h : ∀ i, i < n → i ≠ k → f i % p = 0) : sumN n f % p = f k % p := by
  rw [← sumN_one f hk]
  refine sumN_mod fun i hi => ?_
  by_cases e : i = k
  · rw [if_pos e]
  · rw [if_neg e, h i hi e]; rfl
theorem sumN_upd {n c : Nat} (f x : Nat → Int) (d : Int) (hc : c < n) : sumN n (fun j => f j * (if j = c then x j + d else x j)) = sumN n (fun j => f j * x j) + f c * d := by
  rw [← sumN_one (fun j => f j * d) hc, ← sumN_add]
  refine sumN_congr fun j _ => ?_
  split
  · rw [Int.mul_add]
  · omega
structure Cp (p : Int) (R C r : Nat) (A : Mx) (rw cw : Nat → Nat) (c u : Mx) : Prop where
  rlt : ∀ k, k < r → rw k < R
  rinc : ∀ j k, j < k → k < r → rw j < rw k
  clt : ∀ k, k < r → cw k < C
  upiv : ∀ k, k < r → u k (cw k) % p ≠ 0
  uz : ∀ j k, j < k → k < r → u k (cw j) % p = 0
  uh : ∀ k, k < r → ∀ j, j < cw k → u k j % p = 0
  c1 : ∀ k, k < r → c (rw k) k % p = 1
  cz : ∀ k, k < r → ∀ i, i < rw k → c i k % p = 0
  made : ∀ i, i < R → ∀ j, j < C → A i j % p = sumN r (fun k => c i k * u k j) % p
def apX (C : Nat) (A : Mx) (x : Nat → Int) : Nat → Int := fun i => sumN C (fun j => A i j * x j)
theorem apX_add (C : Nat) (A : Mx) (x y : Nat → Int) (i : Nat) : apX C A (fun j => x j + y j) i = apX C A x i + apX C A y i := by
  unfold apX; rw [← sumN_add]; exact sumN_congr fun j _ => Int.mul_add ..
theorem apX_sub (C : Nat) (A : Mx) (x y : Nat → Int) (i : Nat) : apX C A (fun j => x j - y j) i = apX C A x i - apX C A y i := by
  unfold apX; rw [← sumN_sub]; exact sumN_congr fun j _ => Int.mul_sub ..
theorem apX_mod {p : Int} {C : Nat} {A : Mx} {x y : Nat → Int} (h : ∀ j, j < C → x j % p = y j % p) (i : Nat) : apX C A x i % p = apX C A y i % p :=
  sumN_mod fun j hj => em_mul rfl (h j hj)
section
variable {P R C r : Nat} {A : Mx} {rw cw : Nat → Nat} {c u : Mx}
theorem Cp.cdis (H : Cp P R C r A rw cw c u) {j k : Nat} (hj : j < r) (hk : k < r) (e : cw j = cw k) : j = k := by
  rcases Nat.lt_trichotomy j k with h | h | h
  · exact absurd (e ▸ H.uz j k h hk) (H.upiv k hk)
  · exact h
  · exact absurd (e ▸ H.uz k j h hj) (H.upiv j hj)
theorem Cp.ap (H : Cp P R C r A rw cw c u) {x : Nat → Int} {i : Nat} (hi : i < R) : apX C A x i % P = sumN r (fun k => c i k * apX C u x k) % P := by
  unfold apX
  have e : sumN r (fun k => c i k * sumN C (fun j => u k j * x j)) = sumN C (fun j => sumN r (fun k => c i k * u k j) * x j) := by
    rw [sumN_congr fun k _ => (sumN_mul C (c i k) (fun j => u k j * x j)).symm, sumN_swap]
    refine sumN_congr fun j _ => ?_
    rw [← sumN_mulr]
    exact sumN_congr fun k _ => by rw [Int.mul_assoc]
  rw [e]
  exact sumN_mod fun j hj => em_mul (H.made i hi j hj) rfl
theorem Cp.usolve (hP : Prm P) (H : Cp P R C r A rw cw c u) (z x0 : Nat → Int) : ∃ x : Nat → Int, (∀ j, (∀ k, k < r → j ≠ cw k) → x j = x0 j) ∧ ∀ k, k < r → apX C u x k % P = z k % P := by
  have key : ∀ d, d ≤ r → ∃ x : Nat → Int, (∀ j, (∀ k, k < r → j ≠ cw k) → x j = x0 j) ∧ ∀ k, r - d ≤ k → k < r → apX C u x k % P = z k % P := by
    intro d
    induction d with
    | zero => exact fun _ => ⟨x0, fun _ _ => rfl, fun k h1 h2 => by omega⟩
    | succ d ih =>
      intro hd
      obtain ⟨x, h1, h2⟩ := ih (by omega)
      have hm : r - (d + 1) < r := by omega
      obtain ⟨b, hb⟩ := prm_nz hP (H.upiv _ hm)
      obtain ⟨y, hy⟩ : ∃ y, apX C u x (r - (d + 1)) = y := ⟨_, rfl⟩
      refine ⟨fun j => if j = cw (r - (d + 1)) then x j + b * (z (r - (d + 1)) - y) else x j, fun j hj => ?_, fun k h3 h4 => ?_⟩
      · simp only
        rw [if_neg (hj _ hm)]; exact h1 j hj
      · unfold apX
        rw [sumN_upd _ _ _ (H.clt _ hm)]
        by_cases e : k = r - (d + 1)
        · subst e
          show (apX C u x _ + _) % _ = _
          rw [hy, ← Int.mul_assoc]
          have : (y + u (r - (d + 1)) (cw (r - (d + 1))) * b * (z (r - (d + 1)) - y)) % P = (y + 1 * (z (r - (d + 1)) - y)) % P := em_add rfl (em_mul (by rw [hb]; exact (Int.emod_eq_of_lt (by omega) (by have := hP.1; omega)).symm) rfl)
          rw [this, Int.one_mul]; congr 1; omega
        · have h5 := h2 k (by omega) h4
          rw [← h5]
          show (apX C u x k + _) % _ = _
          have h6 := H.uz (r - (d + 1)) k (by omega) h4
          rw [Int.add_emod, em_z h6, Int.add_zero, Int.emod_emod_of_dvd _ (Int.dvd_refl _)]
  obtain ⟨x, h1, h2⟩ := key r (Nat.le_refl _)
  exact ⟨x, h1, fun k hk => h2 k (by omega) hk⟩
theorem Cp.cinj (H : Cp P R C r A rw cw c u) {z : Nat → Int} (h1 : ∀ m, m < r → sumN r (fun k => c (rw m) k * z k) % P = 0) : ∀ k, k < r → z k % P = 0 := by
  intro k
  induction k using Nat.strongRecOn with
  | _ k ih =>
  intro hk
  have h2 := h1 k hk
  rw [sumN_only hk (fun j hj hjk => ?_)] at h2
  · rw [Int.mul_emod, H.c1 k hk, Int.one_mul, Int.emod_emod_of_dvd _ (Int.dvd_refl _)] at h2
    exact h2
  · by_cases c : j < k
    · exact em_z' (ih j c hj)
    · exact em_z (H.cz j hj _ (H.rinc k j (by omega) hj))
theorem Cp.ker (H : Cp P R C r A rw cw c u) {x : Nat → Int} : (∀ i, i < R → apX C A x i % P = 0) ↔ ∀ k, k < r → apX C u x k % P = 0 := by
  constructor
  · intro h
    exact H.cinj fun m hm => by rw [← H.ap (H.rlt m hm)]; exact h _ (H.rlt m hm)
  · intro h i hi
    rw [H.ap hi]
    exact sumN_0 fun k hk => em_z' (h k hk)
end
end Go.Proofs.Ythnfphgjfpcpbaa.TM
namespace Go.Proofs.Ythnfphgjfpcpbaa.TM
open Go Go.RowKit
theorem getD_app {α : Type} (l : List α) (x d : α) (k : Nat) : (l ++ [x]).getD k d = if k < l.length then l.getD k d else if k = l.length then x else d := by
  rw [List.getD_eq_getElem?_getD, List.getD_eq_getElem?_getD]
  by_cases h : k < l.length
  · rw [if_pos h, List.getElem?_append_left h]
  · rw [if_neg h, List.getElem?_append_right (by omega)]
    by_cases e : k = l.length
    · subst e; rw [if_pos rfl]; simp
    · rw [if_neg e, List.getElem?_eq_none (by simp; omega)]; rfl
def rwF (T : Tk) (k : Nat) : Nat := (T.rows.getD k 0).toNat
def cwF (T : Tk) (k : Nat) : Nat := (T.cols.getD k 0).toNat
def cF (T : Tk) : Mx := fun i k => (csF T i).getD k 0
def uF (T : Tk) : Mx := fun k j => (T.us.getD k []).getD j 0
def vF (T : Tk) (k : Nat) : Int := T.vs.getD k 0
structure TkC (P C i : Nat) (A : Mx) (T : Tk) : Prop where
  I : TkI P C i T
  H : Cp P i C T.us.length A (rwF T) (cwF T) (cF T) (uF T)
  inv : ∀ k, k < T.us.length → uF T k (cwF T k) * vF T k % P = 1
theorem rest_spec {P C i : Nat} {A : Mx} {T : Tk} (K : TkC P C i A T) {row : List Int} (hl : row.length = C) : ∀ k, k ≤ T.us.length →
    (∀ j, j < k → (elR P T row k).getD (cwF T j) 0 % P = 0) ∧ ∀ q, q < C → row.getD q 0 % P = ((elR P T row k).getD q 0 + sumN k (fun m => elX P T row m * uF T m q)) % P
  | 0, _ => ⟨fun j h => by omega, fun q _ => by simp [elR, sumN]⟩
  | k + 1, hk => by
    obtain ⟨h1, h2⟩ := rest_spec K hl k (by omega)
    have len := elR_len P T row k
    rw [hl] at len
    have get : ∀ q, q < C → (elR P T row (k + 1)).getD q 0 % P = ((elR P T row k).getD q 0 - elX P T row k * uF T k q) % P := fun q hq => by
      rw [elR_succ, lessV_get _ _ _ _ (by omega), Int.emod_emod_of_dvd _ (Int.dvd_refl _)]
      exact em_sub rfl (Int.emod_emod_of_dvd _ (Int.dvd_refl _))
    refine ⟨fun j hj => ?_, fun q hq => ?_⟩
    · rw [get _ (K.H.clt j (by omega))]
      by_cases e : j = k
      · subst e
        have hx : elX P T row j % P = ((elR P T row j).getD (cwF T j) 0 * vF T j) % P := by unfold elX vF cwF; exact Int.emod_emod_of_dvd _ (Int.dvd_refl _)
        have hi := K.inv j (by omega)
        generalize (elR P T row j).getD (cwF T j) 0 = y at hx ⊢
        rw [em_sub rfl (em_mul hx rfl)]
        have hm : (2 : Int) ≤ P := K.I.ri |> fun _ => by
          rcases Nat.lt_or_ge P 2 with h | h
          · have : P = 0 ∨ P = 1 := by omega
            rcases this with rfl | rfl
            · exact absurd (K.H.upiv j (by omega)) (by
                intro hne
                have hz := K.I.ul (T.us.getD j []) (by rw [List.getD_eq_getElem?_getD, List.getElem?_eq_getElem (show j < T.us.length by omega)]; exact List.getElem_mem _)
                have hin := getD_of hz.2 (i := cwF T j) (by rw [hz.1]; exact K.H.clt j (by omega))
                unfold In at hin; omega)
            · exact absurd hi (by rw [show ((1 : Nat) : Int) = 1 from rfl, Int.emod_one]; decide)
          · omega
        have : (y - y * vF T j * uF T j (cwF T j)) % P = (y - y * 1) % P := em_sub rfl (by
          rw [Int.mul_assoc]
          exact em_mul rfl (by rw [Int.mul_comm, hi]; exact (Int.emod_eq_of_lt (by decide) (by omega)).symm))
        rw [this, Int.mul_one, Int.sub_self]; rfl
      · have h3 := K.H.uz j k (by omega) (by omega)
        rw [Int.sub_emod, h1 j (by omega), em_z' h3]; rfl
    · rw [h2 q hq, sumN]
      have h4 := em_add (get q hq) (rfl : (sumN k (fun m => elX P T row m * uF T m q) + elX P T row k * uF T k q) % P = _)
      rw [h4]; congr 1; omega
theorem cup_step {P C i : Nat} {A : Mx} {T : Tk} (hP : Prm P) (hp : Md P) (K : TkC P C i A T) {row : List Int} (hrow : ∀ a ∈ row, In P a) (hl : row.length = C) (hA : ∀ j, j < C → A i j % P = row.getD j 0 % P) : TkC P C (i + 1) A (tkRow P T i row) := by
  have I := K.I
  have H := K.H
  have J := I.next hP hp hrow hl
  obtain ⟨c1, _⟩ := tkRow_cs (P := P) (row := row) I
  obtain ⟨te1, te2⟩ := tk_end (p := P) I row (i : Int) rfl
  obtain ⟨s1, s2⟩ := rest_spec K hl T.us.length (Nat.le_refl _)
  have rl : (rstT P T row).length = C := by unfold rstT; rw [elR_len, hl]
  have rin : ∀ a ∈ rstT P T row, In P a := elR_in hp T hrow _
  change ∀ j, j < T.us.length → (rstT P T row).getD (cwF T j) 0 % P = 0 at s1
  change ∀ q, q < C → row.getD q 0 % P = ((rstT P T row).getD q 0 + _) % P at s2
  have xg : ∀ k, k < T.us.length → (xsT P T row).getD k 0 = elX P T row k := fun k hk => tbl_getD _ hk
  have xl : (xsT P T row).length = T.us.length := tbl_len ..
  have cold : ∀ i', i' < i → ∀ k, cF (tkRow P T i row) i' k = cF T i' k := fun i' h k => by unfold cF; rw [c1 i' h]
  rcases nzA_spec (rstT P T row) 0 with ⟨z1, z2⟩ | ⟨n, z1, z2, z3, z4⟩
  · have neg : nzA (rstT P T row) 0 < 0 := by rw [z1]; decide
    obtain ⟨t1, t2, t3, t4⟩ := tk_no (p := P) (T := T) (row := row) (x := i) neg
    have te := te1 neg
    have e1 : rwF (tkRow P T i row) = rwF T := by unfold rwF; rw [t1]
    have e2 : cwF (tkRow P T i row) = cwF T := by unfold cwF; rw [t2]
    have e3 : uF (tkRow P T i row) = uF T := by unfold uF; rw [t3]
    have e4 : vF (tkRow P T i row) = vF T := by unfold vF; rw [t4]
    refine ⟨J, ?_, ?_⟩
    · rw [t3, e1, e2, e3]
      refine ⟨fun k hk => by have := H.rlt k hk; omega, H.rinc, H.clt, H.upiv, H.uz, H.uh, fun k hk => ?_, fun k hk i' hi' => ?_, fun i' hi' j hj => ?_⟩
      · rw [cold _ (H.rlt k hk)]; exact H.c1 k hk
      · rw [cold _ (Nat.lt_trans hi' (H.rlt k hk))]; exact H.cz k hk i' hi'
      · by_cases e : i' = i
        · subst e
          rw [hA j hj, s2 j hj]
          have z : (rstT P T row).getD j 0 = 0 := by rw [List.getD_eq_getElem?_getD, List.getElem?_eq_getElem (by omega)]; exact z2 _ (List.getElem_mem _)
          rw [z, Int.zero_add]
          refine sumN_mod fun k hk => ?_
          unfold cF csF
          rw [te, xg k hk]
        · rw [H.made i' (by omega) j hj]
          exact sumN_mod fun k hk => by rw [cold i' (by omega)]
    · rw [t3, e2, e3, e4]; exact K.inv
  · have neg : ¬ nzA (rstT P T row) 0 < 0 := by rw [z1]; omega
    obtain ⟨t1, t2, t3, t4⟩ := tk_yes (p := P) (T := T) (row := row) (x := i) neg
    have te := te2 neg
    have zn : (((0 + n : Nat) : Int)).toNat = n := by omega
    have zi : ((0 + n : Nat) : Int) = (n : Int) := by omega
    rw [z1] at t2 t4
    rw [zn] at t4
    rw [zi] at t2
    have r1 : ∀ k, rwF (tkRow P T i row) k = if k < T.us.length then rwF T k else if k = T.us.length then i else 0 := fun k => by
      unfold rwF; rw [t1, getD_app, I.rl]; (repeat' split) <;> simp
    have r2 : ∀ k, cwF (tkRow P T i row) k = if k < T.us.length then cwF T k else if k = T.us.length then n else 0 := fun k => by
      unfold cwF; rw [t2, getD_app, I.ql]; (repeat' split) <;> simp
    have r3 : ∀ k j, uF (tkRow P T i row) k j = if k < T.us.length then uF T k j else if k = T.us.length then (rstT P T row).getD j 0 else 0 := fun k j => by
      unfold uF; rw [t3, getD_app]; (repeat' split) <;> simp
    have r4 : ∀ k, vF (tkRow P T i row) k = if k < T.us.length then vF T k else if k = T.us.length then finvC P ((rstT P T row).getD n 0) else 0 := fun k => by
      unfold vF; rw [t4, getD_app, I.vl]
    have rn : In P ((rstT P T row).getD n 0) := getD_of rin z2
    have rnz : (rstT P T row).getD n 0 % P ≠ 0 := by rw [Int.emod_eq_of_lt rn.1 rn.2]; exact z3
    have us1 : (tkRow P T i row).us.length = T.us.length + 1 := by rw [t3]; simp
    have cnew : ∀ k, cF (tkRow P T i row) i k = if k < T.us.length then elX P T row k else if k = T.us.length then 1 else 0 := fun k => by
      unfold cF csF
      rw [te, getD_app, xl]
      split
      · rename_i h; rw [xg k h]
      · rfl
    have cnr : ∀ i', i' < i → cF T i' T.us.length = 0 := fun i' h => by
      unfold cF csF
      have : ((T.cs.getD i' [])).length ≤ T.us.length := by
        rw [List.getD_eq_getElem?_getD, List.getElem?_eq_getElem (by rw [I.cl]; exact h)]
        exact (I.cb _ (List.getElem_mem _)).1
      rw [List.getD_eq_getElem?_getD, List.getElem?_eq_none this]; rfl
    refine ⟨J, ?_, ?_⟩
    · rw [us1]
      refine ⟨fun k hk => ?_, fun j k hjk hk => ?_, fun k hk => ?_, fun k hk => ?_, fun j k hjk hk => ?_, fun k hk j hj => ?_, fun k hk => ?_, fun k hk i' hi' => ?_, fun i' hi' j hj => ?_⟩
      · rw [r1]
        by_cases h : k < T.us.length
        · rw [if_pos h]; have := H.rlt k h; omega
        · rw [if_neg h, if_pos (by omega)]; omega
      · rw [r1, r1, if_pos (show j < T.us.length by omega)]
        by_cases h : k < T.us.length
        · rw [if_pos h]; exact H.rinc j k hjk h
        · rw [if_neg h, if_pos (by omega)]; exact H.rlt j (by omega)
      · rw [r2]
        by_cases h : k < T.us.length
        · rw [if_pos h]; exact H.clt k h
        · rw [if_neg h, if_pos (by omega)]; omega
      · rw [r3, r2]
        by_cases h : k < T.us.length
        · rw [if_pos h, if_pos h]; exact H.upiv k h
        · rw [if_neg h, if_pos (by omega), if_neg h, if_pos (by omega)]; exact rnz
      · rw [r3, r2, if_pos (show j < T.us.length by omega)]
        by_cases h : k < T.us.length
        · rw [if_pos h]; exact H.uz j k hjk h
        · rw [if_neg h, if_pos (by omega)]; exact s1 j (by omega)
      · rw [r2] at hj
        rw [r3]
        by_cases h : k < T.us.length
        · rw [if_pos h] at hj ⊢; exact H.uh k h j hj
        · rw [if_neg h, if_pos (by omega)] at hj ⊢; rw [z4 j hj]; rfl
      · rw [r1]
        by_cases h : k < T.us.length
        · rw [if_pos h, cold _ (H.rlt k h)]; exact H.c1 k h
        · rw [if_neg h, if_pos (by omega), cnew, if_neg h, if_pos (by omega)]
          exact Int.emod_eq_of_lt (by decide) (by have := hp.1; omega)
      · rw [r1] at hi'
        by_cases h : k < T.us.length
        · rw [if_pos h] at hi'
          rw [cold _ (Nat.lt_trans hi' (H.rlt k h))]; exact H.cz k h i' hi'
        · rw [if_neg h, if_pos (by omega)] at hi'
          have ek : k = T.us.length := by omega
          subst ek
          rw [cold i' hi', cnr i' hi']; rfl
      · rw [sumN]
        by_cases e : i' = i
        · subst e
          rw [hA j hj, s2 j hj, r3, if_neg (by omega), if_pos rfl, cnew, if_neg (by omega), if_pos rfl, Int.one_mul, Int.add_comm]
          refine em_add (sumN_mod fun k hk => ?_) rfl
          rw [cnew, if_pos hk, r3, if_pos hk]
        · rw [H.made i' (by omega) j hj, cold i' (by omega), cnr i' (by omega), Int.zero_mul, Int.add_zero]
          refine sumN_mod fun k hk => ?_
          rw [cold i' (by omega), r3, if_pos hk]
    · intro k hk
      rw [us1] at hk
      rw [r3, r2, r4]
      by_cases h : k < T.us.length
      · rw [if_pos h, if_pos h, if_pos h]; exact K.inv k h
      · rw [if_neg h, if_pos (by omega), if_neg h, if_pos (by omega), if_neg h, if_pos (by omega)]
        exact (finvC_in hp.1 hp.2 rn (prm_gcd hP rn z3)).2
theorem tkN_C {P R C : Nat} {l : List Int} (hP : Prm P) (hp : Md P) (hl : l.length = R * C) (hin : ∀ a ∈ l, In P a) : ∀ i, i ≤ R → TkC P C i (cl C l) (tkN P C l i)
  | 0, _ => ⟨TkI.zero _ _, ⟨fun k h => absurd h (Nat.not_lt_zero k), fun j k _ h => absurd h (Nat.not_lt_zero k), fun k h => absurd h (Nat.not_lt_zero k), fun k h => absurd h (Nat.not_lt_zero k), fun j k _ h => absurd h (Nat.not_lt_zero k), fun k h => absurd h (Nat.not_lt_zero k), fun k h => absurd h (Nat.not_lt_zero k), fun k h => absurd h (Nat.not_lt_zero k), fun i h => absurd h (Nat.not_lt_zero i)⟩, fun k h => absurd h (Nat.not_lt_zero k)⟩
  | i + 1, h => cup_step hP hp (tkN_C hP hp hl hin i (by omega)) (fun a ha => hin a (rowM_mem ha)) (rowM_len hl (by omega)) fun j hj => by rw [rowM_cl hl (by omega) hj]
end Go.Proofs.Ythnfphgjfpcpbaa.TM
namespace Go.Proofs.Ythnfphgjfpcpbaa.TM
open Go Go.RowKit
def cntN : Nat → (Nat → Bool) → Nat
  | 0, _ => 0
  | n + 1, f => cntN n f + (if f n = true then 1 else 0)
theorem cnt_congr {n : Nat} {f g : Nat → Bool} (h : ∀ i, i < n → f i = g i) : cntN n f = cntN n g := by
  induction n with
  | zero => rfl
  | succ n ih => rw [cntN, cntN, ih fun i hi => h i (by omega), h n (by omega)]
theorem cnt_all {n : Nat} {f : Nat → Bool} (h : ∀ i, i < n → f i = true) : cntN n f = n := by
  induction n with
  | zero => rfl
  | succ n ih => rw [cntN, ih fun i hi => h i (by omega), if_pos (h n (by omega))]
theorem cnt_add (m n : Nat) (f : Nat → Bool) : cntN (m + n) f = cntN m f + cntN n (fun i => f (m + i)) := by
  induction n with
  | zero => rfl
  | succ n ih => rw [← Nat.add_assoc, cntN, ih, cntN]; omega
theorem cnt_mul (N : Nat) (f : Nat → Bool) : ∀ a, cntN (a * N) (fun q => f (q % N)) = a * cntN N f
  | 0 => by simp [cntN]
  | a + 1 => by
    rw [Nat.succ_mul, cnt_add, cnt_mul N f a, Nat.succ_mul]
    congr 1
    exact cnt_congr fun i hi => by rw [Nat.mul_add_mod_self_right, Nat.mod_eq_of_lt hi]
theorem cnt_drop {m a : Nat} {f : Nat → Bool} (ha : a < m) (hf : f a = true) : cntN m f = cntN m (fun j => f j && j != a) + 1 := by
  induction m with
  | zero => omega
  | succ m ih =>
    rw [cntN, cntN]
    by_cases e : a = m
    · subst e
      rw [if_pos hf, if_neg (by simp)]
      have : cntN a f = cntN a (fun j => f j && j != a) := cnt_congr fun i hi => by
        have : (i != a) = true := by simp; omega
        rw [this, Bool.and_true]
      omega
    · rw [ih (by omega)]
      have : (m != a) = true := by simp; omega
      rw [this, Bool.and_true]; omega
theorem cnt_inj : ∀ (n : Nat) (f : Nat → Bool) (m : Nat) (g : Nat → Bool) (φ : Nat → Nat), (∀ i, i < n → f i = true → φ i < m ∧ g (φ i) = true) →
    (∀ i j, i < n → j < n → f i = true → f j = true → φ i = φ j → i = j) → cntN n f ≤ cntN m g
  | 0, _, _, _, _, _, _ => Nat.zero_le _
  | n + 1, f, m, g, φ, h1, h2 => by
    rw [cntN]
    by_cases c : f n = true
    · rw [if_pos c]
      obtain ⟨a1, a2⟩ := h1 n (by omega) c
      rw [cnt_drop a1 a2]
      refine Nat.succ_le_succ (cnt_inj n f m _ φ (fun i hi hf => ?_) (fun i j hi hj => h2 i j (by omega) (by omega)))
      obtain ⟨b1, b2⟩ := h1 i (by omega) hf
      refine ⟨b1, ?_⟩
      have : (φ i != φ n) = true := by
        simp only [bne_iff_ne]
        intro e
        have := h2 i n (by omega) (by omega) hf c e
        omega
      rw [b2, this]; rfl
    · rw [if_neg c]
      exact cnt_inj n f m g φ (fun i hi => h1 i (by omega)) (fun i j hi hj => h2 i j (by omega) (by omega))
theorem cnt_mono {n : Nat} {f g : Nat → Bool} (h : ∀ i, i < n → f i = true → g i = true) : cntN n f ≤ cntN n g :=
  cnt_inj n f n g id (fun i hi hf => ⟨hi, h i hi hf⟩) (fun _ _ _ _ _ _ e => e)
def vec (P n k : Nat) : Int := ((n / P ^ k % P : Nat) : Int)
def num (P : Nat) : Nat → (Nat → Int) → Nat
  | 0, _ => 0
  | c + 1, x => (x 0 % P).toNat + P * num P c (fun k => x (k + 1))
theorem num_lt {P : Nat} (h : 0 < P) : ∀ (c : Nat) (x : Nat → Int), num P c x < P ^ c
  | 0, _ => by simp [num]
  | c + 1, x => by
    have ih := num_lt h c (fun k => x (k + 1))
    have h1 := Int.emod_nonneg (x 0) (show (P : Int) ≠ 0 by omega)
    have h2 := Int.emod_lt_of_pos (x 0) (show (0 : Int) < P by omega)
    rw [num, Nat.pow_succ]
    have h3 : P * num P c (fun k => x (k + 1)) + P ≤ P * P ^ c := by rw [← Nat.mul_succ]; exact Nat.mul_le_mul_left P ih
    rw [Nat.mul_comm (P ^ c)]
    omega
theorem num_congr {P : Nat} : ∀ (c : Nat) {x y : Nat → Int}, (∀ k, k < c → x k % P = y k % P) → num P c x = num P c y
  | 0, _, _, _ => rfl
  | c + 1, x, y, h => by rw [num, num, h 0 (by omega), num_congr c fun k hk => h (k + 1) (by omega)]
theorem vec_num {P : Nat} (h : 0 < P) : ∀ (c : Nat) (x : Nat → Int) (k : Nat), k < c → vec P (num P c x) k = x k % P
  | 0, _, _, hk => by omega
  | c + 1, x, k, hk => by
    have h1 := Int.emod_nonneg (x 0) (show (P : Int) ≠ 0 by omega)
    have h2 := Int.emod_lt_of_pos (x 0) (show (0 : Int) < P by omega)
    have h3 : (x 0 % P).toNat < P := by omega
    rw [num]
    cases k with
    | zero =>
      unfold vec
      rw [Nat.pow_zero, Nat.div_one, Nat.add_mul_mod_self_left, Nat.mod_eq_of_lt h3]; omega
    | succ k =>
      have ih := vec_num h c (fun k => x (k + 1)) k (by omega)
      rw [← ih]
      unfold vec
      rw [Nat.pow_succ, Nat.mul_comm (P ^ k) P, ← Nat.div_div_eq_div_mul, Nat.add_mul_div_left _ _ h, Nat.div_eq_of_lt h3, Nat.zero_add]
theorem num_vec {P : Nat} (h : 0 < P) : ∀ (c n : Nat), n < P ^ c → num P c (vec P n) = n
  | 0, n, hn => by simp at hn; subst hn; rfl
  | c + 1, n, hn => by
    rw [num]
    have e : (fun k => vec P n (k + 1)) = vec P (n / P) := by
      funext k; unfold vec; rw [Nat.pow_succ, Nat.mul_comm, ← Nat.div_div_eq_div_mul]
    have h0 : (vec P n 0 % P).toNat = n % P := by
      unfold vec; rw [Nat.pow_zero, Nat.div_one]; 
      have := Nat.mod_lt n h
      rw [Int.emod_eq_of_lt (by omega) (by omega)]; omega
    rw [e, h0, num_vec h c (n / P) (by rw [Nat.pow_succ, Nat.mul_comm] at hn; exact (Nat.div_lt_iff_lt_mul h).2 (by rw [Nat.mul_comm]; exact hn)), Nat.mod_add_div]
theorem vec_inj {P c m n : Nat} (h : 0 < P) (hm : m < P ^ c) (hn : n < P ^ c) (he : ∀ k, k < c → vec P m k % P = vec P n k % P) : m = n := by
  rw [← num_vec h c m hm, ← num_vec h c n hn, num_congr c he]
theorem num_inj {P c : Nat} {x y : Nat → Int} (h : 0 < P) (he : num P c x = num P c y) : ∀ k, k < c → x k % P = y k % P := fun k hk => by
  rw [← vec_num h c x k hk, ← vec_num h c y k hk, he]
section
variable {P R C r : Nat} {A : Mx} {rw cw : Nat → Nat} {c u : Mx}
theorem div_pair {a b N : Nat} (hb : b < N) : (a * N + b) / N = a ∧ (a * N + b) % N = b := by
  have hN : 0 < N := by omega
  refine ⟨?_, ?_⟩
  · rw [Nat.add_comm, Nat.add_mul_div_right _ _ hN, Nat.div_eq_of_lt hb, Nat.zero_add]
  · rw [Nat.add_comm, Nat.add_mul_mod_self_right, Nat.mod_eq_of_lt hb]
theorem Cp.kcnt (hP : Prm P) (H : Cp P R C r A rw cw c u) {f : Nat → Bool} (hf : ∀ n, n < P ^ C → (f n = true ↔ ∀ i, i < R → apX C A (vec P n) i % P = 0)) : P ^ r * cntN (P ^ C) f = P ^ C := by
  have p0 : 0 < P := by have := hP.1; omega
  have N0 : 0 < P ^ C := Nat.pow_pos p0
  have hs : ∀ z : Nat → Int, ∃ x : Nat → Int, ∀ k, k < r → apX C u x k % P = z k % P := fun z => by
    obtain ⟨x, _, h⟩ := H.usolve hP z (fun _ => 0); exact ⟨x, h⟩
  let s : Nat → Nat → Int := fun y => Classical.choose (hs (vec P y))
  have ss : ∀ y k, k < r → apX C u (s y) k % P = vec P y k % P := fun y => Classical.choose_spec (hs (vec P y))
  have hk : ∀ n, n < P ^ C → (f n = true ↔ ∀ k, k < r → apX C u (vec P n) k % P = 0) := fun n hn => (hf n hn).trans H.ker
  refine Nat.le_antisymm ?_ ?_
  · rw [← cnt_mul]
    refine Nat.le_trans ?_ (Nat.le_of_eq (cnt_all (n := P ^ C) (f := fun _ => true) fun _ _ => rfl))
    refine cnt_inj _ _ _ _ (fun q => num P C (fun j => vec P (q % P ^ C) j + s (q / P ^ C) j)) (fun q _ _ => ⟨num_lt p0 _ _, rfl⟩) (fun q q' hq hq' fq fq' he => ?_)
    have e1 := num_inj p0 he
    have hy : q / P ^ C < P ^ r := (Nat.div_lt_iff_lt_mul N0).2 hq
    have hy' : q' / P ^ C < P ^ r := (Nat.div_lt_iff_lt_mul N0).2 hq'
    have k1 := (hk _ (Nat.mod_lt q N0)).1 fq
    have k2 := (hk _ (Nat.mod_lt q' N0)).1 fq'
    have ey : q / P ^ C = q' / P ^ C := by
      refine vec_inj p0 hy hy' fun k hk => ?_
      have e2 := apX_mod (A := u) e1 k
      rw [apX_add, apX_add, Int.add_emod, k1 k hk, ss _ k hk, Int.add_emod (apX C u (vec P (q' % P ^ C)) k), k2 k hk, ss _ k hk] at e2
      simpa using e2
    have en : q % P ^ C = q' % P ^ C := by
      refine vec_inj p0 (Nat.mod_lt _ N0) (Nat.mod_lt _ N0) fun k hk => ?_
      have e3 := e1 k hk
      simp only [ey] at e3
      have := em_sub e3 (rfl : s (q' / P ^ C) k % P = s (q' / P ^ C) k % P)
      simpa using this
    rw [← Nat.div_add_mod q (P ^ C), ← Nat.div_add_mod q' (P ^ C), ey, en]
  · rw [← cnt_mul]
    have : P ^ C = cntN (P ^ C) (fun _ => true) := (cnt_all fun _ _ => rfl).symm
    refine Nat.le_trans (Nat.le_of_eq this) ?_
    have ny : ∀ n, num P r (apX C u (vec P n)) < P ^ r := fun n => num_lt p0 _ _
    have nx : ∀ x, num P C x < P ^ C := fun x => num_lt p0 _ _
    refine cnt_inj _ _ _ _ (fun n => num P r (apX C u (vec P n)) * P ^ C + num P C (fun j => vec P n j - s (num P r (apX C u (vec P n))) j)) (fun n hn _ => ⟨?_, ?_⟩) (fun n n' hn hn' _ _ he => ?_)
    · have h1 := ny n
      have h2 := nx (fun j => vec P n j - s (num P r (apX C u (vec P n))) j)
      have h3 : num P r (apX C u (vec P n)) * P ^ C + P ^ C ≤ P ^ r * P ^ C := by rw [← Nat.succ_mul]; exact Nat.mul_le_mul_right _ h1
      omega
    · rw [(div_pair (nx _)).2, hk _ (nx _)]
      intro k hk
      have e1 : ∀ j, j < C → vec P (num P C (fun j => vec P n j - s (num P r (apX C u (vec P n))) j)) j % P = (vec P n j - s (num P r (apX C u (vec P n))) j) % P := fun j hj => by
        rw [vec_num p0 _ _ _ hj, Int.emod_emod_of_dvd _ (Int.dvd_refl _)]
      rw [apX_mod e1, apX_sub, Int.sub_emod, ss _ k hk, vec_num p0 _ _ _ hk, Int.emod_emod_of_dvd _ (Int.dvd_refl _), Int.sub_self]; rfl
    · have ey : num P r (apX C u (vec P n)) = num P r (apX C u (vec P n')) := by rw [← (div_pair (a := num P r (apX C u (vec P n))) (nx _)).1, he, (div_pair (nx _)).1]
      have en := (div_pair (a := num P r (apX C u (vec P n))) (nx (fun j => vec P n j - s (num P r (apX C u (vec P n))) j))).2
      rw [he, (div_pair (nx _)).2, ey] at en
      refine vec_inj p0 hn hn' fun k hk => ?_
      have e3 := num_inj p0 en.symm k hk
      have := em_add e3 (rfl : s (num P r (apX C u (vec P n'))) k % P = s (num P r (apX C u (vec P n'))) k % P)
      simpa using this
end
end Go.Proofs.Ythnfphgjfpcpbaa.TM
namespace Go.Proofs.Ythnfphgjfpcpbaa.TM
open Go Go.RowKit
def updr (A : Mx) (k : Nat) (u : Nat → Int) : Mx := fun i j => if i = k then u j else A i j
theorem updr_same (A : Mx) (k : Nat) (u : Nat → Int) : updr A k u k = u := by funext j; exact if_pos rfl
theorem updr_ne {A : Mx} {k i : Nat} (h : i ≠ k) (u : Nat → Int) : updr A k u i = A i := by funext j; exact if_neg h
theorem updr_id (A : Mx) (k : Nat) : updr A k (A k) = A := by funext i j; unfold updr; split <;> simp_all
theorem updr_comm {A : Mx} {k m : Nat} (h : k ≠ m) (u v : Nat → Int) : updr (updr A k u) m v = updr (updr A m v) k u := by
  funext i j
  unfold updr
  by_cases a : i = m
  · by_cases b : i = k
    · omega
    · simp [a, b]; omega
  · simp [a]
structure Alt (p : Int) (n : Nat) (F : Mx → Int) : Prop where
  cg : ∀ A B : Mx, (∀ i j, i < n → j < n → A i j % p = B i j % p) → F A % p = F B % p
  lin : ∀ (A : Mx) (i : Nat) (u v : Nat → Int) (c : Int), i < n → F (updr A i (fun j => u j + c * v j)) = F (updr A i u) + c * F (updr A i v)
  adj : ∀ (A : Mx) (i : Nat), i + 1 < n → A i = A (i + 1) → F A = 0
def swp (A : Mx) (i j : Nat) : Mx := fun a => A (if a = i then j else if a = j then i else a)
theorem swp_updr {A : Mx} {i j : Nat} (h : i ≠ j) : swp A i j = updr (updr A i (A j)) j (A i) := by
  funext a b
  unfold swp updr
  by_cases e : a = j
  · subst e; rw [if_neg (fun e => h e.symm), if_pos rfl, if_pos rfl]
  · rw [if_neg e]
    by_cases d : a = i
    · rw [if_pos d, if_pos d, if_neg e]
    · rw [if_neg d, if_neg d, if_neg e]
theorem Alt.add {p : Int} {n : Nat} {F : Mx → Int} (H : Alt p n F) (A : Mx) {i : Nat} (u v : Nat → Int) (hi : i < n) : F (updr A i (fun j => u j + v j)) = F (updr A i u) + F (updr A i v) := by
  have := H.lin A i u v 1 hi
  simpa using this
theorem Alt.swap0 {p : Int} {n : Nat} {F : Mx → Int} (H : Alt p n F) {i j : Nat} (hi : i < n) (hj : j < n) (hne : i ≠ j) (h0 : ∀ A : Mx, A i = A j → F A = 0) (A : Mx) : F (swp A i j) = - F A := by
  have key : ∀ u v : Nat → Int, F (updr (updr A i u) j v) = - F (updr (updr A i v) j u) := by
    intro u v
    have z : ∀ w : Nat → Int, F (updr (updr A i w) j w) = 0 := fun w => h0 _ (by rw [updr_same, updr_ne hne, updr_same])
    have e := z (fun k => u k + v k)
    rw [H.add _ u v hj, updr_comm hne, updr_comm hne, H.add _ u v hi, H.add _ u v hi, ← updr_comm hne, ← updr_comm hne, ← updr_comm hne, ← updr_comm hne, z, z] at e
    omega
  rw [swp_updr hne, key]
  rw [updr_id, updr_id]
theorem Alt.alike {p : Int} {n : Nat} {F : Mx → Int} (H : Alt p n F) : ∀ (d i : Nat) (A : Mx), i + d + 1 < n → A i = A (i + d + 1) → F A = 0
  | 0, i, A, h, he => H.adj A i h he
  | d + 1, i, A, h, he => by
    have sw := H.swap0 (i := i + d + 1) (j := i + d + 2) (by omega) (by omega) (by omega) (fun B hB => H.adj B (i + d + 1) (by omega) hB) A
    have z : F (swp A (i + d + 1) (i + d + 2)) = 0 := by
      refine Alt.alike H d i _ (by omega) ?_
      show A (if i = i + d + 1 then _ else if i = i + d + 2 then _ else i) = A (if i + d + 1 = i + d + 1 then _ else _)
      rw [if_neg (by omega), if_neg (by omega), if_pos rfl, he]
      rfl
    omega
theorem Alt.alt {p : Int} {n : Nat} {F : Mx → Int} (H : Alt p n F) {i j : Nat} (hi : i < n) (hj : j < n) (hne : i ≠ j) (A : Mx) (he : A i = A j) : F A = 0 := by
  rcases Nat.lt_or_ge i j with h | h
  · exact H.alike (j - i - 1) i A (by omega) (by rw [he]; congr 1; omega)
  · exact H.alike (i - j - 1) j A (by omega) (by rw [← he]; congr 1; omega)
theorem Alt.swap {p : Int} {n : Nat} {F : Mx → Int} (H : Alt p n F) {i j : Nat} (hi : i < n) (hj : j < n) (hne : i ≠ j) (A : Mx) : F (swp A i j) = - F A :=
  H.swap0 hi hj hne (fun B hB => H.alt hi hj hne B hB) A
theorem Alt.scale {p : Int} {n : Nat} {F : Mx → Int} (H : Alt p n F) (A : Mx) {i : Nat} (v : Nat → Int) (c : Int) (hi : i < n) : F (updr A i (fun j => c * v j)) = c * F (updr A i v) := by
  have h1 := H.lin A i (fun _ => 0) v c hi
  have h2 := H.lin A i (fun _ => 0) (fun _ => 0) 1 hi
  simp at h1 h2
  omega
theorem Alt.zero {p : Int} {n : Nat} {F : Mx → Int} (H : Alt p n F) (A : Mx) {i : Nat} (hi : i < n) (h0 : ∀ j, A i j = 0) : F A = 0 := by
  have h := H.scale A (A i) 0 hi
  rw [Int.zero_mul] at h
  rw [← updr_id A i, ← h]
  congr 2
  funext j
  rw [h0, Int.mul_zero]
theorem Alt.comb {p : Int} {n : Nat} {F : Mx → Int} (H : Alt p n F) (A : Mx) {i : Nat} (hi : i < n) (s : Nat → Nat) (c : Nat → Int) (u : Nat → Int) :
    ∀ m, (∀ k, k < m → c k = 0 ∨ (s k < n ∧ s k ≠ i)) → F (updr A i (fun j => u j + sumN m (fun k => c k * A (s k) j))) = F (updr A i u)
  | 0, _ => by simp [sumN]
  | m + 1, h => by
    have ih := Alt.comb H A hi s c u m fun k hk => h k (by omega)
    have e : (fun j => u j + sumN (m + 1) (fun k => c k * A (s k) j)) = fun j => (u j + sumN m (fun k => c k * A (s k) j)) + c m * A (s m) j := by
      funext j; rw [sumN]; omega
    rw [e, H.lin A i _ _ _ hi, ih]
    rcases h m (by omega) with h1 | ⟨h1, h2⟩
    · rw [h1, Int.zero_mul, Int.add_zero]
    · rw [H.alt hi h1 (Ne.symm h2) (updr A i (A (s m))) (by rw [updr_same, updr_ne h2]), Int.mul_zero, Int.add_zero]
theorem tr_updr (A : Mx) (k : Nat) (u : Nat → Int) : tr (updr A k u) = updc (tr A) k u := rfl
theorem Lp_alt (p : Int) (n : Nat) : Alt p n (Lp n) where
  cg A B h := Lp_mod n h
  lin A i u v c hi := by
    rw [Lp_tr, Lp_tr n (updr A i u), Lp_tr n (updr A i v), tr_updr, tr_updr, tr_updr, Lp_lin n _ _ _ _ _ hi]
  adj A i hi h := by
    rw [Lp_tr]
    exact Lp_adj n _ i hi fun j => congrFun h j
def mulX (m : Nat) (A B : Mx) : Mx := fun i j => sumN m (fun k => A i k * B k j)
theorem Lp_mul_alt (p : Int) (n : Nat) (B : Mx) : Alt p n (fun A => Lp n (mulX n A B)) where
  cg A A' h := Lp_mod n fun i j hi hj => sumN_mod fun k hk => by rw [Int.mul_emod, h i k hi hk, ← Int.mul_emod]
  lin A i u v c hi := by
    have e : ∀ w : Nat → Int, mulX n (updr A i w) B = updr (mulX n A B) i (fun j => sumN n (fun k => w k * B k j)) := fun w => by
      funext a j
      unfold mulX updr
      by_cases h : a = i
      · simp [h]
      · simp [h]
    simp only [e]
    rw [← (Lp_alt p n).lin _ i _ _ c hi]
    congr 2
    funext j
    rw [← sumN_mul, ← sumN_add]
    refine sumN_congr fun k _ => ?_
    grind
  adj A i hi h := (Lp_alt p n).adj _ i hi (by funext j; unfold mulX; rw [h])
end Go.Proofs.Ythnfphgjfpcpbaa.TM
namespace Go.Proofs.Ythnfphgjfpcpbaa.TM
open Go Go.RowKit
def eps (x y : Int) : Int := if x < y then 1 else -1
theorem eps_flip {x y : Int} (h : x ≠ y) : eps y x = - eps x y := by
  unfold eps
  by_cases c : x < y
  · rw [if_pos c, if_neg (by omega)]
  · rw [if_neg c, if_pos (by omega)]; rfl
def colP (f : Nat → Int) (y : Int) : Nat → Int
  | 0 => 1
  | k + 1 => colP f y k * eps (f k) y
def sgnI (f : Nat → Int) : Nat → Int
  | 0 => 1
  | j + 1 => sgnI f j * colP f (f j) j
def sw (a b : Nat) (f : Nat → Int) : Nat → Int := fun i => if i = a then f b else if i = b then f a else f i
theorem sw_a (a b : Nat) (f : Nat → Int) : sw a b f a = f b := if_pos rfl
theorem sw_b (a b : Nat) (f : Nat → Int) : sw a b f b = f a := by
  unfold sw
  by_cases h : b = a
  · subst h; rw [if_pos rfl]
  · rw [if_neg h, if_pos rfl]
theorem sw_o {a b i : Nat} (f : Nat → Int) (h1 : i ≠ a) (h2 : i ≠ b) : sw a b f i = f i := by unfold sw; rw [if_neg h1, if_neg h2]
theorem colP_congr {f g : Nat → Int} {y : Int} : ∀ {k : Nat}, (∀ i, i < k → f i = g i) → colP f y k = colP g y k
  | 0, _ => rfl
  | k + 1, h => by rw [colP, colP, colP_congr (fun i hi => h i (by omega)), h k (by omega)]
theorem sgnI_congr {f g : Nat → Int} : ∀ {n : Nat}, (∀ i, i < n → f i = g i) → sgnI f n = sgnI g n
  | 0, _ => rfl
  | n + 1, h => by rw [sgnI, sgnI, sgnI_congr (fun i hi => h i (by omega)), h n (by omega), colP_congr (fun i hi => h i (by omega))]
theorem colP_adj (f : Nat → Int) (y : Int) (a : Nat) : ∀ d, colP (sw a (a + 1) f) y (a + 2 + d) = colP f y (a + 2 + d)
  | 0 => by
    rw [Nat.add_zero, show a + 2 = (a + 1) + 1 from rfl, colP, colP, colP, colP, sw_a, sw_b, colP_congr (g := f) (fun i hi => sw_o f (by omega) (by omega)), Int.mul_assoc, Int.mul_assoc, Int.mul_comm (eps (f (a + 1)) y)]
  | d + 1 => by
    rw [show a + 2 + (d + 1) = (a + 2 + d) + 1 from rfl, colP, colP, colP_adj f y a d, sw_o f (by omega) (by omega)]
theorem sgnI_adj (f : Nat → Int) (a : Nat) (h : f a ≠ f (a + 1)) : ∀ d, sgnI (sw a (a + 1) f) (a + 2 + d) = - sgnI f (a + 2 + d)
  | 0 => by
    have e : ∀ y, colP (sw a (a + 1) f) y a = colP f y a := fun y => colP_congr (fun i hi => sw_o f (by omega) (by omega))
    rw [Nat.add_zero, show a + 2 = (a + 1) + 1 from rfl, sgnI, sgnI, sgnI, sgnI, colP, colP, sw_a, sw_b, e, e, sgnI_congr (g := f) (fun i hi => sw_o f (by omega) (by omega)), eps_flip h]
    generalize sgnI f a = s
    generalize colP f (f a) a = x
    generalize colP f (f (a + 1)) a = y
    generalize eps (f a) (f (a + 1)) = z
    rw [Int.mul_neg, Int.mul_neg]
    congr 1
    rw [Int.mul_assoc, Int.mul_assoc, ← Int.mul_assoc y x, ← Int.mul_assoc x y, Int.mul_comm y x]
  | d + 1 => by
    rw [show a + 2 + (d + 1) = (a + 2 + d) + 1 from rfl, sgnI, sgnI, sgnI_adj f a h d, sw_o f (by omega) (by omega), colP_adj, Int.neg_mul]
def InjN (f : Nat → Int) (n : Nat) : Prop := ∀ i j, i < n → j < n → f i = f j → i = j
theorem InjN.sw {f : Nat → Int} {n a b : Nat} (h : InjN f n) (ha : a < n) (hb : b < n) : InjN (sw a b f) n := by
  have key : ∀ i, i < n → ∃ i', i' < n ∧ TM.sw a b f i = f i' ∧ (i' = if i = a then b else if i = b then a else i) := fun i hi => by
    unfold TM.sw
    by_cases h1 : i = a
    · exact ⟨b, hb, by rw [if_pos h1], by rw [if_pos h1]⟩
    · by_cases h2 : i = b
      · exact ⟨a, ha, by rw [if_neg h1, if_pos h2], by rw [if_neg h1, if_pos h2]⟩
      · exact ⟨i, hi, by rw [if_neg h1, if_neg h2], by rw [if_neg h1, if_neg h2]⟩
  intro i j hi hj he
  obtain ⟨i', hi', e1, e2⟩ := key i hi
  obtain ⟨j', hj', e3, e4⟩ := key j hj
  have := h i' j' hi' hj' (by rw [← e1, ← e3]; exact he)
  rw [e2, e4] at this
  split at this <;> split at this <;> (try split at this) <;> (try split at this) <;> omega
theorem sgnI_sw : ∀ (d a n : Nat) (f : Nat → Int), InjN f n → a + 1 + d < n → sgnI (sw a (a + 1 + d) f) n = - sgnI f n
  | 0, a, n, f, hi, hn => by
    obtain ⟨e, rfl⟩ : ∃ e, n = a + 2 + e := ⟨n - (a + 2), by omega⟩
    exact sgnI_adj f a (fun he => by have := hi a (a + 1) (by omega) (by omega) he; omega) e
  | d + 1, a, n, f, hi, hn => by
    obtain ⟨e, he⟩ : ∃ e, n = (a + 1 + d) + 2 + e := ⟨n - (a + 1 + d + 2), by omega⟩
    have h1 : sw a (a + 1 + (d + 1)) f = sw (a + 1 + d) (a + 1 + d + 1) (sw a (a + 1 + d) (sw (a + 1 + d) (a + 1 + d + 1) f)) := by
      rw [show a + 1 + (d + 1) = a + 1 + d + 1 from rfl]
      funext i
      unfold sw
      have n1 : ¬ a = a + 1 + d := by omega
      have n2 : ¬ a = a + 1 + d + 1 := by omega
      have n3 : ¬ a + 1 + d + 1 = a := by omega
      have n4 : ¬ a + 1 + d = a := by omega
      have n5 : ¬ a + 1 + d + 1 = a + 1 + d := by omega
      have n6 : ¬ a + 1 + d = a + 1 + d + 1 := by omega
      by_cases c1 : i = a
      · subst c1; simp only [if_true, n1, n2, n3, n4, n5, n6, if_false]
      · by_cases c2 : i = a + 1 + d
        · subst c2; simp only [if_true, n1, n2, n3, n4, n5, n6, if_false]
        · by_cases c3 : i = a + 1 + d + 1
          · subst c3; simp only [if_true, n1, n2, n3, n4, n5, n6, if_false]
          · simp only [c1, c2, c3, if_false]
    have i1 := hi.sw (a := a + 1 + d) (b := a + 1 + d + 1) (by omega) (by omega)
    have i2 := i1.sw (a := a) (b := a + 1 + d) (by omega) (by omega)
    have adj : ∀ g : Nat → Int, InjN g n → sgnI (sw (a + 1 + d) (a + 1 + d + 1) g) n = - sgnI g n := fun g hg => by
      rw [he]
      exact sgnI_adj g (a + 1 + d) (fun h => by have := hg (a + 1 + d) (a + 1 + d + 1) (by omega) (by omega) h; omega) e
    rw [h1, adj _ i2, sgnI_sw d a n _ i1 (by omega), adj _ hi]
    omega
end Go.Proofs.Ythnfphgjfpcpbaa.TM
namespace Go.Proofs.Ythnfphgjfpcpbaa.TM
open Go Go.RowKit
attribute [local irreducible] K W WOps Effs Xg Xo Xr Xdg Xdo Xdr Xif CallsP CallR
def seenC (s : List Int) : List IV := (List.range 64).map fun (i : Nat) => IV.v (Value.bool (decide ((i : Int) ∈ s)))
theorem seenC_len (s : List Int) : (seenC s).length = 64 := by simp [seenC]
theorem seenC_nil : [IV.v (Value.bool false), IV.v (Value.bool false), IV.v (Value.bool false), IV.v (Value.bool false), IV.v (Value.bool false), IV.v (Value.bool false), IV.v (Value.bool false), IV.v (Value.bool false), IV.v (Value.bool false), IV.v (Value.bool false), IV.v (Value.bool false), IV.v (Value.bool false), IV.v (Value.bool false), IV.v (Value.bool false), IV.v (Value.bool false), IV.v (Value.bool false), IV.v (Value.bool false), IV.v (Value.bool false), IV.v (Value.bool false), IV.v (Value.bool false), IV.v (Value.bool false), IV.v (Value.bool false), IV.v (Value.bool false), IV.v (Value.bool false), IV.v (Value.bool false), IV.v (Value.bool false), IV.v (Value.bool false), IV.v (Value.bool false), IV.v (Value.bool false), IV.v (Value.bool false), IV.v (Value.bool false), IV.v (Value.bool false), IV.v (Value.bool false), IV.v (Value.bool false), IV.v (Value.bool false), IV.v (Value.bool false), IV.v (Value.bool false), IV.v (Value.bool false), IV.v (Value.bool false), IV.v (Value.bool false), IV.v (Value.bool false), IV.v (Value.bool false), IV.v (Value.bool false), IV.v (Value.bool false), IV.v (Value.bool false), IV.v (Value.bool false), IV.v (Value.bool false), IV.v (Value.bool false), IV.v (Value.bool false), IV.v (Value.bool false), IV.v (Value.bool false), IV.v (Value.bool false), IV.v (Value.bool false), IV.v (Value.bool false), IV.v (Value.bool false), IV.v (Value.bool false), IV.v (Value.bool false), IV.v (Value.bool false), IV.v (Value.bool false), IV.v (Value.bool false), IV.v (Value.bool false), IV.v (Value.bool false), IV.v (Value.bool false), IV.v (Value.bool false)] = seenC [] := rfl
theorem seenC_get (s : List Int) {a : Int} (h0 : 0 ≤ a) (h1 : a < 64) : (seenC s)[a.toNat]? = some (IV.v (Value.bool (decide (a ∈ s)))) := by
  have h2 : a.toNat < 64 := by omega
  unfold seenC
  rw [List.getElem?_map, List.getElem?_range h2]
  simp only [Option.map_some, Int.toNat_of_nonneg h0]
theorem seenC_put (s : List Int) {a : Int} (h0 : 0 ≤ a) (h1 : a < 64) : (seenC s).take a.toNat ++ [IV.v (Value.bool true)] ++ (seenC s).drop (a.toNat + 1) = seenC (s ++ [a]) := by
  have h2 : a.toNat < 64 := by omega
  have hl := seenC_len s
  apply List.ext_getElem?
  intro i
  by_cases hi : i < 64
  · rw [List.append_assoc, List.getElem?_append, List.length_take, hl, show min a.toNat 64 = a.toNat by omega]
    have hr : (seenC (s ++ [a]))[i]? = some (IV.v (Value.bool (decide ((i : Int) ∈ s ++ [a])))) := by
      unfold seenC; rw [List.getElem?_map, List.getElem?_range hi]; rfl
    have hs : (seenC s)[i]? = some (IV.v (Value.bool (decide ((i : Int) ∈ s)))) := by
      unfold seenC; rw [List.getElem?_map, List.getElem?_range hi]; rfl
    rw [hr]
    by_cases c1 : i < a.toNat
    · rw [if_pos c1, List.getElem?_take, if_pos c1, hs]
      have : (i : Int) ≠ a := by omega
      simp [this]
    · rw [if_neg c1]
      by_cases c2 : i = a.toNat
      · have : (i : Int) = a := by omega
        rw [show i - a.toNat = 0 by omega]
        simp [this]
      · rw [List.getElem?_append_right (by simp; omega), List.getElem?_drop, List.length_singleton, show a.toNat + 1 + (i - a.toNat - 1) = i by omega, hs]
        have : (i : Int) ≠ a := by omega
        simp [this]
  · rw [List.getElem?_eq_none (by simp [hl]; omega), List.getElem?_eq_none (by rw [seenC_len]; omega)]
def ordF (n : Int) : List Int → List Int → Bool
  | _, [] => true
  | s, a :: l => !(decide (a < 0)) && (!(decide (n ≤ a)) && (!(decide (64 ≤ a)) && (!(decide (a ∈ s)) && ordF n (s ++ [a]) l)))
def orderB (l : List Int) : Bool := ordF l.length [] l && decide (1 ≤ (l.length : Int))
theorem ordF_drop (n : Int) (s : List Int) {l : List Int} {j : Nat} (h : j < l.length) : ordF n s (l.drop j) = (!(decide (l[j] < 0)) && (!(decide (n ≤ l[j])) && (!(decide (64 ≤ l[j])) && (!(decide (l[j] ∈ s)) && ordF n (s ++ [l[j]]) (l.drop (j + 1)))))) := by
  rw [List.drop_eq_getElem_cons h]; rfl
theorem order_right_walk (l : List Int) (hl : l.length ≤ maxLen) : CallsP Try.prog 113 [li l] (bl (orderB l)) := by
  unfold orderB
  have hm : maxLen = 9223372036854775807 := rfl
  refine X_startP (n := 35) (m := 1) (rs := [.tmp 2]) Try.func113 rfl rfl rfl rfl (by decide) fun base => ?_
  repeat (first | refine X_opc rfl ?_ | refine X_dopc rfl ?_ | refine ⟨(by show drawK _ _ = true; kernel_rfl : drawX _ _ _), ?_⟩ | exact (by show drawK _ _ = true; kernel_rfl : drawX _ _ _) | simp -dsimp (maxSteps := 20000000) (disch := omega) only [simx, zzC, zzB, tys, ite_self, opnL, callB, callX, readsB, stepOp, nilCmp, ofVal, opBuiltin, opLen, PV.sk, scalBin, scalUn, intBin, opLoad, natOf, opConvert, opField, cellsP, oneP, Value.oneCell', opStore, toIV, scalT, scalA, scalC, boxesA, boxesC, zipB_none, zipB_mx, isZ, opZip, zeroP, opAppendZ, opMakeMap, opLookup, mboxB, opUpdate, ↓reduceIte, Nat.reduceSub, Nat.reduceEqDiff, Nat.reduceAdd, Nat.reduceMul, Nat.reduceLT, Nat.reduceLeDiff, Int.reduceToNat, Int.reduceLE, Int.reduceLT, Int.reduceNeg, reduceCtorEq, gos, Int.reduceAdd, Int.reduceSub, Int.reduceMul, Int.reduceEq, seenC_nil])
  refine X_loopH [0, 3, 6, 7, 8] [] (0) (l.length) (fun j => ordF l.length (l.take j) (l.drop j) = ordF l.length [] l) (fun j => [(8, i64 j)]) (fun j => Heap.none.put ((1, 0) :: base) (.row false (seenC (l.take j)))) ?_ ?_ ?_ ?_ ?_ (by decide) ?_
  · exact (fgt_nil)
  · ((simp -dsimp (disch := omega) only [simx, zzB, tys, ite_self, opnL, callB, callX, readsB, stepOp, nilCmp, ofVal, opBuiltin, opLen, PV.sk, scalBin, scalUn, intBin, opLoad, natOf, opConvert, opField, cellsP, oneP, Value.oneCell', opStore, toIV, scalT, scalA, scalC, boxesA, boxesC, zipB_none, zipB_mx, isZ, opZip, zeroP, opAppendZ, opMakeMap, opLookup, mboxB, opUpdate, ↓reduceIte, Nat.reduceSub, Nat.reduceEqDiff, Nat.reduceAdd, Nat.reduceMul, Nat.reduceLT, Nat.reduceLeDiff, Int.reduceToNat, Int.reduceLE, Int.reduceLT, Int.reduceNeg, reduceCtorEq, gos, Int.reduceAdd, Int.reduceSub, Int.reduceMul, Int.reduceEq]) <;> first | rfl | simp)
  · exact drop_nil _
  · omega
  · rfl
  · intro j hj hf
    by_cases cj : j < l.length
    · have g1 : l[j]? = some l[j] := List.getElem?_eq_getElem cj
      have tk : l.take (j + 1) = l.take j ++ [l[j]] := (List.take_append_getElem cj).symm
      rw [ordF_drop _ _ cj] at hf
      generalize l[j] = a at g1 tk hf
      by_cases c1 : a < 0
      · rw [← hf]
        repeat (first | refine X_opc rfl ?_ | refine X_dopc rfl ?_ | refine ⟨(by show drawK _ _ = true; kernel_rfl : drawX _ _ _), ?_⟩ | exact (by show drawK _ _ = true; kernel_rfl : drawX _ _ _) | simp -dsimp (maxSteps := 20000000) (disch := omega) only [simx, zzC, zzB, tys, ite_self, opnL, callB, callX, readsB, stepOp, nilCmp, ofVal, opBuiltin, opLen, PV.sk, scalBin, scalUn, intBin, opLoad, natOf, opConvert, opField, cellsP, oneP, Value.oneCell', opStore, toIV, scalT, scalA, scalC, boxesA, boxesC, zipB_none, zipB_mx, isZ, opZip, zeroP, opAppendZ, opMakeMap, opLookup, mboxB, opUpdate, ↓reduceIte, Nat.reduceSub, Nat.reduceEqDiff, Nat.reduceAdd, Nat.reduceMul, Nat.reduceLT, Nat.reduceLeDiff, Int.reduceToNat, Int.reduceLE, Int.reduceLT, Int.reduceNeg, reduceCtorEq, zzR, gos, Int.reduceAdd, Int.reduceSub, Int.reduceMul, Int.reduceEq, cj, g1, c1, decide_true, Bool.not_true, Bool.false_and])
      · have h0 : 0 ≤ a := by omega
        have c1' : ¬ a < 0 := c1
        by_cases c2 : (l.length : Int) ≤ a
        · rw [← hf]
          repeat (first | refine X_opc rfl ?_ | refine X_dopc rfl ?_ | refine ⟨(by show drawK _ _ = true; kernel_rfl : drawX _ _ _), ?_⟩ | exact (by show drawK _ _ = true; kernel_rfl : drawX _ _ _) | simp -dsimp (maxSteps := 20000000) (disch := omega) only [simx, zzC, zzB, tys, ite_self, opnL, callB, callX, readsB, stepOp, nilCmp, ofVal, opBuiltin, opLen, PV.sk, scalBin, scalUn, intBin, opLoad, natOf, opConvert, opField, cellsP, oneP, Value.oneCell', opStore, toIV, scalT, scalA, scalC, boxesA, boxesC, zipB_none, zipB_mx, isZ, opZip, zeroP, opAppendZ, opMakeMap, opLookup, mboxB, opUpdate, ↓reduceIte, Nat.reduceSub, Nat.reduceEqDiff, Nat.reduceAdd, Nat.reduceMul, Nat.reduceLT, Nat.reduceLeDiff, Int.reduceToNat, Int.reduceLE, Int.reduceLT, Int.reduceNeg, reduceCtorEq, zzR, gos, Int.reduceAdd, Int.reduceSub, Int.reduceMul, Int.reduceEq, cj, g1, c1', c2, decide_true, decide_false, Bool.not_true, Bool.not_false, Bool.false_and, Bool.true_and])
        · by_cases c3 : 64 ≤ a
          · rw [← hf]
            repeat (first | refine X_opc rfl ?_ | refine X_dopc rfl ?_ | refine ⟨(by show drawK _ _ = true; kernel_rfl : drawX _ _ _), ?_⟩ | exact (by show drawK _ _ = true; kernel_rfl : drawX _ _ _) | simp -dsimp (maxSteps := 20000000) (disch := omega) only [simx, zzC, zzB, tys, ite_self, opnL, callB, callX, readsB, stepOp, nilCmp, ofVal, opBuiltin, opLen, PV.sk, scalBin, scalUn, intBin, opLoad, natOf, opConvert, opField, cellsP, oneP, Value.oneCell', opStore, toIV, scalT, scalA, scalC, boxesA, boxesC, zipB_none, zipB_mx, isZ, opZip, zeroP, opAppendZ, opMakeMap, opLookup, mboxB, opUpdate, ↓reduceIte, Nat.reduceSub, Nat.reduceEqDiff, Nat.reduceAdd, Nat.reduceMul, Nat.reduceLT, Nat.reduceLeDiff, Int.reduceToNat, Int.reduceLE, Int.reduceLT, Int.reduceNeg, reduceCtorEq, zzR, gos, Int.reduceAdd, Int.reduceSub, Int.reduceMul, Int.reduceEq, cj, g1, c1', c2, c3, decide_true, decide_false, Bool.not_true, Bool.not_false, Bool.false_and, Bool.true_and])
          · have g2 := seenC_get (l.take j) h0 (by omega : a < 64)
            have c4 : a.toNat < 64 := by omega
            by_cases c5 : a ∈ l.take j
            · rw [← hf]
              repeat (first | refine X_opc rfl ?_ | refine X_dopc rfl ?_ | refine ⟨(by show drawK _ _ = true; kernel_rfl : drawX _ _ _), ?_⟩ | exact (by show drawK _ _ = true; kernel_rfl : drawX _ _ _) | simp -dsimp (maxSteps := 20000000) (disch := omega) only [simx, zzC, zzB, tys, ite_self, opnL, callB, callX, readsB, stepOp, nilCmp, ofVal, opBuiltin, opLen, PV.sk, scalBin, scalUn, intBin, opLoad, natOf, opConvert, opField, cellsP, oneP, Value.oneCell', opStore, toIV, scalT, scalA, scalC, boxesA, boxesC, zipB_none, zipB_mx, isZ, opZip, zeroP, opAppendZ, opMakeMap, opLookup, mboxB, opUpdate, ↓reduceIte, Nat.reduceSub, Nat.reduceEqDiff, Nat.reduceAdd, Nat.reduceMul, Nat.reduceLT, Nat.reduceLeDiff, Int.reduceToNat, Int.reduceLE, Int.reduceLT, Int.reduceNeg, reduceCtorEq, zzR, gos, Int.reduceAdd, Int.reduceSub, Int.reduceMul, Int.reduceEq, cj, g1, c1', c2, c3, c4, c5, h0, g2, seenC_len, decide_true, decide_false, Bool.not_true, Bool.not_false, Bool.false_and, Bool.true_and])
            · have g3 := seenC_put (l.take j) h0 (by omega : a < 64)
              have c6 : a.toNat + 1 ≤ 64 := c4
              simp only [c1, c2, c3, c5, decide_false, Bool.not_false, Bool.true_and] at hf
              rw [← tk] at hf g3
              repeat (first | refine X_opc rfl ?_ | refine X_dopc rfl ?_ | refine ⟨(by show drawK _ _ = true; kernel_rfl : drawX _ _ _), ?_⟩ | exact (by show drawK _ _ = true; kernel_rfl : drawX _ _ _) | simp -dsimp (maxSteps := 20000000) (disch := omega) only [simx, zzC, zzB, tys, ite_self, opnL, callB, callX, readsB, stepOp, nilCmp, ofVal, opBuiltin, opLen, PV.sk, scalBin, scalUn, intBin, opLoad, natOf, opConvert, opField, cellsP, oneP, Value.oneCell', opStore, toIV, scalT, scalA, scalC, boxesA, boxesC, zipB_none, zipB_mx, isZ, opZip, zeroP, opAppendZ, opMakeMap, opLookup, mboxB, opUpdate, ↓reduceIte, Nat.reduceSub, Nat.reduceEqDiff, Nat.reduceAdd, Nat.reduceMul, Nat.reduceLT, Nat.reduceLeDiff, Int.reduceToNat, Int.reduceLE, Int.reduceLT, Int.reduceNeg, reduceCtorEq, gos, Int.reduceAdd, Int.reduceSub, Int.reduceMul, Int.reduceEq, cj, g1, c1', c2, c3, c4, c5, c6, h0, g2, g3, seenC_len])
              refine ⟨cj, (fgt_nil), hf, rfl, ?_⟩
              funext c
              simp (maxSteps := 20000000) only [Heap.drop_at, rowH_app, Heap.put_at, Heap.none_at, List.mem_cons, List.not_mem_nil, or_false]
              by_cases e0 : c = (1, 0) :: base
              · subst e0; simp []
              simp [e0]
    · have hj : j = l.length := by omega
      subst hj
      rw [List.drop_length] at hf
      rw [← hf]
      simp only [ordF, Bool.true_and]
      repeat (first | refine X_opc rfl ?_ | refine X_dopc rfl ?_ | refine ⟨(by show drawK _ _ = true; kernel_rfl : drawX _ _ _), ?_⟩ | exact (by show drawK _ _ = true; kernel_rfl : drawX _ _ _) | simp -dsimp (maxSteps := 20000000) (disch := omega) only [simx, zzC, zzB, tys, ite_self, opnL, callB, callX, readsB, stepOp, nilCmp, ofVal, opBuiltin, opLen, PV.sk, scalBin, scalUn, intBin, opLoad, natOf, opConvert, opField, cellsP, oneP, Value.oneCell', opStore, toIV, scalT, scalA, scalC, boxesA, boxesC, zipB_none, zipB_mx, isZ, opZip, zeroP, opAppendZ, opMakeMap, opLookup, mboxB, opUpdate, ↓reduceIte, Nat.reduceSub, Nat.reduceEqDiff, Nat.reduceAdd, Nat.reduceMul, Nat.reduceLT, Nat.reduceLeDiff, Int.reduceToNat, Int.reduceLE, Int.reduceLT, Int.reduceNeg, reduceCtorEq, zzR, gos, Int.reduceAdd, Int.reduceSub, Int.reduceMul, Int.reduceEq])
end Go.Proofs.Ythnfphgjfpcpbaa.TM
namespace Go.Proofs.Ythnfphgjfpcpbaa.TM
open Go Go.RowKit
attribute [local irreducible] K W WOps Effs Xg Xo Xr Xdg Xdo Xdr Xif CallsP CallR
theorem pright_walk (l : List Int) (hl : l.length ≤ maxLen) : CallsP Try.prog 90 [li l] (bl (orderB l)) := by
  have d := order_right_walk l hl
  refine X_startP (n := 7) (m := 1) (rs := [.tmp 2]) Try.func90 rfl rfl rfl rfl (by decide) fun base => ?_
  repeat (first | ((first | refine X_call_fn2 rfl (by simp only [tys]) ?_ | refine X_dcall_fn2 rfl (by simp only [tys]) ?_); apply Exists.intro; apply And.intro; (focus (simp -dsimp only [simx, zzC, zzB, tys, ite_self, opnL, callB, callX, readsB, stepOp, nilCmp, ofVal, opBuiltin, opLen, PV.sk, scalBin, scalUn, intBin, opLoad, natOf, opConvert, opField, cellsP, oneP, Value.oneCell', opStore, toIV, scalT, scalA, scalC, boxesA, boxesC, zipB_none, zipB_mx, isZ, opZip, zeroP, opAppendZ, opMakeMap, opLookup, mboxB, opUpdate, ↓reduceIte, Nat.reduceSub, Nat.reduceEqDiff, Nat.reduceAdd, Nat.reduceMul, Nat.reduceLT, Nat.reduceLeDiff, Int.reduceToNat, Int.reduceLE, Int.reduceLT, Int.reduceNeg, reduceCtorEq, zzL, if_true, if_false] <;> rfl)); apply Exists.intro; apply And.intro; (focus (first | exact d))) | (refine X_call_val2 rfl ?_; apply Exists.intro; apply And.intro; (focus (simp -dsimp only [simx, zzC, zzB, tys, ite_self, opnL, callB, callX, readsB, stepOp, nilCmp, ofVal, opBuiltin, opLen, PV.sk, scalBin, scalUn, intBin, opLoad, natOf, opConvert, opField, cellsP, oneP, Value.oneCell', opStore, toIV, scalT, scalA, scalC, boxesA, boxesC, zipB_none, zipB_mx, isZ, opZip, zeroP, opAppendZ, opMakeMap, opLookup, mboxB, opUpdate, ↓reduceIte, Nat.reduceSub, Nat.reduceEqDiff, Nat.reduceAdd, Nat.reduceMul, Nat.reduceLT, Nat.reduceLeDiff, Int.reduceToNat, Int.reduceLE, Int.reduceLT, Int.reduceNeg, reduceCtorEq, zzL, if_true, if_false] <;> rfl)); apply And.intro; (focus (first | simp only [tys] | exact such_enter _)); apply Exists.intro; apply And.intro; (focus (simp -dsimp only [simx, zzC, zzB, tys, ite_self, opnL, callB, callX, readsB, stepOp, nilCmp, ofVal, opBuiltin, opLen, PV.sk, scalBin, scalUn, intBin, opLoad, natOf, opConvert, opField, cellsP, oneP, Value.oneCell', opStore, toIV, scalT, scalA, scalC, boxesA, boxesC, zipB_none, zipB_mx, isZ, opZip, zeroP, opAppendZ, opMakeMap, opLookup, mboxB, opUpdate, ↓reduceIte, Nat.reduceSub, Nat.reduceEqDiff, Nat.reduceAdd, Nat.reduceMul, Nat.reduceLT, Nat.reduceLeDiff, Int.reduceToNat, Int.reduceLE, Int.reduceLT, Int.reduceNeg, reduceCtorEq, zzL, if_true, if_false] <;> rfl)); apply Exists.intro; apply And.intro; (focus (first | exact d))) | refine X_opc rfl ?_ | refine X_dopc rfl ?_ | refine ⟨(by show drawK _ _ = true; kernel_rfl : drawX _ _ _), ?_⟩ | exact (by show drawK _ _ = true; kernel_rfl : drawX _ _ _) | simp -dsimp (maxSteps := 20000000) (disch := omega) only [simx, zzC, zzB, tys, ite_self, opnL, callB, callX, readsB, stepOp, nilCmp, ofVal, opBuiltin, opLen, PV.sk, scalBin, scalUn, intBin, opLoad, natOf, opConvert, opField, cellsP, oneP, Value.oneCell', opStore, toIV, scalT, scalA, scalC, boxesA, boxesC, zipB_none, zipB_mx, isZ, opZip, zeroP, opAppendZ, opMakeMap, opLookup, mboxB, opUpdate, ↓reduceIte, Nat.reduceSub, Nat.reduceEqDiff, Nat.reduceAdd, Nat.reduceMul, Nat.reduceLT, Nat.reduceLeDiff, Int.reduceToNat, Int.reduceLE, Int.reduceLT, Int.reduceNeg, reduceCtorEq, zzR, gos, Int.reduceAdd, Int.reduceSub, Int.reduceMul, Int.reduceEq])
structure Ord (l : List Int) : Prop where
  pos : 1 ≤ l.length
  le : l.length ≤ 64
  mem : ∀ a ∈ l, 0 ≤ a ∧ a < l.length
  nd : l.Nodup
theorem ordF_spec (n : Int) : ∀ (l s : List Int), ordF n s l = true ↔ (∀ a ∈ l, 0 ≤ a ∧ a < n ∧ a < 64) ∧ l.Nodup ∧ ∀ a ∈ l, a ∉ s
  | [], s => by simp [ordF]
  | a :: l, s => by
    rw [ordF]
    simp only [Bool.and_eq_true, Bool.not_eq_true', decide_eq_false_iff_not, ordF_spec n l (s ++ [a])]
    constructor
    · rintro ⟨h1, h2, h3, h4, h5, h6, h7⟩
      refine ⟨fun b hb => ?_, List.nodup_cons.2 ⟨fun h => ?_, h6⟩, fun b hb => ?_⟩
      · rcases List.mem_cons.1 hb with rfl | hb
        · omega
        · exact h5 b hb
      · exact h7 a h (by simp)
      · rcases List.mem_cons.1 hb with rfl | hb
        · exact h4
        · exact fun h => h7 b hb (List.mem_append.2 (.inl h))
    · rintro ⟨h1, h2, h3⟩
      obtain ⟨h4, h5⟩ := List.nodup_cons.1 h2
      have := h1 a (by simp)
      refine ⟨by omega, by omega, by omega, h3 a (by simp), fun b hb => h1 b (by simp [hb]), h5, fun b hb h => ?_⟩
      rcases List.mem_append.1 h with h | h
      · exact h3 b (by simp [hb]) h
      · have : b = a := by simpa using h
        subst this
        exact h4 hb
theorem nodup_bound {n : Nat} : ∀ {l : List Int}, l.Nodup → (∀ a ∈ l, 0 ≤ a ∧ a < n) → l.length ≤ n := by
  induction n with
  | zero =>
    intro l _ h
    cases l with
    | nil => simp
    | cons a l => have := h a (by simp); omega
  | succ n ih =>
    intro l hn h
    by_cases hm : (n : Int) ∈ l
    · have h1 := List.length_erase_of_mem hm
      have h2 := ih (l := l.erase (n : Int)) (hn.erase _) (fun a ha => by
        have h3 := h a (List.mem_of_mem_erase ha)
        have h4 : a ≠ (n : Int) := fun e => by
          subst e
          exact (List.Nodup.not_mem_erase hn) ha
        omega)
      omega
    · have := ih hn (fun a ha => by
        have h3 := h a ha
        have : a ≠ (n : Int) := fun e => hm (e ▸ ha)
        omega)
      omega
theorem orderB_iff (l : List Int) : orderB l = true ↔ Ord l := by
  unfold orderB
  rw [Bool.and_eq_true, ordF_spec, decide_eq_true_eq]
  constructor
  · rintro ⟨⟨h1, h2, _⟩, h3⟩
    exact ⟨by omega, nodup_bound h2 (fun a ha => by have := h1 a ha; omega), fun a ha => by have := h1 a ha; omega, h2⟩
  · rintro ⟨h1, h2, h3, h4⟩
    exact ⟨⟨fun a ha => by have := h3 a ha; omega, h4, fun a _ => by simp⟩, by omega⟩
end Go.Proofs.Ythnfphgjfpcpbaa.TM
namespace Go.Proofs.Ythnfphgjfpcpbaa.TM
open Go Go.RowKit
def InN (q : Nat → Int) (n : Nat) : Prop := ∀ i, i < n → 0 ≤ q i ∧ q i < n
theorem tbl_nodup {q : Nat → Int} : ∀ {n : Nat}, InjN q n → (tbl n q).Nodup
  | 0, _ => List.nodup_nil
  | n + 1, h => by
    rw [tbl_succ, List.nodup_append]
    refine ⟨tbl_nodup fun i j hi hj => h i j (by omega) (by omega), by simp, fun x hx y hy he => ?_⟩
    obtain ⟨i, hi, e⟩ := tbl_mem hx
    have hy' : y = q n := by simpa using hy
    have := h i n (by omega) (by omega) (by rw [e, he, hy'])
    omega
theorem surjN {q : Nat → Int} {n : Nat} (h : InjN q n) (hr : InN q n) (m : Nat) (hm : m < n) : ∃ i, i < n ∧ q i = m := by
  by_cases c : (m : Int) ∈ tbl n q
  · exact tbl_mem c
  · have h1 : ((m : Int) :: tbl n q).Nodup := List.nodup_cons.2 ⟨c, tbl_nodup h⟩
    have h2 := nodup_bound h1 (n := n) (fun a ha => by
      rcases List.mem_cons.1 ha with rfl | ha
      · omega
      · obtain ⟨i, hi, rfl⟩ := tbl_mem ha; exact hr i hi)
    rw [List.length_cons, tbl_len] at h2
    omega
theorem colP_id (y : Int) : ∀ k : Nat, (k : Int) ≤ y → colP (fun i => (i : Int)) y k = 1
  | 0, _ => rfl
  | k + 1, h => by rw [colP, colP_id y k (by omega), eps, if_pos (by omega)]; rfl
theorem sgnI_id : ∀ n, sgnI (fun i => (i : Int)) n = 1
  | 0 => rfl
  | n + 1 => by rw [sgnI, sgnI_id n, colP_id _ _ (by omega)]; rfl
theorem sw_in {q : Nat → Int} {n a b : Nat} (h : InN q n) (ha : a < n) (hb : b < n) : InN (sw a b q) n := fun i hi => by
  unfold sw
  by_cases c1 : i = a
  · rw [if_pos c1]; exact h b hb
  · by_cases c2 : i = b
    · rw [if_neg c1, if_pos c2]; exact h a ha
    · rw [if_neg c1, if_neg c2]; exact h i hi
end Go.Proofs.Ythnfphgjfpcpbaa.TM
namespace Go.Proofs.Ythnfphgjfpcpbaa.TM
open Go Go.RowKit
attribute [local irreducible] K W WOps Effs Xg Xo Xr Xdg Xdo Xdr Xif CallsP CallR
def itn (l : List Int) (a : Int) : Nat → Int
  | 0 => a
  | k + 1 => l.getD (itn l a k).toNat 0
def orb (l : List Int) (a : Int) (k : Nat) : List Int := (List.range k).map (itn l a)
theorem orb_len (l : List Int) (a : Int) (k : Nat) : (orb l a k).length = k := by simp [orb]
theorem orb_succ (l : List Int) (a : Int) (k : Nat) : orb l a (k + 1) = orb l a k ++ [itn l a k] := by unfold orb; rw [List.range_succ, List.map_append]; rfl
theorem orb_zero (l : List Int) (a : Int) : orb l a 0 = [] := rfl
def ringN (l s : List Int) (a : Int) : Nat := ((List.range (l.length + 1)).find? fun k => decide (itn l a k ∈ s ++ orb l a k)).getD 0
theorem itn_in {l : List Int} (o : Ord l) {a : Int} (h0 : 0 ≤ a) (h1 : a < l.length) : ∀ k, 0 ≤ itn l a k ∧ itn l a k < l.length
  | 0 => ⟨h0, h1⟩
  | k + 1 => by
    have := itn_in o h0 h1 k
    have h2 : (itn l a k).toNat < l.length := by omega
    rw [itn, List.getD_eq_getElem?_getD, List.getElem?_eq_getElem h2]
    exact o.mem _ (List.getElem_mem h2)
theorem orb_nodup {l s : List Int} {a : Int} : ∀ k, (∀ i, i < k → itn l a i ∉ s ++ orb l a i) → (orb l a k).Nodup
  | 0, _ => List.nodup_nil
  | k + 1, h => by
    rw [orb_succ, List.nodup_append]
    refine ⟨orb_nodup k fun i hi => h i (by omega), by simp, fun x hx y hy => ?_⟩
    have : y = itn l a k := by simpa using hy
    subst this
    intro e
    exact h k (by omega) (List.mem_append.2 (.inr (e ▸ hx)))
theorem ringN_spec {l : List Int} (o : Ord l) (s : List Int) {a : Int} (h0 : 0 ≤ a) (h1 : a < l.length) :
    itn l a (ringN l s a) ∈ s ++ orb l a (ringN l s a) ∧ (∀ i, i < ringN l s a → itn l a i ∉ s ++ orb l a i) ∧ ringN l s a ≤ l.length := by
  unfold ringN
  cases hf : (List.range (l.length + 1)).find? fun k => decide (itn l a k ∈ s ++ orb l a k) with
  | none =>
    exfalso
    have h2 : ∀ i, i < l.length + 1 → itn l a i ∉ s ++ orb l a i := fun i hi => by
      have := List.find?_eq_none.1 hf i (List.mem_range.2 hi)
      simpa using this
    have h3 := orb_nodup (l.length + 1) h2
    have h4 := nodup_bound h3 (n := l.length) (fun x hx => by
      obtain ⟨i, _, rfl⟩ := List.mem_map.1 hx
      exact itn_in o h0 h1 i)
    rw [orb_len] at h4
    omega
  | some m =>
    rw [List.find?_range_eq_some] at hf
    obtain ⟨h2, h3, h4⟩ := hf
    simp only [Option.getD_some]
    refine ⟨by simpa using h2, fun i hi => ?_, ?_⟩
    · have := h4 i hi
      simpa using this
    · have := List.mem_range.1 h3; omega
def rgs (l : List Int) : Nat → List (List Int) × List Int
  | 0 => ([], [])
  | j + 1 => if (j : Int) ∈ (rgs l j).2 then rgs l j else ((rgs l j).1 ++ [orb l j (ringN l (rgs l j).2 j)], (rgs l j).2 ++ orb l j (ringN l (rgs l j).2 j))
def ringsI (l : List Int) : List (List Int) := (rgs l l.length).1
abbrev ivl (l : List Int) : IV := .l l.length (l.map ii)
abbrev lli (x : List (List Int)) : PV := .i (.l x.length (x.map ivl))
def trM (s : List Int) : List (Int × Value) := s.map fun a => (a, Value.bool true)
theorem getM_tr (n : Int) : ∀ s : List Int, getM n (trM s) = if n ∈ s then some (Value.bool true) else none
  | [] => by simp [trM, getM]
  | a :: s => by
    have ih := getM_tr n s
    unfold trM at ih ⊢
    rw [List.map_cons, getM]
    by_cases h : n = a
    · simp [h]
    · rw [if_neg h, ih]; simp [h]
theorem putM_tr (n : Int) : ∀ s : List Int, n ∉ s → putM n (Value.bool true) (trM s) = trM (s ++ [n])
  | [], _ => rfl
  | a :: s, hn => by
    have h1 : n ≠ a := fun e => hn (by simp [e])
    have ih := putM_tr n s fun h => hn (by simp [h])
    unfold trM at ih ⊢
    rw [List.cons_append, List.map_cons, List.map_cons, putM, if_neg h1, ih]
theorem rgs_len (l : List Int) : ∀ j, (rgs l j).1.length ≤ j
  | 0 => Nat.le_refl _
  | j + 1 => by
    have := rgs_len l j
    rw [rgs]
    split
    · omega
    · simp; omega
set_option maxHeartbeats 2000000 in
theorem rings_walk (l : List Int) (o : Ord l) : CallsP Try.prog 96 [li l] (lli (ringsI l)) := by
  have o1 := o.le
  have o2 := o.pos
  unfold ringsI
  refine X_startP (n := 38) (m := 1) (rs := [.tmp 2]) Try.func96 rfl rfl rfl rfl (by decide) fun base => ?_
  repeat (first | refine X_opc rfl ?_ | refine X_dopc rfl ?_ | refine ⟨(by show drawK _ _ = true; kernel_rfl : drawX _ _ _), ?_⟩ | exact (by show drawK _ _ = true; kernel_rfl : drawX _ _ _) | simp -dsimp (maxSteps := 20000000) (disch := omega) only [simx, zzC, zzB, tys, ite_self, opnL, callB, callX, readsB, stepOp, nilCmp, ofVal, opBuiltin, opLen, PV.sk, scalBin, scalUn, intBin, opLoad, natOf, opConvert, opField, cellsP, oneP, Value.oneCell', opStore, toIV, scalT, scalA, scalC, boxesA, boxesC, zipB_none, zipB_mx, isZ, opZip, zeroP, opAppendZ, opMakeMap, opLookup, mboxB, opUpdate, ↓reduceIte, Nat.reduceSub, Nat.reduceEqDiff, Nat.reduceAdd, Nat.reduceMul, Nat.reduceLT, Nat.reduceLeDiff, Int.reduceToNat, Int.reduceLE, Int.reduceLT, Int.reduceNeg, reduceCtorEq, gos, Int.reduceAdd, Int.reduceSub, Int.reduceMul, Int.reduceEq])
  refine X_loopH [0, 3, 4, 10, 11] [(12, 2) :: base, (12, 3) :: base, (13, 2) :: base] (0) (l.length) (fun j => True) (fun j => [(4, rowP ((13, 3) :: base) 1 (rgs l j).1.length ((rgs l j).1.map ivl)), (11, i64 j)]) (fun j => rowH (Heap.none.put ((1, 0) :: base) (.map .i64 (trM (rgs l j).2))) ((13, 3) :: base) (rgs l j).1.length ((rgs l j).1.map ivl)) ?_ ?_ ?_ ?_ ?_ (by decide) ?_
  · exact (fgt_cons (by simp only [Heap.none_at]) (by (simp -dsimp only [zzB, tys, ite_self, opnL, callB, callX, readsB, stepOp, nilCmp, ofVal, opBuiltin, opLen, PV.sk, scalBin, scalUn, intBin, opLoad, natOf, opConvert, opField, cellsP, oneP, Value.oneCell', opStore, toIV, scalT, scalA, scalC, boxesA, boxesC, zipB_none, zipB_mx, isZ, opZip, zeroP, opAppendZ, opMakeMap, opLookup, mboxB, opUpdate, ↓reduceIte, Nat.reduceSub, Nat.reduceEqDiff, Nat.reduceAdd, Nat.reduceMul, Nat.reduceLT, Nat.reduceLeDiff, Int.reduceToNat, Int.reduceLE, Int.reduceLT, Int.reduceNeg, reduceCtorEq, notIn_cons, notIn_nil]) <;> simp [refsL, refsP, mem_refs_rowP]) (by repeat (first | exact noVar_none _ | refine noVar_row ?_ | refine noVar_map ?_ | refine noVar_rowH ?_ | refine noVar_var ?_ (by simp [refsL, refsP, mem_refs_rowP]))) (fgt_cons (by simp only [Heap.none_at]) (by (simp -dsimp only [zzB, tys, ite_self, opnL, callB, callX, readsB, stepOp, nilCmp, ofVal, opBuiltin, opLen, PV.sk, scalBin, scalUn, intBin, opLoad, natOf, opConvert, opField, cellsP, oneP, Value.oneCell', opStore, toIV, scalT, scalA, scalC, boxesA, boxesC, zipB_none, zipB_mx, isZ, opZip, zeroP, opAppendZ, opMakeMap, opLookup, mboxB, opUpdate, ↓reduceIte, Nat.reduceSub, Nat.reduceEqDiff, Nat.reduceAdd, Nat.reduceMul, Nat.reduceLT, Nat.reduceLeDiff, Int.reduceToNat, Int.reduceLE, Int.reduceLT, Int.reduceNeg, reduceCtorEq, notIn_cons, notIn_nil]) <;> simp [refsL, refsP, mem_refs_rowP]) (by repeat (first | exact noVar_none _ | refine noVar_row ?_ | refine noVar_map ?_ | refine noVar_rowH ?_ | refine noVar_var ?_ (by simp [refsL, refsP, mem_refs_rowP]))) (fgt_cons (by simp only [Heap.none_at]) (by (simp -dsimp only [zzB, tys, ite_self, opnL, callB, callX, readsB, stepOp, nilCmp, ofVal, opBuiltin, opLen, PV.sk, scalBin, scalUn, intBin, opLoad, natOf, opConvert, opField, cellsP, oneP, Value.oneCell', opStore, toIV, scalT, scalA, scalC, boxesA, boxesC, zipB_none, zipB_mx, isZ, opZip, zeroP, opAppendZ, opMakeMap, opLookup, mboxB, opUpdate, ↓reduceIte, Nat.reduceSub, Nat.reduceEqDiff, Nat.reduceAdd, Nat.reduceMul, Nat.reduceLT, Nat.reduceLeDiff, Int.reduceToNat, Int.reduceLE, Int.reduceLT, Int.reduceNeg, reduceCtorEq, notIn_cons, notIn_nil]) <;> simp [refsL, refsP, mem_refs_rowP]) (by repeat (first | exact noVar_none _ | refine noVar_row ?_ | refine noVar_map ?_ | refine noVar_rowH ?_ | refine noVar_var ?_ (by simp [refsL, refsP, mem_refs_rowP]))) (fgt_nil))))
  · ((simp -dsimp (disch := omega) only [simx, zzB, tys, ite_self, opnL, callB, callX, readsB, stepOp, nilCmp, ofVal, opBuiltin, opLen, PV.sk, scalBin, scalUn, intBin, opLoad, natOf, opConvert, opField, cellsP, oneP, Value.oneCell', opStore, toIV, scalT, scalA, scalC, boxesA, boxesC, zipB_none, zipB_mx, isZ, opZip, zeroP, opAppendZ, opMakeMap, opLookup, mboxB, opUpdate, ↓reduceIte, Nat.reduceSub, Nat.reduceEqDiff, Nat.reduceAdd, Nat.reduceMul, Nat.reduceLT, Nat.reduceLeDiff, Int.reduceToNat, Int.reduceLE, Int.reduceLT, Int.reduceNeg, reduceCtorEq, gos, Int.reduceAdd, Int.reduceSub, Int.reduceMul, Int.reduceEq]) <;> first | rfl | simp [rowP, rgs])
  · funext c
    simp (maxSteps := 20000000) only [Heap.drop_at, rowH_app, Heap.put_at, Heap.none_at, List.mem_cons, List.not_mem_nil, or_false]
    by_cases e0 : c = (1, 0) :: base
    · subst e0; simp [rgs, trM]
    by_cases e1 : c = (12, 2) :: base
    · subst e1; simp [rgs, trM]
    by_cases e2 : c = (12, 3) :: base
    · subst e2; simp [rgs, trM]
    by_cases e3 : c = (13, 2) :: base
    · subst e3; simp [rgs, trM]
    simp [e0, e1, e2, e3, rgs, trM]
  · omega
  · trivial
  · intro j hj _
    by_cases cj : j < l.length
    · have gl := rgs_len l j
      have rs : rgs l (j + 1) = if (j : Int) ∈ (rgs l j).2 then rgs l j else ((rgs l j).1 ++ [orb l j (ringN l (rgs l j).2 j)], (rgs l j).2 ++ orb l j (ringN l (rgs l j).2 j)) := rfl
      generalize rgs l j = q at gl rs ⊢
      generalize hq' : rgs l (j + 1) = q' at rs
      obtain ⟨out, s⟩ := q
      simp only at gl rs ⊢
      have gm := getM_tr (j : Int) s
      by_cases c1 : (j : Int) ∈ s
      · rw [if_pos c1] at rs gm
        subst rs
        repeat (first | refine X_opc rfl ?_ | refine X_dopc rfl ?_ | refine ⟨(by show drawK _ _ = true; kernel_rfl : drawX _ _ _), ?_⟩ | exact (by show drawK _ _ = true; kernel_rfl : drawX _ _ _) | simp -dsimp (maxSteps := 20000000) (disch := omega) only [simx, zzC, zzB, tys, ite_self, opnL, callB, callX, readsB, stepOp, nilCmp, ofVal, opBuiltin, opLen, PV.sk, scalBin, scalUn, intBin, opLoad, natOf, opConvert, opField, cellsP, oneP, Value.oneCell', opStore, toIV, scalT, scalA, scalC, boxesA, boxesC, zipB_none, zipB_mx, isZ, opZip, zeroP, opAppendZ, opMakeMap, opLookup, mboxB, opUpdate, ↓reduceIte, Nat.reduceSub, Nat.reduceEqDiff, Nat.reduceAdd, Nat.reduceMul, Nat.reduceLT, Nat.reduceLeDiff, Int.reduceToNat, Int.reduceLE, Int.reduceLT, Int.reduceNeg, reduceCtorEq, gos, Int.reduceAdd, Int.reduceSub, Int.reduceMul, Int.reduceEq, cj, gm, Option.getD_some])
        refine ⟨cj, (fgt_cons (by simp only [Heap.none_at]) (by (simp -dsimp only [zzB, tys, ite_self, opnL, callB, callX, readsB, stepOp, nilCmp, ofVal, opBuiltin, opLen, PV.sk, scalBin, scalUn, intBin, opLoad, natOf, opConvert, opField, cellsP, oneP, Value.oneCell', opStore, toIV, scalT, scalA, scalC, boxesA, boxesC, zipB_none, zipB_mx, isZ, opZip, zeroP, opAppendZ, opMakeMap, opLookup, mboxB, opUpdate, ↓reduceIte, Nat.reduceSub, Nat.reduceEqDiff, Nat.reduceAdd, Nat.reduceMul, Nat.reduceLT, Nat.reduceLeDiff, Int.reduceToNat, Int.reduceLE, Int.reduceLT, Int.reduceNeg, reduceCtorEq, notIn_cons, notIn_nil]) <;> simp [refsL, refsP, mem_refs_rowP]) (by repeat (first | exact noVar_none _ | refine noVar_row ?_ | refine noVar_map ?_ | refine noVar_rowH ?_ | refine noVar_var ?_ (by simp [refsL, refsP, mem_refs_rowP]))) (fgt_cons (by simp only [Heap.none_at]) (by (simp -dsimp only [zzB, tys, ite_self, opnL, callB, callX, readsB, stepOp, nilCmp, ofVal, opBuiltin, opLen, PV.sk, scalBin, scalUn, intBin, opLoad, natOf, opConvert, opField, cellsP, oneP, Value.oneCell', opStore, toIV, scalT, scalA, scalC, boxesA, boxesC, zipB_none, zipB_mx, isZ, opZip, zeroP, opAppendZ, opMakeMap, opLookup, mboxB, opUpdate, ↓reduceIte, Nat.reduceSub, Nat.reduceEqDiff, Nat.reduceAdd, Nat.reduceMul, Nat.reduceLT, Nat.reduceLeDiff, Int.reduceToNat, Int.reduceLE, Int.reduceLT, Int.reduceNeg, reduceCtorEq, notIn_cons, notIn_nil]) <;> simp [refsL, refsP, mem_refs_rowP]) (by repeat (first | exact noVar_none _ | refine noVar_row ?_ | refine noVar_map ?_ | refine noVar_rowH ?_ | refine noVar_var ?_ (by simp [refsL, refsP, mem_refs_rowP]))) (fgt_cons (by simp only [Heap.none_at]) (by (simp -dsimp only [zzB, tys, ite_self, opnL, callB, callX, readsB, stepOp, nilCmp, ofVal, opBuiltin, opLen, PV.sk, scalBin, scalUn, intBin, opLoad, natOf, opConvert, opField, cellsP, oneP, Value.oneCell', opStore, toIV, scalT, scalA, scalC, boxesA, boxesC, zipB_none, zipB_mx, isZ, opZip, zeroP, opAppendZ, opMakeMap, opLookup, mboxB, opUpdate, ↓reduceIte, Nat.reduceSub, Nat.reduceEqDiff, Nat.reduceAdd, Nat.reduceMul, Nat.reduceLT, Nat.reduceLeDiff, Int.reduceToNat, Int.reduceLE, Int.reduceLT, Int.reduceNeg, reduceCtorEq, notIn_cons, notIn_nil]) <;> simp [refsL, refsP, mem_refs_rowP]) (by repeat (first | exact noVar_none _ | refine noVar_row ?_ | refine noVar_map ?_ | refine noVar_rowH ?_ | refine noVar_var ?_ (by simp [refsL, refsP, mem_refs_rowP]))) (fgt_nil)))), ⟨?_, rfl⟩, ?_⟩
        · rw [hq']
        · rw [hq']
          funext c
          simp (maxSteps := 20000000) only [Heap.drop_at, rowH_app, Heap.put_at, Heap.none_at, List.mem_cons, List.not_mem_nil, or_false]
          by_cases e0 : c = (1, 0) :: base
          · subst e0; simp []
          by_cases e1 : c = (12, 2) :: base
          · subst e1; simp []
          by_cases e2 : c = (12, 3) :: base
          · subst e2; simp []
          by_cases e3 : c = (13, 2) :: base
          · subst e3; simp []
          by_cases e4 : c = (13, 3) :: base
          · subst e4; simp []
          simp [e0, e1, e2, e3, e4]
      · rw [if_neg c1] at rs gm
        subst rs
        obtain ⟨n1, n2, n3⟩ := ringN_spec o s (a := (j : Int)) (by omega) (by omega)
        generalize ringN l s j = m at n1 n2 n3 hq'
        have it := itn_in o (a := (j : Int)) (by omega) (by omega)
        repeat (first | refine X_opc rfl ?_ | refine X_dopc rfl ?_ | refine ⟨(by show drawK _ _ = true; kernel_rfl : drawX _ _ _), ?_⟩ | exact (by show drawK _ _ = true; kernel_rfl : drawX _ _ _) | simp -dsimp (maxSteps := 20000000) (disch := omega) only [simx, zzC, zzB, tys, ite_self, opnL, callB, callX, readsB, stepOp, nilCmp, ofVal, opBuiltin, opLen, PV.sk, scalBin, scalUn, intBin, opLoad, natOf, opConvert, opField, cellsP, oneP, Value.oneCell', opStore, toIV, scalT, scalA, scalC, boxesA, boxesC, zipB_none, zipB_mx, isZ, opZip, zeroP, opAppendZ, opMakeMap, opLookup, mboxB, opUpdate, ↓reduceIte, Nat.reduceSub, Nat.reduceEqDiff, Nat.reduceAdd, Nat.reduceMul, Nat.reduceLT, Nat.reduceLeDiff, Int.reduceToNat, Int.reduceLE, Int.reduceLT, Int.reduceNeg, reduceCtorEq, gos, Int.reduceAdd, Int.reduceSub, Int.reduceMul, Int.reduceEq, cj, gm, Option.getD_none])
        obtain ⟨J, hJ⟩ : ∃ J : Int, J = (j : Int) := ⟨_, rfl⟩
        rw [← hJ] at n1 n2 it hq' gm ⊢
        refine X_loopH [0, 3, 4, 6, 7, 10, 11] [(12, 2) :: base] (0) (m) (fun j => True) (fun j => [(6, rowP ((12, 3) :: base) 1 j ((orb l J j).map ii)), (7, i64 (itn l J j))]) (fun j => rowH (rowH (Heap.none.put ((1, 0) :: base) (.map .i64 (trM (s ++ orb l J j)))) ((13, 3) :: base) out.length (out.map ivl)) ((12, 3) :: base) j ((orb l J j).map ii)) ?_ ?_ ?_ ?_ ?_ (by decide) ?_
        · exact (fgt_cons (by simp only [Heap.none_at]) (by (simp -dsimp only [zzB, tys, ite_self, opnL, callB, callX, readsB, stepOp, nilCmp, ofVal, opBuiltin, opLen, PV.sk, scalBin, scalUn, intBin, opLoad, natOf, opConvert, opField, cellsP, oneP, Value.oneCell', opStore, toIV, scalT, scalA, scalC, boxesA, boxesC, zipB_none, zipB_mx, isZ, opZip, zeroP, opAppendZ, opMakeMap, opLookup, mboxB, opUpdate, ↓reduceIte, Nat.reduceSub, Nat.reduceEqDiff, Nat.reduceAdd, Nat.reduceMul, Nat.reduceLT, Nat.reduceLeDiff, Int.reduceToNat, Int.reduceLE, Int.reduceLT, Int.reduceNeg, reduceCtorEq, notIn_cons, notIn_nil]) <;> simp [refsL, refsP, mem_refs_rowP]) (by repeat (first | exact noVar_none _ | refine noVar_row ?_ | refine noVar_map ?_ | refine noVar_rowH ?_ | refine noVar_var ?_ (by simp [refsL, refsP, mem_refs_rowP]))) (fgt_nil))
        · ((simp -dsimp (disch := omega) only [simx, zzB, tys, ite_self, opnL, callB, callX, readsB, stepOp, nilCmp, ofVal, opBuiltin, opLen, PV.sk, scalBin, scalUn, intBin, opLoad, natOf, opConvert, opField, cellsP, oneP, Value.oneCell', opStore, toIV, scalT, scalA, scalC, boxesA, boxesC, zipB_none, zipB_mx, isZ, opZip, zeroP, opAppendZ, opMakeMap, opLookup, mboxB, opUpdate, ↓reduceIte, Nat.reduceSub, Nat.reduceEqDiff, Nat.reduceAdd, Nat.reduceMul, Nat.reduceLT, Nat.reduceLeDiff, Int.reduceToNat, Int.reduceLE, Int.reduceLT, Int.reduceNeg, reduceCtorEq, gos, Int.reduceAdd, Int.reduceSub, Int.reduceMul, Int.reduceEq]) <;> first | rfl | simp [rowP, orb, itn])
        · funext c
          simp (maxSteps := 20000000) only [Heap.drop_at, rowH_app, Heap.put_at, Heap.none_at, List.mem_cons, List.not_mem_nil, or_false]
          by_cases e0 : c = (1, 0) :: base
          · subst e0; simp [orb]
          by_cases e1 : c = (12, 2) :: base
          · subst e1; simp [orb]
          by_cases e2 : c = (12, 3) :: base
          · subst e2; simp [orb]
          by_cases e3 : c = (13, 2) :: base
          · subst e3; simp [orb]
          by_cases e4 : c = (13, 3) :: base
          · subst e4; simp [orb]
          simp [e0, e1, e2, e3, e4, orb]
        · omega
        · trivial
        · intro k hk _
          have gk := getM_tr (itn l J k) (s ++ orb l J k)
          by_cases ck : k < m
          · have nk := n2 k ck
            rw [if_neg nk] at gk
            have pk := putM_tr (itn l J k) (s ++ orb l J k) nk
            have os := orb_succ l J k
            rw [List.append_assoc, ← os] at pk
            have ol := orb_len l J k
            obtain ⟨a0, a1⟩ := it k
            have a2 : (itn l J k).toNat < l.length := by omega
            have g2 : l[(itn l J k).toNat]? = some (itn l J (k + 1)) := by
              rw [itn, List.getD_eq_getElem?_getD, List.getElem?_eq_getElem a2]; rfl
            generalize itn l J k = a at gk pk os a0 a2 g2 ⊢
            have a3 : (k + 1) * 8 ≤ 140737488355328 := by omega
            repeat (first | refine X_opc rfl ?_ | refine X_dopc rfl ?_ | refine ⟨(by show drawK _ _ = true; kernel_rfl : drawX _ _ _), ?_⟩ | exact (by show drawK _ _ = true; kernel_rfl : drawX _ _ _) | simp -dsimp (maxSteps := 20000000) (disch := omega) only [simx, zzC, zzB, tys, ite_self, opnL, callB, callX, readsB, stepOp, nilCmp, ofVal, opBuiltin, opLen, PV.sk, scalBin, scalUn, intBin, opLoad, natOf, opConvert, opField, cellsP, oneP, Value.oneCell', opStore, toIV, scalT, scalA, scalC, boxesA, boxesC, zipB_none, zipB_mx, isZ, opZip, zeroP, opAppendZ, opMakeMap, opLookup, mboxB, opUpdate, ↓reduceIte, Nat.reduceSub, Nat.reduceEqDiff, Nat.reduceAdd, Nat.reduceMul, Nat.reduceLT, Nat.reduceLeDiff, Int.reduceToNat, Int.reduceLE, Int.reduceLT, Int.reduceNeg, reduceCtorEq, gos, Int.reduceAdd, Int.reduceSub, Int.reduceMul, Int.reduceEq, gk, pk, Option.getD_none])
            refine X_append_one 3 [.int .i64 0] [ii a] (by simp only [tys]) (by simp only [tys]) rfl (by decide) (by simp [ol]) (by simp [Heap.put_at, Heap.none_at, rowH_app]) (by simp [Heap.put_at, rowH_app]; rfl) rfl (by simp only [tys]; exact a3) (by rw [mx_len]; omega) ?_
            repeat (first | refine X_opc rfl ?_ | refine X_dopc rfl ?_ | refine ⟨(by show drawK _ _ = true; kernel_rfl : drawX _ _ _), ?_⟩ | exact (by show drawK _ _ = true; kernel_rfl : drawX _ _ _) | simp -dsimp (maxSteps := 20000000) (disch := omega) only [simx, zzC, zzB, tys, ite_self, opnL, callB, callX, readsB, stepOp, nilCmp, ofVal, opBuiltin, opLen, PV.sk, scalBin, scalUn, intBin, opLoad, natOf, opConvert, opField, cellsP, oneP, Value.oneCell', opStore, toIV, scalT, scalA, scalC, boxesA, boxesC, zipB_none, zipB_mx, isZ, opZip, zeroP, opAppendZ, opMakeMap, opLookup, mboxB, opUpdate, ↓reduceIte, Nat.reduceSub, Nat.reduceEqDiff, Nat.reduceAdd, Nat.reduceMul, Nat.reduceLT, Nat.reduceLeDiff, Int.reduceToNat, Int.reduceLE, Int.reduceLT, Int.reduceNeg, reduceCtorEq, gos, Int.reduceAdd, Int.reduceSub, Int.reduceMul, Int.reduceEq, a0, a2, g2])
            refine ⟨ck, (fgt_cons (by simp only [Heap.none_at]) (by (simp -dsimp only [zzB, tys, ite_self, opnL, callB, callX, readsB, stepOp, nilCmp, ofVal, opBuiltin, opLen, PV.sk, scalBin, scalUn, intBin, opLoad, natOf, opConvert, opField, cellsP, oneP, Value.oneCell', opStore, toIV, scalT, scalA, scalC, boxesA, boxesC, zipB_none, zipB_mx, isZ, opZip, zeroP, opAppendZ, opMakeMap, opLookup, mboxB, opUpdate, ↓reduceIte, Nat.reduceSub, Nat.reduceEqDiff, Nat.reduceAdd, Nat.reduceMul, Nat.reduceLT, Nat.reduceLeDiff, Int.reduceToNat, Int.reduceLE, Int.reduceLT, Int.reduceNeg, reduceCtorEq, notIn_cons, notIn_nil]) <;> simp [refsL, refsP, mem_refs_rowP]) (by repeat (first | exact noVar_none _ | refine noVar_row ?_ | refine noVar_map ?_ | refine noVar_rowH ?_ | refine noVar_var ?_ (by simp [refsL, refsP, mem_refs_rowP]))) (fgt_nil)), ?_, ?_⟩
            · rw [os]; simp
            · funext c
              simp (maxSteps := 20000000) only [Heap.drop_at, rowH_app, Heap.put_at, Heap.none_at, List.mem_cons, List.not_mem_nil, or_false]
              by_cases e0 : c = (1, 0) :: base
              · subst e0; simp [os]
              by_cases e1 : c = (12, 2) :: base
              · subst e1; simp [os]
              by_cases e2 : c = (12, 3) :: base
              · subst e2; simp [os]
              by_cases e3 : c = (13, 2) :: base
              · subst e3; simp [os]
              by_cases e4 : c = (13, 3) :: base
              · subst e4; simp [os]
              simp [e0, e1, e2, e3, e4, os]
          · have hkm : k = m := by omega
            subst hkm
            rw [if_pos n1] at gk
            have ol := orb_len l J k
            have kp : ∃ q, k = q + 1 := by
              cases k with
              | zero => rw [show itn l J 0 = J from rfl, orb_zero, List.append_nil] at n1; exact absurd n1 (hJ ▸ c1)
              | succ q => exact ⟨q, rfl⟩
            obtain ⟨q, rfl⟩ := kp
            have e2 : ((orb l J (q + 1)).map ii).take (q + 1) = (orb l J (q + 1)).map ii := List.take_of_length_le (by simp [ol])
            repeat (first | refine X_opc rfl ?_ | refine X_dopc rfl ?_ | refine ⟨(by show drawK _ _ = true; kernel_rfl : drawX _ _ _), ?_⟩ | exact (by show drawK _ _ = true; kernel_rfl : drawX _ _ _) | simp -dsimp (maxSteps := 20000000) (disch := omega) only [simx, zzC, zzB, tys, ite_self, opnL, callB, callX, readsB, stepOp, nilCmp, ofVal, opBuiltin, opLen, PV.sk, scalBin, scalUn, intBin, opLoad, natOf, opConvert, opField, cellsP, oneP, Value.oneCell', opStore, toIV, scalT, scalA, scalC, boxesA, boxesC, zipB_none, zipB_mx, isZ, opZip, zeroP, opAppendZ, opMakeMap, opLookup, mboxB, opUpdate, ↓reduceIte, Nat.reduceSub, Nat.reduceEqDiff, Nat.reduceAdd, Nat.reduceMul, Nat.reduceLT, Nat.reduceLeDiff, Int.reduceToNat, Int.reduceLE, Int.reduceLT, Int.reduceNeg, reduceCtorEq, gos, Int.reduceAdd, Int.reduceSub, Int.reduceMul, Int.reduceEq, gk, Option.getD_some, rowP_succ, rowH_succ, List.length_map, ol, e2])
            have e3 : ivl (orb l J (q + 1)) = IV.l (q + 1) ((orb l J (q + 1)).map ii) := by rw [ivl, ol]
            have e4 : (out.length + 1) * 24 ≤ 140737488355328 := by omega
            refine X_append_one 49 [.slice none 0 0] [IV.l (q + 1) ((orb l J (q + 1)).map ii)] (by simp only [tys]) (by simp only [tys]) rfl (by decide) (by simp) (by simp [Heap.put_at, Heap.none_at, rowH_app]) (by simp [Heap.put_at, rowH_app]; rfl) rfl (by simp only [tys]; exact e4) (by rw [mx_len]; omega) ?_
            rw [← e3]
            repeat (first | refine X_opc rfl ?_ | refine X_dopc rfl ?_ | refine ⟨(by show drawK _ _ = true; kernel_rfl : drawX _ _ _), ?_⟩ | exact (by show drawK _ _ = true; kernel_rfl : drawX _ _ _) | simp -dsimp (maxSteps := 20000000) (disch := omega) only [simx, zzC, zzB, tys, ite_self, opnL, callB, callX, readsB, stepOp, nilCmp, ofVal, opBuiltin, opLen, PV.sk, scalBin, scalUn, intBin, opLoad, natOf, opConvert, opField, cellsP, oneP, Value.oneCell', opStore, toIV, scalT, scalA, scalC, boxesA, boxesC, zipB_none, zipB_mx, isZ, opZip, zeroP, opAppendZ, opMakeMap, opLookup, mboxB, opUpdate, ↓reduceIte, Nat.reduceSub, Nat.reduceEqDiff, Nat.reduceAdd, Nat.reduceMul, Nat.reduceLT, Nat.reduceLeDiff, Int.reduceToNat, Int.reduceLE, Int.reduceLT, Int.reduceNeg, reduceCtorEq, gos, Int.reduceAdd, Int.reduceSub, Int.reduceMul, Int.reduceEq, hJ])
            refine ⟨cj, (fgt_cons (by simp only [Heap.none_at]) (by (simp -dsimp only [zzB, tys, ite_self, opnL, callB, callX, readsB, stepOp, nilCmp, ofVal, opBuiltin, opLen, PV.sk, scalBin, scalUn, intBin, opLoad, natOf, opConvert, opField, cellsP, oneP, Value.oneCell', opStore, toIV, scalT, scalA, scalC, boxesA, boxesC, zipB_none, zipB_mx, isZ, opZip, zeroP, opAppendZ, opMakeMap, opLookup, mboxB, opUpdate, ↓reduceIte, Nat.reduceSub, Nat.reduceEqDiff, Nat.reduceAdd, Nat.reduceMul, Nat.reduceLT, Nat.reduceLeDiff, Int.reduceToNat, Int.reduceLE, Int.reduceLT, Int.reduceNeg, reduceCtorEq, notIn_cons, notIn_nil]) <;> simp [refsL, refsP, mem_refs_rowP]) (by repeat (first | exact noVar_none _ | refine noVar_row ?_ | refine noVar_map ?_ | refine noVar_rowH ?_ | refine noVar_var ?_ (by simp [refsL, refsP, mem_refs_rowP]))) (fgt_cons (by simp only [Heap.none_at]) (by (simp -dsimp only [zzB, tys, ite_self, opnL, callB, callX, readsB, stepOp, nilCmp, ofVal, opBuiltin, opLen, PV.sk, scalBin, scalUn, intBin, opLoad, natOf, opConvert, opField, cellsP, oneP, Value.oneCell', opStore, toIV, scalT, scalA, scalC, boxesA, boxesC, zipB_none, zipB_mx, isZ, opZip, zeroP, opAppendZ, opMakeMap, opLookup, mboxB, opUpdate, ↓reduceIte, Nat.reduceSub, Nat.reduceEqDiff, Nat.reduceAdd, Nat.reduceMul, Nat.reduceLT, Nat.reduceLeDiff, Int.reduceToNat, Int.reduceLE, Int.reduceLT, Int.reduceNeg, reduceCtorEq, notIn_cons, notIn_nil]) <;> simp [refsL, refsP, mem_refs_rowP]) (by repeat (first | exact noVar_none _ | refine noVar_row ?_ | refine noVar_map ?_ | refine noVar_rowH ?_ | refine noVar_var ?_ (by simp [refsL, refsP, mem_refs_rowP]))) (fgt_cons (by simp only [Heap.none_at]) (by (simp -dsimp only [zzB, tys, ite_self, opnL, callB, callX, readsB, stepOp, nilCmp, ofVal, opBuiltin, opLen, PV.sk, scalBin, scalUn, intBin, opLoad, natOf, opConvert, opField, cellsP, oneP, Value.oneCell', opStore, toIV, scalT, scalA, scalC, boxesA, boxesC, zipB_none, zipB_mx, isZ, opZip, zeroP, opAppendZ, opMakeMap, opLookup, mboxB, opUpdate, ↓reduceIte, Nat.reduceSub, Nat.reduceEqDiff, Nat.reduceAdd, Nat.reduceMul, Nat.reduceLT, Nat.reduceLeDiff, Int.reduceToNat, Int.reduceLE, Int.reduceLT, Int.reduceNeg, reduceCtorEq, notIn_cons, notIn_nil]) <;> simp [refsL, refsP, mem_refs_rowP]) (by repeat (first | exact noVar_none _ | refine noVar_row ?_ | refine noVar_map ?_ | refine noVar_rowH ?_ | refine noVar_var ?_ (by simp [refsL, refsP, mem_refs_rowP]))) (fgt_nil)))), ⟨?_, rfl⟩, ?_⟩
            · rw [hq', hJ]; simp
            · rw [hq', hJ]
              funext c
              simp (maxSteps := 20000000) only [Heap.drop_at, rowH_app, Heap.put_at, Heap.none_at, List.mem_cons, List.not_mem_nil, or_false]
              by_cases e0 : c = (1, 0) :: base
              · subst e0; simp [List.length_append, List.length_singleton, List.map_append, List.map_cons, List.map_nil]
              by_cases e1 : c = (12, 2) :: base
              · subst e1; simp [List.length_append, List.length_singleton, List.map_append, List.map_cons, List.map_nil]
              by_cases e2 : c = (12, 3) :: base
              · subst e2; simp [List.length_append, List.length_singleton, List.map_append, List.map_cons, List.map_nil]
              by_cases e3 : c = (13, 2) :: base
              · subst e3; simp [List.length_append, List.length_singleton, List.map_append, List.map_cons, List.map_nil]
              by_cases e4 : c = (13, 3) :: base
              · subst e4; simp [List.length_append, List.length_singleton, List.map_append, List.map_cons, List.map_nil]
              simp [e0, e1, e2, e3, e4, List.length_append, List.length_singleton, List.map_append, List.map_cons, List.map_nil]
    · have hj : j = l.length := by omega
      subst hj
      generalize (rgs l l.length).2 = s
      generalize (rgs l l.length).1 = out
      cases out with
      | nil =>
        repeat (first | refine X_opc rfl ?_ | refine X_dopc rfl ?_ | refine ⟨(by show drawK _ _ = true; kernel_rfl : drawX _ _ _), ?_⟩ | exact (by show drawK _ _ = true; kernel_rfl : drawX _ _ _) | simp -dsimp (maxSteps := 20000000) (disch := omega) only [simx, zzC, zzB, tys, ite_self, opnL, callB, callX, readsB, stepOp, nilCmp, ofVal, opBuiltin, opLen, PV.sk, scalBin, scalUn, intBin, opLoad, natOf, opConvert, opField, cellsP, oneP, Value.oneCell', opStore, toIV, scalT, scalA, scalC, boxesA, boxesC, zipB_none, zipB_mx, isZ, opZip, zeroP, opAppendZ, opMakeMap, opLookup, mboxB, opUpdate, ↓reduceIte, Nat.reduceSub, Nat.reduceEqDiff, Nat.reduceAdd, Nat.reduceMul, Nat.reduceLT, Nat.reduceLeDiff, Int.reduceToNat, Int.reduceLE, Int.reduceLT, Int.reduceNeg, reduceCtorEq, zzR, gos, Int.reduceAdd, Int.reduceSub, Int.reduceMul, Int.reduceEq, rowP_zero])
        rfl
      | cons r out =>
        have e1 : (r :: out).length = out.length + 1 := rfl
        have e2 : ((r :: out).map ivl).take (out.length + 1) = (r :: out).map ivl := List.take_of_length_le (by simp)
        have e3 : ((r :: out).map ivl).length = out.length + 1 := by simp
        rw [lli, e1]
        generalize (r :: out).map ivl = cs at e2 e3 ⊢
        repeat (first | refine X_opc rfl ?_ | refine X_dopc rfl ?_ | refine ⟨(by show drawK _ _ = true; kernel_rfl : drawX _ _ _), ?_⟩ | exact (by show drawK _ _ = true; kernel_rfl : drawX _ _ _) | simp -dsimp (maxSteps := 20000000) (disch := omega) only [simx, zzC, zzB, tys, ite_self, opnL, callB, callX, readsB, stepOp, nilCmp, ofVal, opBuiltin, opLen, PV.sk, scalBin, scalUn, intBin, opLoad, natOf, opConvert, opField, cellsP, oneP, Value.oneCell', opStore, toIV, scalT, scalA, scalC, boxesA, boxesC, zipB_none, zipB_mx, isZ, opZip, zeroP, opAppendZ, opMakeMap, opLookup, mboxB, opUpdate, ↓reduceIte, Nat.reduceSub, Nat.reduceEqDiff, Nat.reduceAdd, Nat.reduceMul, Nat.reduceLT, Nat.reduceLeDiff, Int.reduceToNat, Int.reduceLE, Int.reduceLT, Int.reduceNeg, reduceCtorEq, zzR, gos, Int.reduceAdd, Int.reduceSub, Int.reduceMul, Int.reduceEq, rowP_succ, rowH_succ, e2, e3])
end Go.Proofs.Ythnfphgjfpcpbaa.TM
