/- What is proved of functions, and plain facts, part 7. Conditions: none. -/
import Derived.Test.YtmalpmnmknpphaaSFoldSides6
set_option linter.defProp false
set_option linter.unusedSectionVars false
set_option linter.unusedSimpArgs false
set_option linter.unusedVariables false
namespace Go.Proofs.Ytmalpmnmknpphaa.TM
open Go Go.RowKit
theorem flat_getD {c : Nat} (f : Nat → List Int) : ∀ {n : Nat}, (∀ i, i < n → (f i).length = c) → ∀ {i k : Nat}, i < n → k < c → ((List.range n).flatMap f).getD (i * c + k) 0 = (f i).getD k 0
  | 0, _, _, _, hi, _ => by omega
  | n + 1, h, i, k, hi, hk => by
    have hl : ∀ m, m ≤ n → ((List.range m).flatMap f).length = m * c := by
      intro m hm
      induction m with
      | zero => simp
      | succ m ih => rw [List.range_succ, List.flatMap_append, List.length_append, ih (by omega), Nat.succ_mul]; simp [h m (by omega)]
    rw [List.range_succ, List.flatMap_append, List.getD_eq_getElem?_getD]
    by_cases e : i = n
    · subst e
      rw [List.getElem?_append_right (by rw [hl i (Nat.le_refl _)]; omega), hl i (Nat.le_refl _), show i * c + k - i * c = k by omega, List.getD_eq_getElem?_getD]; simp
    · have := ic_bd (c := c) (show i < n by omega)
      rw [List.getElem?_append_left (by rw [hl n (Nat.le_refl _)]; omega), ← List.getD_eq_getElem?_getD]
      exact flat_getD f (fun i hi => h i (by omega)) (by omega) hk
theorem mulM_cl {p : Int} {ar ac bc : Nat} {al bl : List Int} (ha : al.length = ar * ac) (hb : bl.length = ac * bc) {i k : Nat} (hi : i < ar) (hk : k < bc) :
    cl bc (mulM p ar ac al bc bl) i k = sumN ac (fun j => cl ac al i j * cl bc bl j k) % p := by
  have hr := rowM_len ha hi
  have ht := turnM_len ac bc bl
  unfold cl mulM
  rw [flat_getD (c := bc) (mulRow p ac al bc bl) (fun i _ => by rw [mulRow, timesM_len]) hi hk]
  unfold mulRow
  rw [timesM_tbl ht hr, tbl_getD _ hk]
  congr 1
  apply sumN_congr
  intro j hj
  rw [turn_cl bl hj hk, rowM_cl ha hi hj, Int.mul_comm]; rfl
theorem timesM_get {p : Int} {r c : Nat} {l x : List Int} (hl : l.length = r * c) (hx : x.length = c) {i : Nat} (hi : i < r) : (timesM p r c l x).getD i 0 = sumN c (fun k => cl c l i k * x.getD k 0) % p := by
  rw [timesM_tbl hl hx, tbl_getD _ hi]
def leftM (p : Int) (x : List Int) (r c : Nat) (l : List Int) : List Int := timesM p c r (turnM r c l) x
theorem leftM_len (p : Int) (x : List Int) (r c : Nat) (l : List Int) : (leftM p x r c l).length = c := timesM_len ..
theorem leftM_get {p : Int} {r c : Nat} {l x : List Int} (hx : x.length = r) {k : Nat} (hk : k < c) : (leftM p x r c l).getD k 0 = sumN r (fun i => x.getD i 0 * cl c l i k) % p := by
  unfold leftM
  rw [timesM_get (turnM_len r c l) hx hk]
  congr 1
  apply sumN_congr
  intro i hi
  rw [turn_cl l hi hk, Int.mul_comm]
where pick_cell' (C : Nat) (l cols : List Int) {m : Nat} (hm : m < cols.length) : ∀ (rows : List Int) (j : Nat), j < rows.length → (pickM C l rows cols).getD (j * cols.length + m) 0 = cl C l (rows.getD j 0).toNat (cols.getD m 0).toNat
  | [], j, h => by simp at h
  | i :: rows, 0, _ => by
    unfold pickM
    rw [List.flatMap_cons, List.getD_eq_getElem?_getD, List.getElem?_append_left (by simp [pickRow]; omega)]
    simp [pickRow, List.getElem?_eq_getElem hm]
  | i :: rows, j + 1, h => by
    have ih := pick_cell' C l cols hm rows j (by simpa using h)
    unfold pickM at ih ⊢
    rw [List.flatMap_cons, List.getD_eq_getElem?_getD, List.getElem?_append_right (by simp [pickRow, Nat.succ_mul]; omega)]
    rw [List.getD_eq_getElem?_getD] at ih
    rw [show (j + 1) * cols.length + m - (pickRow C l cols i).length = j * cols.length + m by simp [pickRow, Nat.succ_mul]; omega, ih]
    simp
theorem getD_mem {l : List Int} {i : Nat} (h : i < l.length) : l.getD i 0 ∈ l := by
  rw [List.getD_eq_getElem?_getD, List.getElem?_eq_getElem h]; exact List.getElem_mem h
theorem timesM_in {p : Int} (hp : 0 < p) {r c : Nat} {l x : List Int} : ∀ a ∈ timesM p r c l x, In p a := by
  intro a ha
  unfold timesM at ha
  obtain ⟨i, _, rfl⟩ := List.mem_map.1 ha
  exact emod_in _ hp
theorem mulM_in {p : Int} (hp : 0 < p) {r c d : Nat} {a b : List Int} : ∀ x ∈ mulM p r c a d b, In p x := by
  intro x hx
  unfold mulM at hx
  obtain ⟨i, _, h⟩ := List.mem_flatMap.1 hx
  exact timesM_in hp _ h
end Go.Proofs.Ytmalpmnmknpphaa.TM
namespace Go.Proofs.Ytmalpmnmknpphaa.TM
open Go Go.RowKit
def rwC (c : CupT) (k : Nat) : Nat := (c.1.getD k 0).toNat
def cwC (c : CupT) (k : Nat) : Nat := (c.2.1.getD k 0).toNat
def ccC (c : CupT) : Mx := fun i k => (c.2.2.1.getD i []).getD k 0
def uuC (c : CupT) : Mx := fun k j => (c.2.2.2.getD k []).getD j 0
abbrev CpC (P R C : Nat) (A : Mx) (c : CupT) : Prop := Cp P R C c.1.length A (rwC c) (cwC c) (ccC c) (uuC c)
theorem pad_get (r : Nat) (x : List Int) (k : Nat) : (padF r x).getD k 0 = x.getD k 0 := by
  unfold padF
  rw [List.getD_eq_getElem?_getD, List.getD_eq_getElem?_getD]
  by_cases h : k < x.length
  · rw [List.getElem?_append_left h]
  · rw [List.getElem?_append_right (by omega), List.getElem?_eq_none (l := x) (by omega), List.getElem?_replicate]
    split <;> rfl
theorem tkCup_Cp {P R C : Nat} {l : List Int} (hP : Prm P) (M : Mt P R C l) (hin : ∀ a ∈ l, In P a) : CpC P R C (cl C l) (tkCup P C R l) := by
  have K := tkN_C hP M.hp M.len hin R (Nat.le_refl R)
  have e1 : (tkCup P C R l).1.length = (tkN P C l R).us.length := K.I.rl
  have e2 : ccC (tkCup P C R l) = cF (tkN P C l R) := by
    funext i k
    show (((tkN P C l R).cs.map (padF (tkN P C l R).us.length)).getD i []).getD k 0 = (csF (tkN P C l R) i).getD k 0
    unfold csF
    by_cases h : i < (tkN P C l R).cs.length
    · rw [List.getD_eq_getElem?_getD (l := List.map _ _), List.getElem?_map, List.getElem?_eq_getElem h, Option.map_some, Option.getD_some, pad_get, List.getD_eq_getElem?_getD (l := (tkN P C l R).cs), List.getElem?_eq_getElem h]; rfl
    · rw [List.getD_eq_getElem?_getD (l := List.map _ _), List.getElem?_map, List.getElem?_eq_none (by omega), List.getD_eq_getElem?_getD (l := (tkN P C l R).cs), List.getElem?_eq_none (by omega)]; rfl
  unfold CpC
  rw [e1, e2]
  exact K.H
section
variable {P R C : Nat} {A : Mx} {c : CupT}
end
end Go.Proofs.Ytmalpmnmknpphaa.TM
namespace Go.Proofs.Ytmalpmnmknpphaa.TM
open Go Go.RowKit
theorem timesM_ap {p : Int} {R C : Nat} {l x : List Int} (hl : l.length = R * C) (hx : x.length = C) {i : Nat} (hi : i < R) : (timesM p R C l x).getD i 0 = apX C (cl C l) (fun j => x.getD j 0) i % p := timesM_get hl hx hi
theorem in_mod {p a : Int} (h : In p a) : a % p = a := Int.emod_eq_of_lt h.1 h.2
theorem list_ext0 {a b : List Int} {n : Nat} (ha : a.length = n) (hb : b.length = n) (h : ∀ i, i < n → a.getD i 0 = b.getD i 0) : a = b := by
  rw [tbl_of ha, tbl_of hb]; exact tbl_congr h
section
variable {P R C : Nat} {l b : List Int}
structure RowV (P R C : Nat) (l : List Int) (c : CupT) (i : Nat) (y : List Int) : Prop where
  len : y.length = R
  inn : ∀ a ∈ y, In P a
  one : y.getD i 0 = 1
  sup : ∀ m, m < R → m ≠ i → (∀ k, k < c.1.length → m ≠ rwC c k) → y.getD m 0 = 0
  zero : ∀ j, j < C → sumN R (fun m => y.getD m 0 * cl C l m j) % P = 0
theorem RowV.left {c : CupT} {i : Nat} {y : List Int} (hp : Md P) (V : RowV P R C l c i y) (hl : l.length = R * C) : leftM P y R C l = zeroV C :=
  list_ext0 (leftM_len ..) (zeroV_len C) fun k hk => by rw [leftM_get V.len hk, V.zero k hk]; exact (show (zeroV C).getD k 0 = 0 from tbl_getD _ hk).symm
end
end Go.Proofs.Ytmalpmnmknpphaa.TM
namespace Go.Proofs.Ytmalpmnmknpphaa.TM
open Go Go.RowKit
theorem zeroV_get0 {n i : Nat} (h : i < n) : (zeroV n).getD i 0 = 0 := tbl_getD _ h
def vecL (P n C : Nat) : List Int := tbl C (vec P n)
theorem vecL_len (P n C : Nat) : (vecL P n C).length = C := tbl_len ..
theorem vecL_get {P n C i : Nat} (h : i < C) : (vecL P n C).getD i 0 = vec P n i := tbl_getD _ h
theorem vecL_in {P : Nat} (h : 0 < P) (n C : Nat) : ∀ a ∈ vecL P n C, In P a := fun a ha => by
  obtain ⟨q, _, rfl⟩ := tbl_mem ha
  exact vec_in h n q
theorem cnt_le (f : Nat → Bool) : ∀ n, cntN n f ≤ n
  | 0 => Nat.le_refl 0
  | n + 1 => by rw [cntN]; have := cnt_le f n; split <;> omega
theorem rk_of {P R C : Nat} {l : List Int} (hP : Prm P) (M : Mt P R C l) (hin : ∀ a ∈ l, In P a) : Rk P R C (tkCup P C R l).1.length (cl C l) := ⟨_, _, _, _, tkCup_Cp hP M hin⟩
section
variable {P R C : Nat} {l b : List Int}
theorem ker_vec (hl : l.length = R * C) {n : Nat} : kB P R C (cl C l) n = true ↔ timesM P R C l (vecL P n C) = zeroV R := by
  have e : ∀ i, i < R → (timesM P R C l (vecL P n C)).getD i 0 = apX C (cl C l) (vec P n) i % P := fun i hi => by
    rw [timesM_ap hl (vecL_len ..) hi]
    congr 1
    exact sumN_congr fun j hj => by show cl C l i j * (vecL P n C).getD j 0 = _; rw [vecL_get hj]
  rw [kB_iff]
  constructor
  · intro h
    refine list_ext0 (timesM_len ..) (zeroV_len R) fun i hi => ?_
    rw [e i hi, h i hi, zeroV_get0 hi]
  · intro h i hi
    rw [← e i hi, h, zeroV_get0 hi]
theorem cnt_ker (hP : Prm P) (M : Mt P R C l) (hin : ∀ a ∈ l, In P a) : cntN (P ^ C) (kB P R C (cl C l)) = P ^ (C - (tkCup P C R l).1.length) := by
  have H := rk_of hP M hin
  have h1 := H.kc hP
  have h2 := H.le_cols hP
  have p0 : 0 < P := by have := hP.1; omega
  refine Nat.eq_of_mul_eq_mul_left (Nat.pow_pos (n := (tkCup P C R l).1.length) p0) ?_
  rw [h1, ← Nat.pow_add]
  congr 1; omega
theorem rank_zero (hP : Prm P) (M : Mt P R C l) (hin : ∀ a ∈ l, In P a) (h : (tkCup P C R l).1.length = 0) : l = zeroV (R * C) := by
  have H := tkCup_Cp hP M hin
  refine list_ext0 M.len (zeroV_len _) fun q hq => ?_
  rw [zeroV_get0 hq]
  have hC : 0 < C := M.c1
  have h1 : q / C < R := Nat.div_lt_of_lt_mul (by rw [Nat.mul_comm]; exact hq)
  have h2 := H.made (q / C) h1 (q % C) (Nat.mod_lt _ hC)
  rw [h] at h2
  have e : cl C l (q / C) (q % C) = l.getD q 0 := by
    unfold cl
    rw [show q / C * C + q % C = q by rw [Nat.mul_comm]; exact Nat.div_add_mod q C]
  rw [e, in_mod (getD_of hin (by rw [M.len]; exact hq))] at h2
  rw [h2]; simp [sumN]
end
def wrongM (P : Int) (m c : List Int) : List Int := tbl m.length (fun q => (m.getD q 0 - c.getD q 0) % P)
theorem wrongM_len (P : Int) (m c : List Int) : (wrongM P m c).length = m.length := tbl_len ..
theorem wrongM_in {P : Int} (hp : Md P) (m c : List Int) : ∀ a ∈ wrongM P m c, In P a := fun a ha => by
  obtain ⟨q, _, rfl⟩ := tbl_mem ha
  exact in_emod hp _
section
variable {P R S C : Nat} {a b c : List Int}
theorem wrong_cl (ha : a.length = R * S) (hb : b.length = S * C) (hc : c.length = R * C) {i j : Nat} (hi : i < R) (hj : j < C) : cl C (wrongM P (mulM P R S a C b) c) i j = (mulX S (cl S a) (cl C b) i j - cl C c i j) % P := by
  have h := mulM_cl (p := P) ha hb hi hj
  have := ic_bd (c := C) hi
  unfold wrongM cl
  rw [tbl_getD _ (by rw [mulM_len]; omega)]
  unfold cl at h
  rw [h]
  exact em_sub em_refl rfl
theorem wrong_mt (A : Mt P R S a) (B : Mt P S C b) : Mt P R C (wrongM P (mulM P R S a C b) c) :=
  ⟨A.hp, A.r1, A.r2, B.c1, B.c2, by rw [wrongM_len, mulM_len], fun x hx => (wrongM_in A.hp _ _ x hx).2⟩
theorem look_iff (ha : a.length = R * S) (hb : b.length = S * C) (hc : c.length = R * C) {x : List Int} (hx : x.length = C) :
    timesM P R S a (timesM P S C b x) = timesM P R C c x ↔ timesM P R C (wrongM P (mulM P R S a C b) c) x = zeroV R := by
  have wl : (wrongM P (mulM P R S a C b) c).length = R * C := by rw [wrongM_len, mulM_len]
  have e1 : ∀ i, i < R → (timesM P R S a (timesM P S C b x)).getD i 0 = apX C (mulX S (cl S a) (cl C b)) (fun j => x.getD j 0) i % P := fun i hi => by
    rw [timesM_ap ha (timesM_len ..) hi, apX_mul]
    exact sumN_mod fun k hk => em_mul rfl (by show (timesM P S C b x).getD k 0 % (P : Int) = _; rw [timesM_ap hb hx hk, em_refl])
  have e2 : ∀ i, i < R → (timesM P R C c x).getD i 0 = apX C (cl C c) (fun j => x.getD j 0) i % P := fun i hi => timesM_ap hc hx hi
  have e3 : ∀ i, i < R → (timesM P R C (wrongM P (mulM P R S a C b) c) x).getD i 0 = (apX C (mulX S (cl S a) (cl C b)) (fun j => x.getD j 0) i - apX C (cl C c) (fun j => x.getD j 0) i) % P := fun i hi => by
    rw [timesM_ap wl hx hi]
    unfold apX
    rw [← sumN_sub]
    refine sumN_mod fun j hj => ?_
    rw [wrong_cl ha hb hc hi hj, ← Int.sub_mul]
    exact em_mul em_refl rfl
  constructor
  · intro h
    refine list_ext0 (timesM_len ..) (zeroV_len R) fun i hi => ?_
    rw [e3 i hi, zeroV_get0 hi]
    have h1 := e1 i hi
    rw [h, e2 i hi] at h1
    exact emod_sub0.1 h1.symm
  · intro h
    refine list_ext0 (timesM_len ..) (timesM_len ..) fun i hi => ?_
    rw [e1 i hi, e2 i hi]
    have h1 := e3 i hi
    rw [h, zeroV_get0 hi] at h1
    exact emod_sub0.2 h1.symm
theorem wrong_turn (ha : a.length = R * S) (hb : b.length = S * C) (hc : c.length = R * C) {i j : Nat} (hi : i < R) (hj : j < C) :
    cl R (wrongM P (mulM P C S (turnM S C b) R (turnM R S a)) (turnM R C c)) j i = cl C (wrongM P (mulM P R S a C b) c) i j := by
  rw [wrong_cl (R := C) (S := S) (C := R) (turnM_len ..) (turnM_len ..) (turnM_len ..) hj hi, wrong_cl ha hb hc hi hj, turn_cl c hi hj]
  congr 2
  unfold mulX
  exact sumN_congr fun k hk => by rw [turn_cl b hk hj, turn_cl a hi hk, Int.mul_comm]
end
end Go.Proofs.Ytmalpmnmknpphaa.TM
namespace Go.Proofs.Ytmalpmnmknpphaa.TM
open Go
def lowerJB (h : Heap) (b : Name) (p : PV) : Option IV := if (boxesC p).contains b then none else lowerJ h p
def lowerCA (h : Heap) (b : Name) : PV → Option PV
  | .view c off z n top => if c = b then some (.view c off z n top) else match h c with
    | some (.var cs) => if cs.length = top ∧ off + n * z ≤ cs.length then (mapO (lowerJB h b) ((cs.drop off).take (n * z))).map fun xs => .i (.l n xs) else none
    | _ => lowerC h (.view c off z n top)
  | p => if (boxesC p).contains b then none else lowerC h p
def lowerAA (h : Heap) (b : Name) : PV → Option PV
  | .agg cs => (mapO (lowerCA h b) cs).map .agg
  | p => lowerCA h b p
def lowerTA (h : Heap) (b : Name) : PV → Option PV
  | .tup cs => (mapO (lowerAA h b) cs).map .tup
  | p => lowerAA h b p
section
variable {P : Program} {β : Pl} {h1 : Heap} {w : World} {b : Name} {cs0 : List IV}
theorem not_box {p : PV} (h : ¬ (boxesC p).contains b = true) : ∀ c ∈ boxesC p, c ≠ b := fun c hc e => h (by subst e; simpa using hc)
theorem lowerCA_rep (H1 : HInv β h1 w) {h' : Heap} (hb : h1 b = some (.row false cs0)) (hb' : h' b = some (.row false cs0)) {p q : PV} {v : Value} (hp : Rep β h1 w p v) (hl : lowerCA h1 b p = some q)
    (hR1 : ∀ a v, Rd β h1 w a v → Rd β h' w a v) (hR2 : ∀ c, c ≠ b → ∀ x, h1 c = some x → ∀ j v, w.cell? ⟨β c, j, none⟩ = some v → Rd β h' w ⟨β c, j, none⟩ v) : Rep β h' w q v := by
  have low : ∀ p q v, (∀ c ∈ boxesC p, c ≠ b) → Rep β h1 w p v → lowerC h1 p = some q → Rep β h' w q v := fun p q v hne hp hq =>
    lowerC_rep H1 hp hq (fun c _ fz cs hb => ⟨fz, hb⟩) hR1 fun c hc x hx j v hcell => hR2 c (hne c hc) x hx j v hcell
  unfold lowerCA at hl
  split at hl
  · rename_i c off z n top
    split at hl
    · rename_i hcb
      subst hcb
      cases hl
      cases hp with
      | view b' off z n top x a cap hbx hrow ht hn ha hv =>
        rw [hb] at hbx; cases hbx
        exact .view c off z n top _ a cap hb' rfl ht hn ha hv
    · rename_i hcb
      split at hl
      · rename_i cs hbv
        split at hl
        case isFalse => cases hl
        rename_i hc
        cases hm : mapO (lowerJB h1 b) ((cs.drop off).take (n * z)) with
        | none => simp [hm] at hl
        | some xs =>
          simp [hm] at hl
          subst hl
          obtain ⟨hlen, hg⟩ := mapO_get hm
          cases hp with
          | view _ _ _ _ _ x a cap hbx hrow ht hn ha hva =>
            rw [hbv] at hbx; cases hbx
            rcases hva hc.1 with ⟨h0, hc0, _⟩ | ⟨h0, hs0, _⟩
            · subst h0
              have : xs = [] := List.eq_nil_of_length_eq_zero (by rw [hlen]; simp)
              subst this
              cases a with
              | none => rw [hc0]; exact .i _ _ .nil
              | some a => exact .i _ _ (.l _ _ a cap (fun _ => undef) hn (fun j hj => by simp at hj) (fun j hj => by simp at hj) (fun j y hj => by simp at hj))
            · subst h0
              obtain ⟨c', e, hcc, hr, hcell⟩ := box_cell H1 hbv
              have hlen2 : ((cs.drop off).take (n * z)).length = n * z := by simp; omega
              refine .i _ _ (.l _ _ _ cap (fun j => c'.getD (off + j) undef) hn (fun j hj => ?_) (fun j hj => ?_) (fun j y hj => ?_))
              · rw [add_lit]
                exact hR2 c hcb _ hbv _ _ (hcell _ (by have := hr.1; omega))
              · have hlt : off + j < cs.length := by omega
                exact (hr.2 (off + j) cs[off + j] (List.getElem?_eq_getElem hlt)).1
              · have hjl : j < xs.length := (List.getElem?_eq_some_iff.1 hj).1
                have hj2 : j < ((cs.drop off).take (n * z)).length := by omega
                obtain ⟨x, hx, hxy⟩ := hg j _ (List.getElem?_eq_getElem hj2)
                rw [hxy] at hj; cases hj
                unfold lowerJB at hx
                split at hx
                case isTrue => cases hx
                rename_i hnb
                unfold lowerJ at hx
                split at hx
                · rename_i x' hlc
                  cases hx
                  have h7 := (hr.2 _ _ (take_drop_get (List.getElem?_eq_getElem hj2)).2).2
                  have h8 : Rep β h' w (.i _) (c'.getD (off + j) undef) := low _ _ _ (not_box hnb) h7 hlc
                  generalize c'.getD (off + j) undef = u at h8
                  cases h8 with | i _ _ h9 => exact h9
                · cases hx
      · exact low _ _ _ (fun d hd => by simp [boxesC] at hd; subst hd; exact hcb) hp hl
  · split at hl
    case isTrue => cases hl
    rename_i hnb
    exact low _ _ _ (not_box hnb) hp hl
theorem lowerAA_rep (H1 : HInv β h1 w) {h' : Heap} (hb : h1 b = some (.row false cs0)) (hb' : h' b = some (.row false cs0)) {p q : PV} {v : Value} (hp : Rep β h1 w p v) (hl : lowerAA h1 b p = some q)
    (hR1 : ∀ a v, Rd β h1 w a v → Rd β h' w a v) (hR2 : ∀ c, c ≠ b → ∀ x, h1 c = some x → ∀ j v, w.cell? ⟨β c, j, none⟩ = some v → Rd β h' w ⟨β c, j, none⟩ v) : Rep β h' w q v := by
  unfold lowerAA at hl
  split at hl
  · rename_i cs
    cases hm : mapO (lowerCA h1 b) cs with
    | none => simp [hm] at hl
    | some qs =>
      simp [hm] at hl
      subst hl
      obtain ⟨hlen, hg⟩ := mapO_get hm
      cases hp with
      | agg cs arr hla hs =>
        refine .agg _ _ (by omega) fun j x hj => ?_
        have hlt : j < cs.length := by rw [← hlen]; exact (List.getElem?_eq_some_iff.1 hj).1
        obtain ⟨y, hy, hqy⟩ := hg j _ (List.getElem?_eq_getElem hlt)
        rw [hqy] at hj; cases hj
        exact lowerCA_rep H1 hb hb' (hs j _ (List.getElem?_eq_getElem hlt)) hy hR1 hR2
  · exact lowerCA_rep H1 hb hb' hp hl hR1 hR2
theorem lowerTA_rep (H1 : HInv β h1 w) {h' : Heap} (hb : h1 b = some (.row false cs0)) (hb' : h' b = some (.row false cs0)) {p q : PV} {v : Value} (hp : Rep β h1 w p v) (hl : lowerTA h1 b p = some q)
    (hR1 : ∀ a v, Rd β h1 w a v → Rd β h' w a v) (hR2 : ∀ c, c ≠ b → ∀ x, h1 c = some x → ∀ j v, w.cell? ⟨β c, j, none⟩ = some v → Rd β h' w ⟨β c, j, none⟩ v) : Rep β h' w q v := by
  unfold lowerTA at hl
  split at hl
  · rename_i cs
    cases hm : mapO (lowerAA h1 b) cs with
    | none => simp [hm] at hl
    | some qs =>
      simp [hm] at hl
      subst hl
      obtain ⟨hlen, hg⟩ := mapO_get hm
      cases hp with
      | tup cs arr hla hs =>
        refine .tup _ _ (by omega) fun j x hj => ?_
        have hlt : j < cs.length := by rw [← hlen]; exact (List.getElem?_eq_some_iff.1 hj).1
        obtain ⟨y, hy, hqy⟩ := hg j _ (List.getElem?_eq_getElem hlt)
        rw [hqy] at hj; cases hj
        exact lowerAA_rep H1 hb hb' (hs j _ (List.getElem?_eq_getElem hlt)) hy hR1 hR2
  · exact lowerAA_rep H1 hb hb' hp hl hR1 hR2
end
theorem CallsA.of_low {P : Program} (hm : P.follows .mixedOrders = true) {g : FuncId} {args : List PV} {vf : Name → PV} {cs : List IV}
    (h : ∀ base, ∃ b u hu u', CallR P base g args Heap.none u hu ∧ hu b = some (.row false cs) ∧ lowerTA hu b u = some u' ∧ ∀ s, adoptT (Heap.none.put b (.row false cs)) b s u' = some (vf s)) : CallsA P g args vf cs := by
  intro base
  obtain ⟨b, u, hu, u', h1, hb, h2, h3⟩ := h base
  have hb' : (Heap.none.put b (.row false cs)) b = some (.row false cs) := by simp [Heap.put_at]
  have only : ∀ c x, (Heap.none.put b (.row false cs)) c = some x → c = b ∧ x = .row false cs := fun c x hx => by
    by_cases e : c = b
    · subst e; rw [hb'] at hx; cases hx; exact ⟨rfl, rfl⟩
    · rw [Heap.put_at, if_neg e] at hx; cases hx
  refine ⟨b, u', _, CallR.of_sound ?_, hb', h3⟩
  intro β w rargs H Hr
  refine (CallR_sound hm _ _ _ _ _ _ h1 β w rargs H Hr).mono ?_
  rintro e w' ⟨rv, β1, rfl, H1, hrep, E1⟩
  have hRd : ∀ a v, Rd β1 hu w' a v → Rd β1 (Heap.none.put b (.row false cs)) w' a v := fun a v hrd => ⟨⟨hrd.1.1, fun c x hc ho => by
    obtain ⟨rfl, rfl⟩ := only c x hc
    exact hrd.1.2 c _ hb rfl⟩, hrd.2⟩
  refine ⟨rv, β1, rfl, ⟨fun c c' x x' hc hc' _ => by rw [(only c x hc).1, (only c' x' hc').1], fun c x hc => by
    obtain ⟨rfl, rfl⟩ := only c x hc
    exact H1.nf c _ hb, H1.flt, fun c x hc => ?_⟩, ?_, ⟨E1.os, E1.tape, E1.output, E1.size, E1.F, fun blk hl hs => ⟨fun c x hc ho => ?_, (E1.stab blk hl hs).2⟩, fun c x hc => (by cases hc), E1.sz⟩⟩
  · obtain ⟨rfl, rfl⟩ := only c x hc
    obtain ⟨c2, e2, ho, hc1, hc2⟩ := H1.cells hb rfl
    exact ⟨_, ho, c2, e2, rfl, hc1, fun j y hj => ⟨(hc2 j y hj).1, (hc2 j y hj).2.mono hRd⟩⟩
  · refine lowerTA_rep H1 hb hb' hrep h2 hRd fun c hcb x hx j v hcell => ⟨⟨H1.nf c x hx, fun d y hd ho => ?_⟩, hcell⟩
    obtain ⟨rfl, rfl⟩ := only d y hd
    exact fun he => hcb (H1.inj _ c _ x hb hx he).symm
  · obtain ⟨rfl, rfl⟩ := only c x hc
    exact (E1.stab blk hl hs).1 c _ hb rfl
end Go.Proofs.Ytmalpmnmknpphaa.TM
namespace Go.Proofs.Ytmalpmnmknpphaa.TM
open Go Go.RowKit
theorem len_ok {P R C : Nat} {l : List Int} (M : Mt P R C l) : l.length ≤ maxLen := by have := M.len; have := rc_bd M.r2 M.c2; rw [mx_len]; omega
theorem timesR_in {P R C : Nat} {l x : List Int} (M : Mt P R C l) (hx : ∀ a ∈ x, In P a) (hl : x.length = C) : timesR P R C l x = (timesM P R C l x, 0) := by
  unfold timesR
  rw [mat_mk M, (has_iff _ _).2 ⟨fun a ha => (hx a ha).2, M.hp.1, M.hp.2⟩, decide_eq_true (show (x.length : Int) = C by omega)]; rfl
theorem mlR_in {P R C : Nat} {l x : List Int} (M : Mt P R C l) (hx : ∀ a ∈ x, In P a) (hl : x.length = R) : mlR P x R C l = (leftM P x R C l, 0) := by
  unfold mlR
  rw [mat_mk M, (has_iff _ _).2 ⟨fun a ha => (hx a ha).2, M.hp.1, M.hp.2⟩, decide_eq_true (show (x.length : Int) = R by omega)]; rfl
theorem w64_of_in {P : Int} (hp : Md P) {l : List Int} (h : ∀ a ∈ l, In P a) : W64s l := fun a ha => in_w64 hp (h a ha)
theorem times_of {P R C : Nat} {l x : List Int} (M : Mt P R C l) (hin : ∀ a ∈ l, In P a) (hx : ∀ a ∈ x, In P a) (hl : x.length = C) : CallsP Try.prog 57 [u64 P, matP R C l, lu x] (.tup [lu (timesM P R C l x), i64 0]) := by
  have h := times_walk P R C l x (len_ok M) (by rw [hl, mx_len]; have := M.c2; omega) (w64_of_in M.hp hin) (w64_of_in M.hp hx)
  rw [timesR_in M hx hl] at h; exact h
theorem left_of {P R C : Nat} {l x : List Int} (M : Mt P R C l) (hin : ∀ a ∈ l, In P a) (hx : ∀ a ∈ x, In P a) (hl : x.length = R) : CallsP Try.prog 62 [u64 P, lu x, matP R C l] (.tup [lu (leftM P x R C l), i64 0]) := by
  have h := left_walk P R C l x (len_ok M) (by rw [hl, mx_len]; have := M.r2; omega) (w64_of_in M.hp hin) (w64_of_in M.hp hx)
  rw [mlR_in M hx hl] at h; exact h
theorem timesM_inn {P R C : Nat} {l x : List Int} (hp : Md P) : ∀ a ∈ timesM P R C l x, In P a := timesM_in (by have := hp.1; omega)
end Go.Proofs.Ytmalpmnmknpphaa.TM
namespace Go.Proofs.Ytmalpmnmknpphaa.TM
open Go Go.RowKit
def sF (l : List Int) : Nat → Bool
  | 0 => true
  | k + 1 => if l.getD (k + 1) 0 < l.getD k 0 then false else sF l k
def begB (r : Nat) (b k v : List Int) : Bool := decide (b.length = r + 1) && (decide (b.getD 0 0 = 0) && (decide (b.getD r 0 = k.length) && (sF b r && decide (k.length = v.length))))
end Go.Proofs.Ytmalpmnmknpphaa.TM
namespace Go.Proofs.Ytmalpmnmknpphaa.TM
open Go Go.RowKit
theorem sF_adj {l : List Int} : ∀ {n : Nat}, sF l n = true → ∀ i, i < n → l.getD i 0 ≤ l.getD (i + 1) 0
  | 0, _, i, hi => by omega
  | n + 1, h, i, hi => by
    rw [sF] at h
    by_cases c : l.getD (n + 1) 0 < l.getD n 0
    · rw [if_pos c] at h; cases h
    · rw [if_neg c] at h
      by_cases e : i = n
      · subst e; omega
      · exact sF_adj h i (by omega)
theorem sF_lo {l : List Int} {n : Nat} (h : sF l n = true) : ∀ i, i ≤ n → l.getD 0 0 ≤ l.getD i 0
  | 0, _ => Int.le_refl _
  | i + 1, hi => Int.le_trans (sF_lo h i (by omega)) (sF_adj h i (by omega))
theorem sF_hi {l : List Int} {n : Nat} (h : sF l n = true) : ∀ d i, i + d = n → l.getD i 0 ≤ l.getD n 0
  | 0, i, hi => by have : i = n := by omega
                   subst this; exact Int.le_refl _
  | d + 1, i, hi => Int.le_trans (sF_adj h i (by omega)) (sF_hi h d (i + 1) (by omega))
def segI (b k : List Int) (i : Nat) : List Int := (k.drop (b.getD i 0).toNat).take ((b.getD (i + 1) 0).toNat - (b.getD i 0).toNat)
theorem beg_facts {r : Nat} {b k v : List Int} (h : begB r b k v = true) (i : Nat) (hi : i < r) : ∃ x y : Nat, b[i]? = some (x : Int) ∧ b[i + 1]? = some (y : Int) ∧ i < b.length ∧ i + 1 < b.length ∧ x ≤ y ∧ y ≤ k.length ∧ segI b k i = (k.drop x).take (y - x) := by
  simp only [begB, Bool.and_eq_true, decide_eq_true_eq] at h
  obtain ⟨h1, h2, h3, h4, h5⟩ := h
  have a1 := sF_adj h4 i hi
  have a2 := sF_lo h4 i (by omega)
  have a3 := sF_hi h4 (r - (i + 1)) (i + 1) (by omega)
  rw [h2] at a2
  rw [h3] at a3
  have l1 : i < b.length := by omega
  have l2 : i + 1 < b.length := by omega
  obtain ⟨x, hx⟩ := Int.eq_ofNat_of_zero_le a2
  obtain ⟨y, hy⟩ := Int.eq_ofNat_of_zero_le (Int.le_trans a2 a1)
  refine ⟨x, y, ?_, ?_, l1, l2, by omega, by omega, ?_⟩
  · rw [List.getElem?_eq_getElem l1, ← hx, List.getD_eq_getElem?_getD, List.getElem?_eq_getElem l1]; rfl
  · rw [List.getElem?_eq_getElem l2, ← hy, List.getD_eq_getElem?_getD, List.getElem?_eq_getElem l2]; rfl
  · unfold segI; rw [hx, hy]; rfl
end Go.Proofs.Ytmalpmnmknpphaa.TM
namespace Go.Proofs.Ytmalpmnmknpphaa.TM
open Go Go.RowKit
theorem rowP_pos (s : Name) (z : Nat) (cs : List IV) {n : Nat} (h : 0 < n) : rowP s z n cs = .view s 0 z n cs.length := by
  obtain ⟨m, rfl⟩ : ∃ m, n = m + 1 := ⟨n - 1, by omega⟩
  rfl
theorem rowH_pos (h : Heap) (s : Name) (cs : List IV) {n : Nat} (hn : 0 < n) : rowH h s n cs = h.put s (.row false cs) := by
  obtain ⟨m, rfl⟩ : ∃ m, n = m + 1 := ⟨n - 1, by omega⟩
  rfl
theorem risF_all : ∀ (l : List Int) (last most : Int), risF last l most = true → ∀ c ∈ l, last < c ∧ c < most
  | [], _, _, _, c, hc => by simp at hc
  | a :: l, last, most, h, c, hc => by
    rw [risF] at h
    by_cases e : a ≤ last ∨ most ≤ a
    · rw [if_pos e] at h; cases h
    · rw [if_neg e] at h
      rcases List.mem_cons.1 hc with rfl | hc
      · omega
      · have := risF_all l a most h c hc; omega
theorem risF_drop : ∀ (l : List Int) (last most : Int), risF last l most = true → ∀ i j, i < j → (hj : j < l.length) → l.getD i 0 < l.getD j 0
  | [], _, _, _, i, j, _, hj => by simp at hj
  | a :: l, last, most, h, i, j, hij, hj => by
    rw [risF] at h
    by_cases e : a ≤ last ∨ most ≤ a
    · rw [if_pos e] at h; cases h
    · rw [if_neg e] at h
      obtain ⟨m, rfl⟩ : ∃ m, j = m + 1 := ⟨j - 1, by omega⟩
      have hm : m < l.length := by simpa using hj
      have := risF_all l a most h (l.getD m 0) (by rw [List.getD_eq_getElem?_getD, List.getElem?_eq_getElem hm]; exact List.getElem_mem hm)
      cases i with
      | zero => simpa using this.1
      | succ i => simpa using risF_drop l a most h i m (by omega) hm
structure Sp (p : Int) (R C : Nat) (b k v : List Int) : Prop where
  hp : Md p
  r1 : 1 ≤ R
  r2 : R ≤ 64
  c1 : 1 ≤ C
  c2 : C ≤ 64
  beg : begB R b k v = true
  has : ∀ a ∈ v, a < p
  nz : (0 : Int) ∉ v
  ris : ∀ i, i < R → risF (-1) (segI b k i) C = true
theorem Sp.vlen {p : Int} {R C : Nat} {b k v : List Int} (h : Sp p R C b k v) : k.length = v.length := by
  have := h.beg
  simp only [begB, Bool.and_eq_true, decide_eq_true_eq] at this
  exact this.2.2.2.2
theorem Sp.row {p : Int} {R C : Nat} {b k v : List Int} (h : Sp p R C b k v) {i : Nat} (hi : i < R) :
    ∃ x y : Nat, b[i]? = some (x : Int) ∧ b[i + 1]? = some (y : Int) ∧ i < b.length ∧ i + 1 < b.length ∧ x ≤ y ∧ y ≤ k.length ∧ y ≤ v.length ∧ segI b k i = (k.drop x).take (y - x) ∧ segI b v i = (v.drop x).take (y - x) ∧ (segI b k i).length = y - x ∧ (segI b v i).length = y - x ∧
      (∀ c ∈ segI b k i, 0 ≤ c ∧ c < C) ∧ y - x ≤ C := by
  obtain ⟨x, y, g1, g2, l1, l2, xy, yk, sg⟩ := beg_facts h.beg i hi
  have hv := h.vlen
  have sv : segI b v i = (v.drop x).take (y - x) := by
    unfold segI
    rw [List.getD_eq_getElem?_getD, List.getD_eq_getElem?_getD, g1, g2]; rfl
  have ha : ∀ c ∈ segI b k i, 0 ≤ c ∧ c < C := by
    intro c hc
    have := risF_all _ _ _ (h.ris i hi) c hc
    omega
  have lk : (segI b k i).length = y - x := by rw [sg, List.length_take, List.length_drop]; omega
  refine ⟨x, y, g1, g2, l1, l2, xy, yk, by omega, sg, sv, lk, by rw [sv, List.length_take, List.length_drop]; omega, ha, ?_⟩
  have up : ∀ j, j < (segI b k i).length → (j : Int) ≤ (segI b k i).getD j 0 := by
    intro j
    induction j with
    | zero =>
      intro hj
      have := ha _ (by rw [List.getD_eq_getElem?_getD, List.getElem?_eq_getElem hj]; exact List.getElem_mem hj : (segI b k i).getD 0 0 ∈ segI b k i)
      simpa using this.1
    | succ j ih =>
      intro hj
      have h1 := ih (by omega)
      have h2 := risF_drop _ _ _ (h.ris i hi) j (j + 1) (by omega) hj
      omega
  rw [← lk]
  by_cases e : (segI b k i).length = 0
  · omega
  · have h1 := up ((segI b k i).length - 1) (by omega)
    have h2 := ha ((segI b k i).getD ((segI b k i).length - 1) 0) (by rw [List.getD_eq_getElem?_getD, List.getElem?_eq_getElem (show (segI b k i).length - 1 < (segI b k i).length by omega)]; exact List.getElem_mem _)
    omega
end Go.Proofs.Ytmalpmnmknpphaa.TM
namespace Go.Proofs.Ytmalpmnmknpphaa.TM
open Go Go.RowKit
attribute [local irreducible] K W WOps Effs Xg Xo Xr Xdg Xdo Xdr Xif CallsP CallR
set_option maxHeartbeats 4000000 in
theorem mul_ad {P R C D : Nat} {al bl : List Int} (M : Mt P R C al) (N : Mt P C D bl) (ia : ∀ x ∈ al, In P x) (ib : ∀ x ∈ bl, In P x) :
    CallsA Try.prog 60 [u64 P, matP R C al, matP C D bl] (fun s => .tup [.agg [i64 R, i64 D, .view s 0 1 (R * D) (R * D)], i64 0]) ((mulM P R C al D bl).map iu) := by
  refine CallsA.of_low mixed fun base => ?_
  have ha := len_ok M
  have hb := len_ok N
  have wa := w64_of_in M.hp ia
  have wb := w64_of_in M.hp ib
  have q1 := mright_walk P R C al ha
  have q2 := mright_walk P C D bl hb
  rw [mat_mk M] at q1
  rw [mat_mk N] at q2
  have r1 := M.r1
  have r2 := M.r2
  have c1 := M.c1
  have c2 := M.c2
  have d1 := N.c1
  have d2 := N.c2
  have bd := rc_bd r2 d2
  have hne : ¬ R * D = 0 := Nat.ne_of_gt (Nat.mul_pos (by omega) (by omega))
  have mle := mulM_len P C al D bl R
  have run : ∃ hu, CallR Try.prog base 60 [u64 P, matP R C al, matP C D bl] Heap.none (.tup [.agg [i64 R, i64 D, .view ((8, 3) :: base) 0 1 (R * D) (R * D)], i64 0]) hu ∧ hu ((8, 3) :: base) = some (.row false ((mulM P R C al D bl).map iu)) := by
    refine X_startE (n := 56) (m := 3) (rs := [.cell 6 25, .tmp 7]) Try.func60 rfl rfl rfl rfl (by decide) ?_
    repeat (first | ((first | refine X_call_fn2 rfl (by simp only [tys]) ?_ | refine X_dcall_fn2 rfl (by simp only [tys]) ?_); apply Exists.intro; apply And.intro; (focus (simp -dsimp only [simx, zzC, zzB, tys, ite_self, opnL, callB, callX, readsB, stepOp, nilCmp, ofVal, opBuiltin, opLen, PV.sk, scalBin, scalUn, intBin, opLoad, natOf, opConvert, opField, cellsP, oneP, Value.oneCell', opStore, toIV, scalT, scalA, scalC, boxesA, boxesC, zipB_none, zipB_mx, isZ, opZip, zeroP, opAppendZ, opMakeMap, opLookup, mboxB, opUpdate, ↓reduceIte, Nat.reduceSub, Nat.reduceEqDiff, Nat.reduceAdd, Nat.reduceMul, Nat.reduceLT, Nat.reduceLeDiff, Int.reduceToNat, Int.reduceLE, Int.reduceLT, Int.reduceNeg, reduceCtorEq, zzL, if_true, if_false] <;> rfl)); apply Exists.intro; apply And.intro; (focus (first | exact q1 | exact q2))) | refine X_opc rfl ?_ | refine X_dopc rfl ?_ | refine ⟨(by show drawK _ _ = true; kernel_rfl : drawX _ _ _), ?_⟩ | exact (by show drawK _ _ = true; kernel_rfl : drawX _ _ _) | simp -dsimp (maxSteps := 20000000) (disch := omega) only [simx, zzC, zzB, tys, ite_self, opnL, callB, callX, readsB, stepOp, nilCmp, ofVal, opBuiltin, opLen, PV.sk, scalBin, scalUn, intBin, opLoad, natOf, opConvert, opField, cellsP, oneP, Value.oneCell', opStore, toIV, scalT, scalA, scalC, boxesA, boxesC, zipB_none, zipB_mx, isZ, opZip, zeroP, opAppendZ, opMakeMap, opLookup, mboxB, opUpdate, ↓reduceIte, Nat.reduceSub, Nat.reduceEqDiff, Nat.reduceAdd, Nat.reduceMul, Nat.reduceLT, Nat.reduceLeDiff, Int.reduceToNat, Int.reduceLE, Int.reduceLT, Int.reduceNeg, reduceCtorEq, gos, Int.reduceAdd, Int.reduceSub, Int.reduceMul, Int.reduceEq])
    refine X_loopH [0, 4, 5, 6, 8, 36, 37] [] (0) (R) (fun j => True) (fun j => [(37, i64 j)]) (fun j => rowH ((((Heap.none.put ((0, 0) :: base) (.var [i64 R, i64 C, lu al])).put ((0, 1) :: base) (.var [i64 C, i64 D, lu bl])).put ((0, 2) :: base) (.var [i64 0, i64 0, nilP])).put ((3, 5) :: base) (.var [i64 R, i64 D, rowP ((8, 3) :: base) 1 (j * D) ((mulM P j C al D bl).map iu)])) ((8, 3) :: base) (j * D) ((mulM P j C al D bl).map iu)) ?_ ?_ ?_ ?_ ?_ (by decide) ?_
    · exact (fgt_nil)
    · ((simp -dsimp (disch := omega) only [simx, zzB, tys, ite_self, opnL, callB, callX, readsB, stepOp, nilCmp, ofVal, opBuiltin, opLen, PV.sk, scalBin, scalUn, intBin, opLoad, natOf, opConvert, opField, cellsP, oneP, Value.oneCell', opStore, toIV, scalT, scalA, scalC, boxesA, boxesC, zipB_none, zipB_mx, isZ, opZip, zeroP, opAppendZ, opMakeMap, opLookup, mboxB, opUpdate, ↓reduceIte, Nat.reduceSub, Nat.reduceEqDiff, Nat.reduceAdd, Nat.reduceMul, Nat.reduceLT, Nat.reduceLeDiff, Int.reduceToNat, Int.reduceLE, Int.reduceLT, Int.reduceNeg, reduceCtorEq, gos, Int.reduceAdd, Int.reduceSub, Int.reduceMul, Int.reduceEq]) <;> first | rfl | simp)
    · funext c
      simp (maxSteps := 20000000) only [Heap.drop_at, rowH_app, Heap.put_at, Heap.none_at, List.mem_cons, List.not_mem_nil, or_false]
      by_cases e0 : c = (0, 0) :: base
      · subst e0; simp [rowP]
      by_cases e1 : c = (0, 1) :: base
      · subst e1; simp [rowP]
      by_cases e2 : c = (0, 2) :: base
      · subst e2; simp [rowP]
      by_cases e3 : c = (3, 5) :: base
      · subst e3; simp [rowP]
      simp [e0, e1, e2, e3, rowP]
    · omega
    · trivial
    · intro j hj _
      by_cases cj : j < R
      · have g1 := row_walk M.len M.r2 M.c2 cj
        have rl := rowM_len M.len cj
        have g2 := left_walk P C D bl (rowM C al j) hb (by rw [rl, mx_len]; omega) wb (fun a h => wa a (rowM_mem h))
        rw [show mlR P (rowM C al j) C D bl = (mulRow P C al D bl j, 0) by
          unfold mlR mulRow
          rw [mat_mk N, show HasB P (rowM C al j) = true from (has_iff _ _).2 ⟨fun a h => M.has a (rowM_mem h), M.hp.1, M.hp.2⟩, decide_eq_true (show ((rowM C al j).length : Int) = C by rw [rl])]; rfl] at g2
        have tl : (mulRow P C al D bl j).length = D := by rw [mulRow, timesM_len]
        have ml := mulM_len P C al D bl j
        have nx := mulM_next P j C al D bl
        have sm : (j + 1) * D = j * D + D := Nat.succ_mul j D
        have b3 := ic_bd (c := D) cj
        clear M N q1 q2 wa wb ha hb ia ib
        repeat (first | ((first | refine X_call_fn2 rfl (by simp only [tys]) ?_ | refine X_dcall_fn2 rfl (by simp only [tys]) ?_); apply Exists.intro; apply And.intro; (focus (simp -dsimp only [simx, zzC, zzB, tys, ite_self, opnL, callB, callX, readsB, stepOp, nilCmp, ofVal, opBuiltin, opLen, PV.sk, scalBin, scalUn, intBin, opLoad, natOf, opConvert, opField, cellsP, oneP, Value.oneCell', opStore, toIV, scalT, scalA, scalC, boxesA, boxesC, zipB_none, zipB_mx, isZ, opZip, zeroP, opAppendZ, opMakeMap, opLookup, mboxB, opUpdate, ↓reduceIte, Nat.reduceSub, Nat.reduceEqDiff, Nat.reduceAdd, Nat.reduceMul, Nat.reduceLT, Nat.reduceLeDiff, Int.reduceToNat, Int.reduceLE, Int.reduceLT, Int.reduceNeg, reduceCtorEq, zzL, if_true, if_false] <;> rfl)); apply Exists.intro; apply And.intro; (focus (first | exact g1 | exact g2))) | refine X_opc rfl ?_ | refine X_dopc rfl ?_ | refine ⟨(by show drawK _ _ = true; kernel_rfl : drawX _ _ _), ?_⟩ | exact (by show drawK _ _ = true; kernel_rfl : drawX _ _ _) | simp -dsimp (maxSteps := 20000000) (disch := omega) only [simx, zzC, zzB, tys, ite_self, opnL, callB, callX, readsB, stepOp, nilCmp, ofVal, opBuiltin, opLen, PV.sk, scalBin, scalUn, intBin, opLoad, natOf, opConvert, opField, cellsP, oneP, Value.oneCell', opStore, toIV, scalT, scalA, scalC, boxesA, boxesC, zipB_none, zipB_mx, isZ, opZip, zeroP, opAppendZ, opMakeMap, opLookup, mboxB, opUpdate, ↓reduceIte, Nat.reduceSub, Nat.reduceEqDiff, Nat.reduceAdd, Nat.reduceMul, Nat.reduceLT, Nat.reduceLeDiff, Int.reduceToNat, Int.reduceLE, Int.reduceLT, Int.reduceNeg, reduceCtorEq, gos, Int.reduceAdd, Int.reduceSub, Int.reduceMul, Int.reduceEq, cj, lu, tl])
        refine X_append_list 22 [.int .u64 0] ((mulRow P C al D bl j).map iu) (by simp only [tys]) (by simp only [tys]) rfl (by decide) (by rw [List.length_map, ml, Nat.mul_one]) (by simp [Heap.put_at, Heap.none_at, rowH_app]) (by omega) (by rw [List.length_map, tl, Nat.mul_one]) (by simp only [tys]; omega) (by rw [mx_len]; omega) ?_
        have ep : rowP ((8, 3) :: base) 1 (j * D + D) ((mulM P j C al D bl).map iu ++ (mulRow P C al D bl j).map iu) = .view ((8, 3) :: base) 0 1 (j * D + D) ((mulM P j C al D bl).map iu ++ (mulRow P C al D bl j).map iu).length := if_neg (by omega)
        repeat (first | refine X_opc rfl ?_ | refine X_dopc rfl ?_ | refine ⟨(by show drawK _ _ = true; kernel_rfl : drawX _ _ _), ?_⟩ | exact (by show drawK _ _ = true; kernel_rfl : drawX _ _ _) | simp -dsimp (maxSteps := 20000000) (disch := omega) only [simx, zzC, zzB, tys, ite_self, opnL, callB, callX, readsB, stepOp, nilCmp, ofVal, opBuiltin, opLen, PV.sk, scalBin, scalUn, intBin, opLoad, natOf, opConvert, opField, cellsP, oneP, Value.oneCell', opStore, toIV, scalT, scalA, scalC, boxesA, boxesC, zipB_none, zipB_mx, isZ, opZip, zeroP, opAppendZ, opMakeMap, opLookup, mboxB, opUpdate, ↓reduceIte, Nat.reduceSub, Nat.reduceEqDiff, Nat.reduceAdd, Nat.reduceMul, Nat.reduceLT, Nat.reduceLeDiff, Int.reduceToNat, Int.reduceLE, Int.reduceLT, Int.reduceNeg, reduceCtorEq, gos, Int.reduceAdd, Int.reduceSub, Int.reduceMul, Int.reduceEq, ep])
        refine ⟨cj, (fgt_nil), rfl, ?_⟩
        rw [sm, nx, List.map_append, ep]
        have hd : ¬ D = 0 := by omega
        funext c
        simp (maxSteps := 20000000) only [Heap.drop_at, rowH_app, Heap.put_at, Heap.none_at, List.mem_cons, List.not_mem_nil, or_false]
        by_cases e0 : c = (0, 0) :: base
        · subst e0; simp [hd]
        by_cases e1 : c = (0, 1) :: base
        · subst e1; simp [hd]
        by_cases e2 : c = (0, 2) :: base
        · subst e2; simp [hd]
        by_cases e3 : c = (3, 5) :: base
        · subst e3; simp [hd]
        by_cases e4 : c = (8, 3) :: base
        · subst e4; simp [hd]
        simp [e0, e1, e2, e3, e4, hd]
      · have hj : j = R := by omega
        subst hj
        have ep : rowP ((8, 3) :: base) 1 (j * D) ((mulM P j C al D bl).map iu) = .view ((8, 3) :: base) 0 1 (j * D) (j * D) := by unfold rowP; rw [if_neg hne, List.length_map, mle]
        have rh := fun h s cs => rowH_pos h s cs (show 0 < j * D by omega)
        repeat (first | refine X_opc rfl ?_ | refine X_dopc rfl ?_ | refine ⟨(by show drawK _ _ = true; kernel_rfl : drawX _ _ _), ?_⟩ | exact (by show drawK _ _ = true; kernel_rfl : drawX _ _ _) | simp -dsimp (maxSteps := 20000000) (disch := omega) only [simx, zzC, zzB, tys, ite_self, opnL, callB, callX, readsB, stepOp, nilCmp, ofVal, opBuiltin, opLen, PV.sk, scalBin, scalUn, intBin, opLoad, natOf, opConvert, opField, cellsP, oneP, Value.oneCell', opStore, toIV, scalT, scalA, scalC, boxesA, boxesC, zipB_none, zipB_mx, isZ, opZip, zeroP, opAppendZ, opMakeMap, opLookup, mboxB, opUpdate, ↓reduceIte, Nat.reduceSub, Nat.reduceEqDiff, Nat.reduceAdd, Nat.reduceMul, Nat.reduceLT, Nat.reduceLeDiff, Int.reduceToNat, Int.reduceLE, Int.reduceLT, Int.reduceNeg, reduceCtorEq, zzR, gos, Int.reduceAdd, Int.reduceSub, Int.reduceMul, Int.reduceEq, hne, ep, rh, List.length_map, mle])
  obtain ⟨hu, h1, h2⟩ := run
  refine ⟨(8, 3) :: base, _, hu, .tup [.agg [i64 R, i64 D, .view ((8, 3) :: base) 0 1 (R * D) (R * D)], i64 0], h1, h2, ?_, fun s => ?_⟩
  · simp [lowerTA, lowerAA, lowerCA, lowerC, mapO, boxesC]
  · simp [adoptT, adoptA, adoptC, mapO, lowerC]
theorem wmeet_walk (p : Int) (r c : Int) (l : List Int) (r' c' : Int) (l' : List Int) (r'' c'' : Int) (l'' : List Int) (h1 : l.length ≤ maxLen) (h2 : l'.length ≤ maxLen) (h3 : l''.length ≤ maxLen) (m1 : MatB p r c l = true) (m2 : MatB p r' c' l' = true) (m3 : MatB p r'' c'' l'' = true) (e1 : c = r') (e2 : r'' = r) (e3 : c'' = c') :
    CallsP Try.prog 56 [u64 p, matP r c l, matP r' c' l', matP r'' c'' l''] (bl true) := by
  have q1 := mright_walk p r c l h1
  have q2 := mright_walk p r' c' l' h2
  have q3 := mright_walk p r'' c'' l'' h3
  subst e1 e2 e3
  rw [m1] at q1
  rw [m2] at q2
  rw [m3] at q3
  refine X_startP (n := 43) (m := 4) (rs := [.tmp 8]) Try.func56 rfl rfl rfl rfl (by decide) fun base => ?_
  repeat (first | ((first | refine X_call_fn2 rfl (by simp only [tys]) ?_ | refine X_dcall_fn2 rfl (by simp only [tys]) ?_); apply Exists.intro; apply And.intro; (focus (simp -dsimp only [simx, zzC, zzB, tys, ite_self, opnL, callB, callX, readsB, stepOp, nilCmp, ofVal, opBuiltin, opLen, PV.sk, scalBin, scalUn, intBin, opLoad, natOf, opConvert, opField, cellsP, oneP, Value.oneCell', opStore, toIV, scalT, scalA, scalC, boxesA, boxesC, zipB_none, zipB_mx, isZ, opZip, zeroP, opAppendZ, opMakeMap, opLookup, mboxB, opUpdate, ↓reduceIte, Nat.reduceSub, Nat.reduceEqDiff, Nat.reduceAdd, Nat.reduceMul, Nat.reduceLT, Nat.reduceLeDiff, Int.reduceToNat, Int.reduceLE, Int.reduceLT, Int.reduceNeg, reduceCtorEq, zzL, if_true, if_false] <;> rfl)); apply Exists.intro; apply And.intro; (focus (first | exact q1 | exact q2 | exact q3))) | refine X_opc rfl ?_ | refine X_dopc rfl ?_ | refine ⟨(by show drawK _ _ = true; kernel_rfl : drawX _ _ _), ?_⟩ | exact (by show drawK _ _ = true; kernel_rfl : drawX _ _ _) | simp -dsimp (maxSteps := 20000000) (disch := omega) only [simx, zzC, zzB, tys, ite_self, opnL, callB, callX, readsB, stepOp, nilCmp, ofVal, opBuiltin, opLen, PV.sk, scalBin, scalUn, intBin, opLoad, natOf, opConvert, opField, cellsP, oneP, Value.oneCell', opStore, toIV, scalT, scalA, scalC, boxesA, boxesC, zipB_none, zipB_mx, isZ, opZip, zeroP, opAppendZ, opMakeMap, opLookup, mboxB, opUpdate, ↓reduceIte, Nat.reduceSub, Nat.reduceEqDiff, Nat.reduceAdd, Nat.reduceMul, Nat.reduceLT, Nat.reduceLeDiff, Int.reduceToNat, Int.reduceLE, Int.reduceLT, Int.reduceNeg, reduceCtorEq, zzR, gos, Int.reduceAdd, Int.reduceSub, Int.reduceMul, Int.reduceEq])
section
variable {P R S C : Nat} {a b c : List Int}
theorem meet_of (A : Mt P R S a) (B : Mt P S C b) (K : Mt P R C c) : CallsP Try.prog 56 [u64 P, matP R S a, matP S C b, matP R C c] (bl true) :=
  wmeet_walk P R S a S C b R C c (len_ok A) (len_ok B) (len_ok K) (mat_mk A) (mat_mk B) (mat_mk K) rfl rfl rfl
theorem looks_of (A : Mt P R S a) (B : Mt P S C b) (K : Mt P R C c) (ia : ∀ x ∈ a, In P x) (ib : ∀ x ∈ b, In P x) (ic : ∀ x ∈ c, In P x) {x : List Int} (hx : ∀ y ∈ x, In P y) (hl : x.length = C) :
    CallsP Try.prog 15 [u64 P, matP R S a, matP S C b, matP R C c, lu x] (.tup [bl (decide (timesM P R S a (timesM P S C b x) = timesM P R C c x)), i64 0]) := by
  have q0 := meet_of A B K
  have q1 := times_of B ib hx hl
  have q2 := times_of A ia (timesM_inn A.hp (x := x) (l := b) (R := S) (C := C)) (timesM_len ..)
  have q3 := times_of K ic hx hl
  have q4 := equal_walk (timesM P R S a (timesM P S C b x)) (timesM P R C c x) (by rw [timesM_len, mx_len]; have := A.r2; omega)
  generalize timesM P R S a (timesM P S C b x) = y1 at *
  generalize timesM P S C b x = y2 at *
  generalize timesM P R C c x = y3 at *
  refine X_startP (n := 51) (m := 5) (rs := [.tmp 10, .tmp 11]) Try.func15 rfl rfl rfl rfl (by decide) fun base => ?_
  repeat (first | ((first | refine X_call_fn2 rfl (by simp only [tys]) ?_ | refine X_dcall_fn2 rfl (by simp only [tys]) ?_); apply Exists.intro; apply And.intro; (focus (simp -dsimp only [simx, zzC, zzB, tys, ite_self, opnL, callB, callX, readsB, stepOp, nilCmp, ofVal, opBuiltin, opLen, PV.sk, scalBin, scalUn, intBin, opLoad, natOf, opConvert, opField, cellsP, oneP, Value.oneCell', opStore, toIV, scalT, scalA, scalC, boxesA, boxesC, zipB_none, zipB_mx, isZ, opZip, zeroP, opAppendZ, opMakeMap, opLookup, mboxB, opUpdate, ↓reduceIte, Nat.reduceSub, Nat.reduceEqDiff, Nat.reduceAdd, Nat.reduceMul, Nat.reduceLT, Nat.reduceLeDiff, Int.reduceToNat, Int.reduceLE, Int.reduceLT, Int.reduceNeg, reduceCtorEq, zzL, if_true, if_false] <;> rfl)); apply Exists.intro; apply And.intro; (focus (first | exact q0 | exact q1 | exact q2 | exact q3 | exact q4))) | refine X_opc rfl ?_ | refine X_dopc rfl ?_ | refine ⟨(by show drawK _ _ = true; kernel_rfl : drawX _ _ _), ?_⟩ | exact (by show drawK _ _ = true; kernel_rfl : drawX _ _ _) | simp -dsimp (maxSteps := 20000000) (disch := omega) only [simx, zzC, zzB, tys, ite_self, opnL, callB, callX, readsB, stepOp, nilCmp, ofVal, opBuiltin, opLen, PV.sk, scalBin, scalUn, intBin, opLoad, natOf, opConvert, opField, cellsP, oneP, Value.oneCell', opStore, toIV, scalT, scalA, scalC, boxesA, boxesC, zipB_none, zipB_mx, isZ, opZip, zeroP, opAppendZ, opMakeMap, opLookup, mboxB, opUpdate, ↓reduceIte, Nat.reduceSub, Nat.reduceEqDiff, Nat.reduceAdd, Nat.reduceMul, Nat.reduceLT, Nat.reduceLeDiff, Int.reduceToNat, Int.reduceLE, Int.reduceLT, Int.reduceNeg, reduceCtorEq, zzR, gos, Int.reduceAdd, Int.reduceSub, Int.reduceMul, Int.reduceEq])
theorem left12_of (A : Mt P R S a) (B : Mt P S C b) (K : Mt P R C c) (ia : ∀ x ∈ a, In P x) (ib : ∀ x ∈ b, In P x) (ic : ∀ x ∈ c, In P x) {y : List Int} (hy : ∀ x ∈ y, In P x) (hl : y.length = R) :
    CallsP Try.prog 21 [u64 P, lu y, matP R S a, matP S C b, matP R C c] (.tup [bl (decide (leftM P (leftM P y R S a) S C b = leftM P y R C c)), i64 0]) := by
  have q0 := meet_of A B K
  have q1 := left_of A ia hy hl
  have q2 := left_of B ib (x := leftM P y R S a) (timesM_inn A.hp) (timesM_len ..)
  have q3 := left_of K ic hy hl
  have q4 := equal_walk (leftM P (leftM P y R S a) S C b) (leftM P y R C c) (by rw [leftM_len, mx_len]; have := B.c2; omega)
  generalize leftM P (leftM P y R S a) S C b = y1 at *
  generalize leftM P y R S a = y2 at *
  generalize leftM P y R C c = y3 at *
  refine X_startP (n := 51) (m := 5) (rs := [.tmp 10, .tmp 11]) Try.func21 rfl rfl rfl rfl (by decide) fun base => ?_
  repeat (first | ((first | refine X_call_fn2 rfl (by simp only [tys]) ?_ | refine X_dcall_fn2 rfl (by simp only [tys]) ?_); apply Exists.intro; apply And.intro; (focus (simp -dsimp only [simx, zzC, zzB, tys, ite_self, opnL, callB, callX, readsB, stepOp, nilCmp, ofVal, opBuiltin, opLen, PV.sk, scalBin, scalUn, intBin, opLoad, natOf, opConvert, opField, cellsP, oneP, Value.oneCell', opStore, toIV, scalT, scalA, scalC, boxesA, boxesC, zipB_none, zipB_mx, isZ, opZip, zeroP, opAppendZ, opMakeMap, opLookup, mboxB, opUpdate, ↓reduceIte, Nat.reduceSub, Nat.reduceEqDiff, Nat.reduceAdd, Nat.reduceMul, Nat.reduceLT, Nat.reduceLeDiff, Int.reduceToNat, Int.reduceLE, Int.reduceLT, Int.reduceNeg, reduceCtorEq, zzL, if_true, if_false] <;> rfl)); apply Exists.intro; apply And.intro; (focus (first | exact q0 | exact q1 | exact q2 | exact q3 | exact q4))) | refine X_opc rfl ?_ | refine X_dopc rfl ?_ | refine ⟨(by show drawK _ _ = true; kernel_rfl : drawX _ _ _), ?_⟩ | exact (by show drawK _ _ = true; kernel_rfl : drawX _ _ _) | simp -dsimp (maxSteps := 20000000) (disch := omega) only [simx, zzC, zzB, tys, ite_self, opnL, callB, callX, readsB, stepOp, nilCmp, ofVal, opBuiltin, opLen, PV.sk, scalBin, scalUn, intBin, opLoad, natOf, opConvert, opField, cellsP, oneP, Value.oneCell', opStore, toIV, scalT, scalA, scalC, boxesA, boxesC, zipB_none, zipB_mx, isZ, opZip, zeroP, opAppendZ, opMakeMap, opLookup, mboxB, opUpdate, ↓reduceIte, Nat.reduceSub, Nat.reduceEqDiff, Nat.reduceAdd, Nat.reduceMul, Nat.reduceLT, Nat.reduceLeDiff, Int.reduceToNat, Int.reduceLE, Int.reduceLT, Int.reduceNeg, reduceCtorEq, zzR, gos, Int.reduceAdd, Int.reduceSub, Int.reduceMul, Int.reduceEq])
def wrF (P : Int) (m c : List Int) (k q : Nat) : Int := if q < k then (m.getD q 0 - c.getD q 0) % P else m.getD q 0
theorem wrF_next {P : Int} {m c : List Int} {k : Nat} {v : Int} (hv : v = (m.getD k 0 - c.getD k 0) % P) : (fun q => if q = k then v else wrF P m c k q) = wrF P m c (k + 1) := by
  funext q
  unfold wrF
  by_cases h : q = k
  · rw [if_pos h, if_pos (by omega), h, hv]
  · rw [if_neg h]
    by_cases h2 : q < k
    · rw [if_pos h2, if_pos (by omega)]
    · rw [if_neg h2, if_neg (by omega)]
theorem wrF_end {P : Int} {m c : List Int} {n : Nat} (hn : m.length = n) : tbl n (wrF P m c n) = wrongM P m c := by
  unfold wrongM
  rw [hn]
  exact tbl_congr fun q hq => if_pos hq
set_option maxHeartbeats 4000000 in
theorem wrong_of (A : Mt P R S a) (B : Mt P S C b) (K : Mt P R C c) (ia : ∀ x ∈ a, In P x) (ib : ∀ x ∈ b, In P x) (ic : ∀ x ∈ c, In P x) :
    CallsP Try.prog 18 [u64 P, matP R S a, matP S C b, matP R C c] (.tup [matP R C (wrongM P (mulM P R S a C b) c), i64 0]) := by
  have q0 := meet_of A B K
  have q1 := mul_ad A B ia ib
  have hp := A.hp
  have min' : ∀ x ∈ mulM P R S a C b, In P x := mulM_in (by have := hp.1; omega)
  have ml := mulM_len P S a C b R
  obtain ⟨n, hn⟩ : ∃ n, n = R * C := ⟨_, rfl⟩
  have n0 : 0 < n := by rw [hn]; exact Nat.mul_pos (by have := A.r1; omega) (by have := B.c1; omega)
  have bd := rc_bd A.r2 B.c2
  rw [← hn] at q1 ml bd
  have cl' : c.length = n := by rw [hn]; exact K.len
  generalize mulM P R S a C b = m at *
  have we := wrF_end (P := P) (m := m) (c := c) ml
  have w0 : tbl n (wrF P m c 0) = m := by
    refine list_ext0 (tbl_len ..) ml fun q hq => ?_
    rw [tbl_getD _ hq]; unfold wrF; rw [if_neg (by omega)]
  have wat : ∀ k, wrF P m c k k = m.getD k 0 := fun k => by unfold wrF; rw [if_neg (by omega)]
  have wn : ∀ k v, v = (m.getD k 0 - c.getD k 0) % P → (fun q => if q = k then v else wrF P m c k q) = wrF P m c (k + 1) := fun k v hv => wrF_next hv
  have wlen := wrongM_len P m c
  rw [ml] at wlen
  have mg : ∀ q, q < n → In P (m.getD q 0) := fun q hq => getD_of min' (by omega)
  have cg : ∀ q, q < n → In P (c.getD q 0) := fun q hq => getD_of ic (by omega)
  rw [← we]
  obtain ⟨F, hF⟩ : ∃ F, F = wrF P m c := ⟨_, rfl⟩
  rw [← hF] at w0 wat wn we ⊢
  clear hF we
  have len : (n : Int) = c.length := by omega
  refine X_startP (n := 53) (m := 4) (rs := [.cell 8 25, .tmp 9]) Try.func18 rfl rfl rfl rfl (by decide) fun base => ?_
  repeat (first | ((first | refine X_call_fn2 rfl (by simp only [tys]) ?_ | refine X_dcall_fn2 rfl (by simp only [tys]) ?_); apply Exists.intro; apply And.intro; (focus (simp -dsimp only [simx, zzC, zzB, tys, ite_self, opnL, callB, callX, readsB, stepOp, nilCmp, ofVal, opBuiltin, opLen, PV.sk, scalBin, scalUn, intBin, opLoad, natOf, opConvert, opField, cellsP, oneP, Value.oneCell', opStore, toIV, scalT, scalA, scalC, boxesA, boxesC, zipB_none, zipB_mx, isZ, opZip, zeroP, opAppendZ, opMakeMap, opLookup, mboxB, opUpdate, ↓reduceIte, Nat.reduceSub, Nat.reduceEqDiff, Nat.reduceAdd, Nat.reduceMul, Nat.reduceLT, Nat.reduceLeDiff, Int.reduceToNat, Int.reduceLE, Int.reduceLT, Int.reduceNeg, reduceCtorEq, zzL, if_true, if_false] <;> rfl)); apply Exists.intro; apply And.intro; (focus (first | exact q0))) | refine X_opc rfl ?_ | refine X_dopc rfl ?_ | refine ⟨(by show drawK _ _ = true; kernel_rfl : drawX _ _ _), ?_⟩ | exact (by show drawK _ _ = true; kernel_rfl : drawX _ _ _) | simp -dsimp (maxSteps := 20000000) (disch := omega) only [simx, zzC, zzB, tys, ite_self, opnL, callB, callX, readsB, stepOp, nilCmp, ofVal, opBuiltin, opLen, PV.sk, scalBin, scalUn, intBin, opLoad, natOf, opConvert, opField, cellsP, oneP, Value.oneCell', opStore, toIV, scalT, scalA, scalC, boxesA, boxesC, zipB_none, zipB_mx, isZ, opZip, zeroP, opAppendZ, opMakeMap, opLookup, mboxB, opUpdate, ↓reduceIte, Nat.reduceSub, Nat.reduceEqDiff, Nat.reduceAdd, Nat.reduceMul, Nat.reduceLT, Nat.reduceLeDiff, Int.reduceToNat, Int.reduceLE, Int.reduceLT, Int.reduceNeg, reduceCtorEq, gos, Int.reduceAdd, Int.reduceSub, Int.reduceMul, Int.reduceEq])
  ((first | refine X_call_ad (q1) rfl (by simp only [tys]) (by (simp -dsimp only [simx, zzC, zzB, tys, ite_self, opnL, callB, callX, readsB, stepOp, nilCmp, ofVal, opBuiltin, opLen, PV.sk, scalBin, scalUn, intBin, opLoad, natOf, opConvert, opField, cellsP, oneP, Value.oneCell', opStore, toIV, scalT, scalA, scalC, boxesA, boxesC, zipB_none, zipB_mx, isZ, opZip, zeroP, opAppendZ, opMakeMap, opLookup, mboxB, opUpdate, ↓reduceIte, Nat.reduceSub, Nat.reduceEqDiff, Nat.reduceAdd, Nat.reduceMul, Nat.reduceLT, Nat.reduceLeDiff, Int.reduceToNat, Int.reduceLE, Int.reduceLT, Int.reduceNeg, reduceCtorEq, zzL, if_true, if_false] <;> rfl)) (by simp [Heap.put_at, Heap.none_at, rowH_app]) ?_ | refine X_dcall_ad (q1) rfl (by simp only [tys]) (by (simp -dsimp only [simx, zzC, zzB, tys, ite_self, opnL, callB, callX, readsB, stepOp, nilCmp, ofVal, opBuiltin, opLen, PV.sk, scalBin, scalUn, intBin, opLoad, natOf, opConvert, opField, cellsP, oneP, Value.oneCell', opStore, toIV, scalT, scalA, scalC, boxesA, boxesC, zipB_none, zipB_mx, isZ, opZip, zeroP, opAppendZ, opMakeMap, opLookup, mboxB, opUpdate, ↓reduceIte, Nat.reduceSub, Nat.reduceEqDiff, Nat.reduceAdd, Nat.reduceMul, Nat.reduceLT, Nat.reduceLeDiff, Int.reduceToNat, Int.reduceLE, Int.reduceLT, Int.reduceNeg, reduceCtorEq, zzL, if_true, if_false] <;> rfl)) (by simp [Heap.put_at, Heap.none_at, rowH_app]) ?_))
  repeat (first | refine X_opc rfl ?_ | refine X_dopc rfl ?_ | refine ⟨(by show drawK _ _ = true; kernel_rfl : drawX _ _ _), ?_⟩ | exact (by show drawK _ _ = true; kernel_rfl : drawX _ _ _) | simp -dsimp (maxSteps := 20000000) (disch := omega) only [simx, zzC, zzB, tys, ite_self, opnL, callB, callX, readsB, stepOp, nilCmp, ofVal, opBuiltin, opLen, PV.sk, scalBin, scalUn, intBin, opLoad, natOf, opConvert, opField, cellsP, oneP, Value.oneCell', opStore, toIV, scalT, scalA, scalC, boxesA, boxesC, zipB_none, zipB_mx, isZ, opZip, zeroP, opAppendZ, opMakeMap, opLookup, mboxB, opUpdate, ↓reduceIte, Nat.reduceSub, Nat.reduceEqDiff, Nat.reduceAdd, Nat.reduceMul, Nat.reduceLT, Nat.reduceLeDiff, Int.reduceToNat, Int.reduceLE, Int.reduceLT, Int.reduceNeg, reduceCtorEq, gos, Int.reduceAdd, Int.reduceSub, Int.reduceMul, Int.reduceEq, cl', SK.len])
  refine X_loopH [0, 8, 10, 29, 30, 31] [] (0) (n) (fun j => True) (fun j => [(31, i64 j)]) (fun j => ((((((Heap.none.put ((0, 0) :: base) (.var [i64 R, i64 S, lu a])).put ((0, 1) :: base) (.var [i64 S, i64 C, lu b])).put ((0, 2) :: base) (.var [i64 R, i64 C, lu c])).put ((0, 3) :: base) (.var [i64 0, i64 0, nilP])).put ((3, 3) :: base) (.row false ((tbl n (F j)).map iu))).put ((3, 7) :: base) (.var [i64 R, i64 C, .view ((3, 3) :: base) 0 1 n n]))) ?_ ?_ ?_ ?_ ?_ (by decide) ?_
  · exact (fgt_nil)
  · ((simp -dsimp (disch := omega) only [simx, zzB, tys, ite_self, opnL, callB, callX, readsB, stepOp, nilCmp, ofVal, opBuiltin, opLen, PV.sk, scalBin, scalUn, intBin, opLoad, natOf, opConvert, opField, cellsP, oneP, Value.oneCell', opStore, toIV, scalT, scalA, scalC, boxesA, boxesC, zipB_none, zipB_mx, isZ, opZip, zeroP, opAppendZ, opMakeMap, opLookup, mboxB, opUpdate, ↓reduceIte, Nat.reduceSub, Nat.reduceEqDiff, Nat.reduceAdd, Nat.reduceMul, Nat.reduceLT, Nat.reduceLeDiff, Int.reduceToNat, Int.reduceLE, Int.reduceLT, Int.reduceNeg, reduceCtorEq, gos, Int.reduceAdd, Int.reduceSub, Int.reduceMul, Int.reduceEq]) <;> first | rfl | simp)
  · rw [w0]
    funext c
    simp (maxSteps := 20000000) only [Heap.drop_at, rowH_app, Heap.put_at, Heap.none_at, List.mem_cons, List.not_mem_nil, or_false]
    by_cases e0 : c = (0, 0) :: base
    · subst e0; simp []
    by_cases e1 : c = (0, 1) :: base
    · subst e1; simp []
    by_cases e2 : c = (0, 2) :: base
    · subst e2; simp []
    by_cases e3 : c = (0, 3) :: base
    · subst e3; simp []
    by_cases e4 : c = (3, 3) :: base
    · subst e4; simp []
    by_cases e5 : c = (3, 7) :: base
    · subst e5; simp []
    simp [e0, e1, e2, e3, e4, e5]
  · omega
  · trivial
  · intro k hk _
    by_cases ck : k < n
    · have g1 : ((tbl n (F k)).map iu)[k]? = some (iu (m.getD k 0)) := by rw [List.getElem?_map, tbl_get? _ ck, wat]; rfl
      have g2 : (c.map iu)[k]? = some (iu (c.getD k 0)) := by rw [List.getElem?_map, getD_some cl' ck]; rfl
      have s1 := Sub_in hp (mg k ck) (cg k ck)
      have px := tbl_put_iu (F k) ((m.getD k 0 - c.getD k 0) % P) ck
      rw [wn k _ rfl] at px
      have tl := tbl_len n (F k)
      have kn : k + 1 ≤ n := ck
      clear q1 w0 wat wn
      generalize (m.getD k 0 - c.getD k 0) % (P : Int) = y at s1 px
      generalize m.getD k 0 = z at g1 s1
      generalize c.getD k 0 = z' at g2 s1
      repeat (first | ((first | refine X_call_fn2 rfl (by simp only [tys]) ?_ | refine X_dcall_fn2 rfl (by simp only [tys]) ?_); apply Exists.intro; apply And.intro; (focus (simp -dsimp only [simx, zzC, zzB, tys, ite_self, opnL, callB, callX, readsB, stepOp, nilCmp, ofVal, opBuiltin, opLen, PV.sk, scalBin, scalUn, intBin, opLoad, natOf, opConvert, opField, cellsP, oneP, Value.oneCell', opStore, toIV, scalT, scalA, scalC, boxesA, boxesC, zipB_none, zipB_mx, isZ, opZip, zeroP, opAppendZ, opMakeMap, opLookup, mboxB, opUpdate, ↓reduceIte, Nat.reduceSub, Nat.reduceEqDiff, Nat.reduceAdd, Nat.reduceMul, Nat.reduceLT, Nat.reduceLeDiff, Int.reduceToNat, Int.reduceLE, Int.reduceLT, Int.reduceNeg, reduceCtorEq, zzL, if_true, if_false] <;> rfl)); apply Exists.intro; apply And.intro; (focus (first | exact s1))) | refine X_opc rfl ?_ | refine X_dopc rfl ?_ | refine ⟨(by show drawK _ _ = true; kernel_rfl : drawX _ _ _), ?_⟩ | exact (by show drawK _ _ = true; kernel_rfl : drawX _ _ _) | simp -dsimp (maxSteps := 20000000) (disch := omega) only [simx, zzC, zzB, tys, ite_self, opnL, callB, callX, readsB, stepOp, nilCmp, ofVal, opBuiltin, opLen, PV.sk, scalBin, scalUn, intBin, opLoad, natOf, opConvert, opField, cellsP, oneP, Value.oneCell', opStore, toIV, scalT, scalA, scalC, boxesA, boxesC, zipB_none, zipB_mx, isZ, opZip, zeroP, opAppendZ, opMakeMap, opLookup, mboxB, opUpdate, ↓reduceIte, Nat.reduceSub, Nat.reduceEqDiff, Nat.reduceAdd, Nat.reduceMul, Nat.reduceLT, Nat.reduceLeDiff, Int.reduceToNat, Int.reduceLE, Int.reduceLT, Int.reduceNeg, reduceCtorEq, gos, Int.reduceAdd, Int.reduceSub, Int.reduceMul, Int.reduceEq, ck, g1, g2, tl, kn, cl', List.length_map, SK.len])
      refine ⟨ck, (fgt_nil), ?_, ?_⟩
      · rfl
      · rw [drop_nil, ← px]
        funext c
        simp (maxSteps := 20000000) only [Heap.drop_at, rowH_app, Heap.put_at, Heap.none_at, List.mem_cons, List.not_mem_nil, or_false]
        by_cases e0 : c = (0, 0) :: base
        · subst e0; simp []
        by_cases e1 : c = (0, 1) :: base
        · subst e1; simp []
        by_cases e2 : c = (0, 2) :: base
        · subst e2; simp []
        by_cases e3 : c = (0, 3) :: base
        · subst e3; simp []
        by_cases e4 : c = (3, 3) :: base
        · subst e4; simp []
        by_cases e5 : c = (3, 7) :: base
        · subst e5; simp []
        simp [e0, e1, e2, e3, e4, e5]
    · obtain rfl : n = k := by omega
      have tl := tbl_len n (F n)
      have tk : ((tbl n (F n)).map iu).take n = (tbl n (F n)).map iu := List.take_of_length_le (by rw [List.length_map, tl]; exact Nat.le_refl _)
      repeat (first | refine X_opc rfl ?_ | refine X_dopc rfl ?_ | refine ⟨(by show drawK _ _ = true; kernel_rfl : drawX _ _ _), ?_⟩ | exact (by show drawK _ _ = true; kernel_rfl : drawX _ _ _) | simp -dsimp (maxSteps := 20000000) (disch := omega) only [simx, zzC, zzB, tys, ite_self, opnL, callB, callX, readsB, stepOp, nilCmp, ofVal, opBuiltin, opLen, PV.sk, scalBin, scalUn, intBin, opLoad, natOf, opConvert, opField, cellsP, oneP, Value.oneCell', opStore, toIV, scalT, scalA, scalC, boxesA, boxesC, zipB_none, zipB_mx, isZ, opZip, zeroP, opAppendZ, opMakeMap, opLookup, mboxB, opUpdate, ↓reduceIte, Nat.reduceSub, Nat.reduceEqDiff, Nat.reduceAdd, Nat.reduceMul, Nat.reduceLT, Nat.reduceLeDiff, Int.reduceToNat, Int.reduceLE, Int.reduceLT, Int.reduceNeg, reduceCtorEq, zzR, gos, Int.reduceAdd, Int.reduceSub, Int.reduceMul, Int.reduceEq, tl, tk, List.length_map, lu])
      show _ = some (PV.tup [PV.agg [i64 R, i64 C, lu (tbl n (F n))], i64 0])
      rw [lu, tl]
end
end Go.Proofs.Ytmalpmnmknpphaa.TM
namespace Go.Proofs.Ytmalpmnmknpphaa.TM
open Go Go.RowKit
attribute [local irreducible] K W WOps Effs Xg Xo Xr Xdg Xdo Xdr Xif CallsP CallR
theorem vec_u64 {P n j : Nat} (hn : n < 18446744073709551616) : ((n / P ^ j : Nat) : Int) < 18446744073709551616 := by
  have := Nat.div_le_self n (P ^ j); omega
set_option maxHeartbeats 4000000 in
theorem vector12_walk {P : Nat} (hp : 1 ≤ P) (n C : Nat) (c1 : 1 ≤ C) (c2 : C ≤ 64) (hn : n < 18446744073709551616) : CallsP Try.prog 16 [u64 P, u64 n, i64 C] (lu (vecL P n C)) := by
  have p0 : ¬ (P : Int) = 0 := by omega
  unfold vecL
  have hq : ∀ j, (((n / P ^ j : Nat) : Int)) / (P : Int) = ((n / P ^ (j + 1) : Nat) : Int) := fun j => by
    rw [Nat.pow_succ, ← Nat.div_div_eq_div_mul]; rfl
  have hr : ∀ j, (((n / P ^ j : Nat) : Int)) % (P : Int) = vec P n j := fun j => rfl
  have hb : ∀ j, ((n / P ^ j : Nat) : Int) < 18446744073709551616 := fun j => vec_u64 hn
  have q0 : ((n : Nat) : Int) = ((n / P ^ 0 : Nat) : Int) := by rw [Nat.pow_zero, Nat.div_one]
  obtain ⟨F, hF⟩ : ∃ F, F = vec P n := ⟨_, rfl⟩
  obtain ⟨G, hG⟩ : ∃ G : Nat → Nat, G = fun j => n / P ^ j := ⟨_, rfl⟩
  have hq' : ∀ j, ((G j : Nat) : Int) / (P : Int) = ((G (j + 1) : Nat) : Int) := fun j => by rw [hG]; exact hq j
  have hr' : ∀ j, ((G j : Nat) : Int) % (P : Int) = F j := fun j => by rw [hG, hF]; exact hr j
  have hb' : ∀ j, ((G j : Nat) : Int) < 18446744073709551616 := fun j => by rw [hG]; exact hb j
  have q0' : ((n : Nat) : Int) = ((G 0 : Nat) : Int) := by rw [hG]; exact q0
  rw [← hF, q0']
  clear hq hr hb q0 hF hG q0'
  refine X_startP (n := 24) (m := 3) (rs := [.tmp 6]) Try.func16 rfl rfl rfl rfl (by decide) fun base => ?_
  repeat (first | refine X_opc rfl ?_ | refine X_dopc rfl ?_ | refine ⟨(by show drawK _ _ = true; kernel_rfl : drawX _ _ _), ?_⟩ | exact (by show drawK _ _ = true; kernel_rfl : drawX _ _ _) | simp -dsimp (maxSteps := 20000000) (disch := omega) only [simx, zzC, zzB, tys, ite_self, opnL, callB, callX, readsB, stepOp, nilCmp, ofVal, opBuiltin, opLen, PV.sk, scalBin, scalUn, intBin, opLoad, natOf, opConvert, opField, cellsP, oneP, Value.oneCell', opStore, toIV, scalT, scalA, scalC, boxesA, boxesC, zipB_none, zipB_mx, isZ, opZip, zeroP, opAppendZ, opMakeMap, opLookup, mboxB, opUpdate, ↓reduceIte, Nat.reduceSub, Nat.reduceEqDiff, Nat.reduceAdd, Nat.reduceMul, Nat.reduceLT, Nat.reduceLeDiff, Int.reduceToNat, Int.reduceLE, Int.reduceLT, Int.reduceNeg, reduceCtorEq, gos, Int.reduceAdd, Int.reduceSub, Int.reduceMul, Int.reduceEq])
  refine X_loopH [0, 1, 2, 7, 8] [(5, 4) :: base] (0) (C) (fun j => True) (fun j => [(1, u64 (G j : Int)), (7, rowP ((5, 5) :: base) 1 j ((tbl j F).map iu)), (8, i64 j)]) (fun j => rowH Heap.none ((5, 5) :: base) j ((tbl j F).map iu)) ?_ ?_ ?_ ?_ ?_ (by decide) ?_
  · exact (fgt_cons (by simp only [Heap.none_at]) (by (simp -dsimp only [zzB, tys, ite_self, opnL, callB, callX, readsB, stepOp, nilCmp, ofVal, opBuiltin, opLen, PV.sk, scalBin, scalUn, intBin, opLoad, natOf, opConvert, opField, cellsP, oneP, Value.oneCell', opStore, toIV, scalT, scalA, scalC, boxesA, boxesC, zipB_none, zipB_mx, isZ, opZip, zeroP, opAppendZ, opMakeMap, opLookup, mboxB, opUpdate, ↓reduceIte, Nat.reduceSub, Nat.reduceEqDiff, Nat.reduceAdd, Nat.reduceMul, Nat.reduceLT, Nat.reduceLeDiff, Int.reduceToNat, Int.reduceLE, Int.reduceLT, Int.reduceNeg, reduceCtorEq, notIn_cons, notIn_nil]) <;> simp [refsL, refsP, mem_refs_rowP]) (by repeat (first | exact noVar_none _ | refine noVar_row ?_ | refine noVar_map ?_ | refine noVar_rowH ?_ | refine noVar_var ?_ (by simp [refsL, refsP, mem_refs_rowP]))) (fgt_nil))
  · ((simp -dsimp (disch := omega) only [simx, zzB, tys, ite_self, opnL, callB, callX, readsB, stepOp, nilCmp, ofVal, opBuiltin, opLen, PV.sk, scalBin, scalUn, intBin, opLoad, natOf, opConvert, opField, cellsP, oneP, Value.oneCell', opStore, toIV, scalT, scalA, scalC, boxesA, boxesC, zipB_none, zipB_mx, isZ, opZip, zeroP, opAppendZ, opMakeMap, opLookup, mboxB, opUpdate, ↓reduceIte, Nat.reduceSub, Nat.reduceEqDiff, Nat.reduceAdd, Nat.reduceMul, Nat.reduceLT, Nat.reduceLeDiff, Int.reduceToNat, Int.reduceLE, Int.reduceLT, Int.reduceNeg, reduceCtorEq, gos, Int.reduceAdd, Int.reduceSub, Int.reduceMul, Int.reduceEq]) <;> first | rfl | simp [rowP])
  · funext c
    simp (maxSteps := 20000000) only [Heap.drop_at, rowH_app, Heap.put_at, Heap.none_at, List.mem_cons, List.not_mem_nil, or_false]
    by_cases e0 : c = (5, 4) :: base
    · subst e0; simp []
    by_cases e1 : c = (5, 5) :: base
    · subst e1; simp []
    simp [e0, e1]
  · omega
  · trivial
  · intro j hj _
    by_cases cj : j < C
    · have t1 := tbl_succ j F
      have l1 := tbl_len j F
      have h1 := hq' j
      have h2 := hr' j
      have h3 := hb' j
      have h5 : IntKind.u64.wrap ((G (j + 1) : Nat) : Int) = ((G (j + 1) : Nat) : Int) := uw_of (by omega) (hb' (j + 1))
      generalize F j = s at h2 t1
      generalize hg : G (j + 1) = g' at h1 h5
      generalize G j = g at h1 h2 h3 ⊢
      repeat (first | refine X_opc rfl ?_ | refine X_dopc rfl ?_ | refine ⟨(by show drawK _ _ = true; kernel_rfl : drawX _ _ _), ?_⟩ | exact (by show drawK _ _ = true; kernel_rfl : drawX _ _ _) | simp -dsimp (maxSteps := 20000000) (disch := omega) only [simx, zzC, zzB, tys, ite_self, opnL, callB, callX, readsB, stepOp, nilCmp, ofVal, opBuiltin, opLen, PV.sk, scalBin, scalUn, intBin, opLoad, natOf, opConvert, opField, cellsP, oneP, Value.oneCell', opStore, toIV, scalT, scalA, scalC, boxesA, boxesC, zipB_none, zipB_mx, isZ, opZip, zeroP, opAppendZ, opMakeMap, opLookup, mboxB, opUpdate, ↓reduceIte, Nat.reduceSub, Nat.reduceEqDiff, Nat.reduceAdd, Nat.reduceMul, Nat.reduceLT, Nat.reduceLeDiff, Int.reduceToNat, Int.reduceLE, Int.reduceLT, Int.reduceNeg, reduceCtorEq, gos, Int.reduceAdd, Int.reduceSub, Int.reduceMul, Int.reduceEq, cj, p0, h2])
      refine X_append_one 22 [.int .u64 0] [iu s] (by simp only [tys]) (by simp only [tys]) rfl (by decide) (by rw [List.length_map, l1, Nat.mul_one]) (by simp [Heap.put_at, Heap.none_at, rowH_app]) (by simp [Heap.put_at]; rfl) rfl (by simp only [tys]; omega) (by rw [mx_len]; omega) ?_
      repeat (first | refine X_opc rfl ?_ | refine X_dopc rfl ?_ | refine ⟨(by show drawK _ _ = true; kernel_rfl : drawX _ _ _), ?_⟩ | exact (by show drawK _ _ = true; kernel_rfl : drawX _ _ _) | simp -dsimp (maxSteps := 20000000) (disch := omega) only [simx, zzC, zzB, tys, ite_self, opnL, callB, callX, readsB, stepOp, nilCmp, ofVal, opBuiltin, opLen, PV.sk, scalBin, scalUn, intBin, opLoad, natOf, opConvert, opField, cellsP, oneP, Value.oneCell', opStore, toIV, scalT, scalA, scalC, boxesA, boxesC, zipB_none, zipB_mx, isZ, opZip, zeroP, opAppendZ, opMakeMap, opLookup, mboxB, opUpdate, ↓reduceIte, Nat.reduceSub, Nat.reduceEqDiff, Nat.reduceAdd, Nat.reduceMul, Nat.reduceLT, Nat.reduceLeDiff, Int.reduceToNat, Int.reduceLE, Int.reduceLT, Int.reduceNeg, reduceCtorEq, gos, Int.reduceAdd, Int.reduceSub, Int.reduceMul, Int.reduceEq, cj, p0, h1, h5])
      refine ⟨cj, (fgt_cons (by simp only [Heap.none_at]) (by (simp -dsimp only [zzB, tys, ite_self, opnL, callB, callX, readsB, stepOp, nilCmp, ofVal, opBuiltin, opLen, PV.sk, scalBin, scalUn, intBin, opLoad, natOf, opConvert, opField, cellsP, oneP, Value.oneCell', opStore, toIV, scalT, scalA, scalC, boxesA, boxesC, zipB_none, zipB_mx, isZ, opZip, zeroP, opAppendZ, opMakeMap, opLookup, mboxB, opUpdate, ↓reduceIte, Nat.reduceSub, Nat.reduceEqDiff, Nat.reduceAdd, Nat.reduceMul, Nat.reduceLT, Nat.reduceLeDiff, Int.reduceToNat, Int.reduceLE, Int.reduceLT, Int.reduceNeg, reduceCtorEq, notIn_cons, notIn_nil]) <;> simp [refsL, refsP, mem_refs_rowP]) (by repeat (first | exact noVar_none _ | refine noVar_row ?_ | refine noVar_map ?_ | refine noVar_rowH ?_ | refine noVar_var ?_ (by simp [refsL, refsP, mem_refs_rowP]))) (fgt_nil)), ?_, ?_⟩
      · rw [t1, hg]; simp
      · funext c
        simp (maxSteps := 20000000) only [Heap.drop_at, rowH_app, Heap.put_at, Heap.none_at, List.mem_cons, List.not_mem_nil, or_false]
        by_cases e0 : c = (5, 4) :: base
        · subst e0; simp [t1]
        by_cases e1 : c = (5, 5) :: base
        · subst e1; simp [t1]
        simp [e0, e1, t1]
    · obtain rfl : C = j := by omega
      have rp := fun s z cs => rowP_pos s z cs (show 0 < C by omega)
      have rh := fun h s cs => rowH_pos h s cs (show 0 < C by omega)
      have l1 := tbl_len C F
      have e2 : ((tbl C F).map iu).take C = (tbl C F).map iu := List.take_of_length_le (by rw [List.length_map, l1]; exact Nat.le_refl _)
      repeat (first | refine X_opc rfl ?_ | refine X_dopc rfl ?_ | refine ⟨(by show drawK _ _ = true; kernel_rfl : drawX _ _ _), ?_⟩ | exact (by show drawK _ _ = true; kernel_rfl : drawX _ _ _) | simp -dsimp (maxSteps := 20000000) (disch := omega) only [simx, zzC, zzB, tys, ite_self, opnL, callB, callX, readsB, stepOp, nilCmp, ofVal, opBuiltin, opLen, PV.sk, scalBin, scalUn, intBin, opLoad, natOf, opConvert, opField, cellsP, oneP, Value.oneCell', opStore, toIV, scalT, scalA, scalC, boxesA, boxesC, zipB_none, zipB_mx, isZ, opZip, zeroP, opAppendZ, opMakeMap, opLookup, mboxB, opUpdate, ↓reduceIte, Nat.reduceSub, Nat.reduceEqDiff, Nat.reduceAdd, Nat.reduceMul, Nat.reduceLT, Nat.reduceLeDiff, Int.reduceToNat, Int.reduceLE, Int.reduceLT, Int.reduceNeg, reduceCtorEq, zzR, gos, Int.reduceAdd, Int.reduceSub, Int.reduceMul, Int.reduceEq, rp, rh, List.length_map, l1, e2, lu])
end Go.Proofs.Ytmalpmnmknpphaa.TM
namespace Go.Proofs.Ytmalpmnmknpphaa.TM
open Go Go.RowKit
attribute [local irreducible] K W WOps Effs Xg Xo Xr Xdg Xdo Xdr Xif CallsP CallR
theorem short_walk (r c : Int) (l : List Int) : CallsP Try.prog 54 [matP r c l] (bl (decide ((l.length : Int) ≤ 150))) := by
  by_cases h : (l.length : Int) ≤ 150
  · rw [decide_eq_true h]
    refine X_startP (n := 7) (m := 1) (rs := [.tmp 2]) Try.func54 rfl rfl rfl rfl (by decide) fun base => ?_
    repeat (first | refine X_opc rfl ?_ | refine X_dopc rfl ?_ | refine ⟨(by show drawK _ _ = true; kernel_rfl : drawX _ _ _), ?_⟩ | exact (by show drawK _ _ = true; kernel_rfl : drawX _ _ _) | simp -dsimp (maxSteps := 20000000) (disch := omega) only [simx, zzC, zzB, tys, ite_self, opnL, callB, callX, readsB, stepOp, nilCmp, ofVal, opBuiltin, opLen, PV.sk, scalBin, scalUn, intBin, opLoad, natOf, opConvert, opField, cellsP, oneP, Value.oneCell', opStore, toIV, scalT, scalA, scalC, boxesA, boxesC, zipB_none, zipB_mx, isZ, opZip, zeroP, opAppendZ, opMakeMap, opLookup, mboxB, opUpdate, ↓reduceIte, Nat.reduceSub, Nat.reduceEqDiff, Nat.reduceAdd, Nat.reduceMul, Nat.reduceLT, Nat.reduceLeDiff, Int.reduceToNat, Int.reduceLE, Int.reduceLT, Int.reduceNeg, reduceCtorEq, zzR, gos, Int.reduceAdd, Int.reduceSub, Int.reduceMul, Int.reduceEq])
  · rw [decide_eq_false h]
    refine X_startP (n := 7) (m := 1) (rs := [.tmp 2]) Try.func54 rfl rfl rfl rfl (by decide) fun base => ?_
    repeat (first | refine X_opc rfl ?_ | refine X_dopc rfl ?_ | refine ⟨(by show drawK _ _ = true; kernel_rfl : drawX _ _ _), ?_⟩ | exact (by show drawK _ _ = true; kernel_rfl : drawX _ _ _) | simp -dsimp (maxSteps := 20000000) (disch := omega) only [simx, zzC, zzB, tys, ite_self, opnL, callB, callX, readsB, stepOp, nilCmp, ofVal, opBuiltin, opLen, PV.sk, scalBin, scalUn, intBin, opLoad, natOf, opConvert, opField, cellsP, oneP, Value.oneCell', opStore, toIV, scalT, scalA, scalC, boxesA, boxesC, zipB_none, zipB_mx, isZ, opZip, zeroP, opAppendZ, opMakeMap, opLookup, mboxB, opUpdate, ↓reduceIte, Nat.reduceSub, Nat.reduceEqDiff, Nat.reduceAdd, Nat.reduceMul, Nat.reduceLT, Nat.reduceLeDiff, Int.reduceToNat, Int.reduceLE, Int.reduceLT, Int.reduceNeg, reduceCtorEq, zzR, gos, Int.reduceAdd, Int.reduceSub, Int.reduceMul, Int.reduceEq])
def sameMB (r c : Int) (l : List Int) (r' c' : Int) (l' : List Int) : Bool := decide (r = r') && (decide (c = c') && decide (l = l'))
theorem msame_walk (r c : Int) (l : List Int) (r' c' : Int) (l' : List Int) (hl : l.length ≤ maxLen) : CallsP Try.prog 51 [matP r c l, matP r' c' l'] (bl (sameMB r c l r' c' l')) := by
  have q := same_walk l l' hl
  unfold sameMB
  generalize decide (l = l') = s at q
  by_cases h1 : r = r'
  · rw [decide_eq_true h1]
    by_cases h2 : c = c'
    · rw [decide_eq_true h2]
      refine X_startP (n := 24) (m := 2) (rs := [.tmp 4]) Try.func51 rfl rfl rfl rfl (by decide) fun base => ?_
      repeat (first | ((first | refine X_call_fn2 rfl (by simp only [tys]) ?_ | refine X_dcall_fn2 rfl (by simp only [tys]) ?_); apply Exists.intro; apply And.intro; (focus (simp -dsimp only [simx, zzC, zzB, tys, ite_self, opnL, callB, callX, readsB, stepOp, nilCmp, ofVal, opBuiltin, opLen, PV.sk, scalBin, scalUn, intBin, opLoad, natOf, opConvert, opField, cellsP, oneP, Value.oneCell', opStore, toIV, scalT, scalA, scalC, boxesA, boxesC, zipB_none, zipB_mx, isZ, opZip, zeroP, opAppendZ, opMakeMap, opLookup, mboxB, opUpdate, ↓reduceIte, Nat.reduceSub, Nat.reduceEqDiff, Nat.reduceAdd, Nat.reduceMul, Nat.reduceLT, Nat.reduceLeDiff, Int.reduceToNat, Int.reduceLE, Int.reduceLT, Int.reduceNeg, reduceCtorEq, zzL, if_true, if_false] <;> rfl)); apply Exists.intro; apply And.intro; (focus (first | exact q))) | refine X_opc rfl ?_ | refine X_dopc rfl ?_ | refine ⟨(by show drawK _ _ = true; kernel_rfl : drawX _ _ _), ?_⟩ | exact (by show drawK _ _ = true; kernel_rfl : drawX _ _ _) | simp -dsimp (maxSteps := 20000000) (disch := omega) only [simx, zzC, zzB, tys, ite_self, opnL, callB, callX, readsB, stepOp, nilCmp, ofVal, opBuiltin, opLen, PV.sk, scalBin, scalUn, intBin, opLoad, natOf, opConvert, opField, cellsP, oneP, Value.oneCell', opStore, toIV, scalT, scalA, scalC, boxesA, boxesC, zipB_none, zipB_mx, isZ, opZip, zeroP, opAppendZ, opMakeMap, opLookup, mboxB, opUpdate, ↓reduceIte, Nat.reduceSub, Nat.reduceEqDiff, Nat.reduceAdd, Nat.reduceMul, Nat.reduceLT, Nat.reduceLeDiff, Int.reduceToNat, Int.reduceLE, Int.reduceLT, Int.reduceNeg, reduceCtorEq, zzR, gos, Int.reduceAdd, Int.reduceSub, Int.reduceMul, Int.reduceEq])
    · rw [decide_eq_false h2]
      refine X_startP (n := 24) (m := 2) (rs := [.tmp 4]) Try.func51 rfl rfl rfl rfl (by decide) fun base => ?_
      repeat (first | ((first | refine X_call_fn2 rfl (by simp only [tys]) ?_ | refine X_dcall_fn2 rfl (by simp only [tys]) ?_); apply Exists.intro; apply And.intro; (focus (simp -dsimp only [simx, zzC, zzB, tys, ite_self, opnL, callB, callX, readsB, stepOp, nilCmp, ofVal, opBuiltin, opLen, PV.sk, scalBin, scalUn, intBin, opLoad, natOf, opConvert, opField, cellsP, oneP, Value.oneCell', opStore, toIV, scalT, scalA, scalC, boxesA, boxesC, zipB_none, zipB_mx, isZ, opZip, zeroP, opAppendZ, opMakeMap, opLookup, mboxB, opUpdate, ↓reduceIte, Nat.reduceSub, Nat.reduceEqDiff, Nat.reduceAdd, Nat.reduceMul, Nat.reduceLT, Nat.reduceLeDiff, Int.reduceToNat, Int.reduceLE, Int.reduceLT, Int.reduceNeg, reduceCtorEq, zzL, if_true, if_false] <;> rfl)); apply Exists.intro; apply And.intro; (focus (first | exact q))) | refine X_opc rfl ?_ | refine X_dopc rfl ?_ | refine ⟨(by show drawK _ _ = true; kernel_rfl : drawX _ _ _), ?_⟩ | exact (by show drawK _ _ = true; kernel_rfl : drawX _ _ _) | simp -dsimp (maxSteps := 20000000) (disch := omega) only [simx, zzC, zzB, tys, ite_self, opnL, callB, callX, readsB, stepOp, nilCmp, ofVal, opBuiltin, opLen, PV.sk, scalBin, scalUn, intBin, opLoad, natOf, opConvert, opField, cellsP, oneP, Value.oneCell', opStore, toIV, scalT, scalA, scalC, boxesA, boxesC, zipB_none, zipB_mx, isZ, opZip, zeroP, opAppendZ, opMakeMap, opLookup, mboxB, opUpdate, ↓reduceIte, Nat.reduceSub, Nat.reduceEqDiff, Nat.reduceAdd, Nat.reduceMul, Nat.reduceLT, Nat.reduceLeDiff, Int.reduceToNat, Int.reduceLE, Int.reduceLT, Int.reduceNeg, reduceCtorEq, zzR, gos, Int.reduceAdd, Int.reduceSub, Int.reduceMul, Int.reduceEq])
  · rw [decide_eq_false h1]
    refine X_startP (n := 24) (m := 2) (rs := [.tmp 4]) Try.func51 rfl rfl rfl rfl (by decide) fun base => ?_
    repeat (first | ((first | refine X_call_fn2 rfl (by simp only [tys]) ?_ | refine X_dcall_fn2 rfl (by simp only [tys]) ?_); apply Exists.intro; apply And.intro; (focus (simp -dsimp only [simx, zzC, zzB, tys, ite_self, opnL, callB, callX, readsB, stepOp, nilCmp, ofVal, opBuiltin, opLen, PV.sk, scalBin, scalUn, intBin, opLoad, natOf, opConvert, opField, cellsP, oneP, Value.oneCell', opStore, toIV, scalT, scalA, scalC, boxesA, boxesC, zipB_none, zipB_mx, isZ, opZip, zeroP, opAppendZ, opMakeMap, opLookup, mboxB, opUpdate, ↓reduceIte, Nat.reduceSub, Nat.reduceEqDiff, Nat.reduceAdd, Nat.reduceMul, Nat.reduceLT, Nat.reduceLeDiff, Int.reduceToNat, Int.reduceLE, Int.reduceLT, Int.reduceNeg, reduceCtorEq, zzL, if_true, if_false] <;> rfl)); apply Exists.intro; apply And.intro; (focus (first | exact q))) | refine X_opc rfl ?_ | refine X_dopc rfl ?_ | refine ⟨(by show drawK _ _ = true; kernel_rfl : drawX _ _ _), ?_⟩ | exact (by show drawK _ _ = true; kernel_rfl : drawX _ _ _) | simp -dsimp (maxSteps := 20000000) (disch := omega) only [simx, zzC, zzB, tys, ite_self, opnL, callB, callX, readsB, stepOp, nilCmp, ofVal, opBuiltin, opLen, PV.sk, scalBin, scalUn, intBin, opLoad, natOf, opConvert, opField, cellsP, oneP, Value.oneCell', opStore, toIV, scalT, scalA, scalC, boxesA, boxesC, zipB_none, zipB_mx, isZ, opZip, zeroP, opAppendZ, opMakeMap, opLookup, mboxB, opUpdate, ↓reduceIte, Nat.reduceSub, Nat.reduceEqDiff, Nat.reduceAdd, Nat.reduceMul, Nat.reduceLT, Nat.reduceLeDiff, Int.reduceToNat, Int.reduceLE, Int.reduceLT, Int.reduceNeg, reduceCtorEq, zzR, gos, Int.reduceAdd, Int.reduceSub, Int.reduceMul, Int.reduceEq])
theorem rmright_walk (p r c : Int) (l : List Int) (hl : l.length ≤ maxLen) : CallsP Try.prog 55 [u64 p, matP r c l] (bl (MatB p r c l)) := by
  have h := rhas_walk p l hl
  rw [mx_len] at hl
  unfold MatB
  by_cases a1 : 1 ≤ r
  · by_cases a2 : r ≤ 64
    · by_cases b1 : 1 ≤ c
      · by_cases b2 : c ≤ 64
        · rw [(side_iff r).2 ⟨a1, a2⟩, (side_iff c).2 ⟨b1, b2⟩]
          have m := mul_bd (a := r) (b := c) (m := 64) (n := 64) (by omega) (by omega) a2 b2
          have e : IntKind.i64.wrap (r * c) = r * c := iw_of (by omega) (by omega)
          by_cases h3 : (l.length : Int) = r * c
          · rw [decide_eq_true h3]
            refine X_startP (n := 40) (m := 2) (rs := [.tmp 4]) Try.func55 rfl rfl rfl rfl (by decide) fun base => ?_
            repeat (first | ((first | refine X_call_fn2 rfl (by simp only [tys]) ?_ | refine X_dcall_fn2 rfl (by simp only [tys]) ?_); apply Exists.intro; apply And.intro; (focus (simp -dsimp only [simx, zzC, zzB, tys, ite_self, opnL, callB, callX, readsB, stepOp, nilCmp, ofVal, opBuiltin, opLen, PV.sk, scalBin, scalUn, intBin, opLoad, natOf, opConvert, opField, cellsP, oneP, Value.oneCell', opStore, toIV, scalT, scalA, scalC, boxesA, boxesC, zipB_none, zipB_mx, isZ, opZip, zeroP, opAppendZ, opMakeMap, opLookup, mboxB, opUpdate, ↓reduceIte, Nat.reduceSub, Nat.reduceEqDiff, Nat.reduceAdd, Nat.reduceMul, Nat.reduceLT, Nat.reduceLeDiff, Int.reduceToNat, Int.reduceLE, Int.reduceLT, Int.reduceNeg, reduceCtorEq, zzL, if_true, if_false] <;> rfl)); apply Exists.intro; apply And.intro; (focus (first | exact h))) | refine X_opc rfl ?_ | refine X_dopc rfl ?_ | refine ⟨(by show drawK _ _ = true; kernel_rfl : drawX _ _ _), ?_⟩ | exact (by show drawK _ _ = true; kernel_rfl : drawX _ _ _) | simp -dsimp (maxSteps := 20000000) (disch := omega) only [simx, zzC, zzB, tys, ite_self, opnL, callB, callX, readsB, stepOp, nilCmp, ofVal, opBuiltin, opLen, PV.sk, scalBin, scalUn, intBin, opLoad, natOf, opConvert, opField, cellsP, oneP, Value.oneCell', opStore, toIV, scalT, scalA, scalC, boxesA, boxesC, zipB_none, zipB_mx, isZ, opZip, zeroP, opAppendZ, opMakeMap, opLookup, mboxB, opUpdate, ↓reduceIte, Nat.reduceSub, Nat.reduceEqDiff, Nat.reduceAdd, Nat.reduceMul, Nat.reduceLT, Nat.reduceLeDiff, Int.reduceToNat, Int.reduceLE, Int.reduceLT, Int.reduceNeg, reduceCtorEq, zzR, gos, Int.reduceAdd, Int.reduceSub, Int.reduceMul, Int.reduceEq, e])
          · rw [decide_eq_false h3]
            refine X_startP (n := 40) (m := 2) (rs := [.tmp 4]) Try.func55 rfl rfl rfl rfl (by decide) fun base => ?_
            repeat (first | ((first | refine X_call_fn2 rfl (by simp only [tys]) ?_ | refine X_dcall_fn2 rfl (by simp only [tys]) ?_); apply Exists.intro; apply And.intro; (focus (simp -dsimp only [simx, zzC, zzB, tys, ite_self, opnL, callB, callX, readsB, stepOp, nilCmp, ofVal, opBuiltin, opLen, PV.sk, scalBin, scalUn, intBin, opLoad, natOf, opConvert, opField, cellsP, oneP, Value.oneCell', opStore, toIV, scalT, scalA, scalC, boxesA, boxesC, zipB_none, zipB_mx, isZ, opZip, zeroP, opAppendZ, opMakeMap, opLookup, mboxB, opUpdate, ↓reduceIte, Nat.reduceSub, Nat.reduceEqDiff, Nat.reduceAdd, Nat.reduceMul, Nat.reduceLT, Nat.reduceLeDiff, Int.reduceToNat, Int.reduceLE, Int.reduceLT, Int.reduceNeg, reduceCtorEq, zzL, if_true, if_false] <;> rfl)); apply Exists.intro; apply And.intro; (focus (first | exact h))) | refine X_opc rfl ?_ | refine X_dopc rfl ?_ | refine ⟨(by show drawK _ _ = true; kernel_rfl : drawX _ _ _), ?_⟩ | exact (by show drawK _ _ = true; kernel_rfl : drawX _ _ _) | simp -dsimp (maxSteps := 20000000) (disch := omega) only [simx, zzC, zzB, tys, ite_self, opnL, callB, callX, readsB, stepOp, nilCmp, ofVal, opBuiltin, opLen, PV.sk, scalBin, scalUn, intBin, opLoad, natOf, opConvert, opField, cellsP, oneP, Value.oneCell', opStore, toIV, scalT, scalA, scalC, boxesA, boxesC, zipB_none, zipB_mx, isZ, opZip, zeroP, opAppendZ, opMakeMap, opLookup, mboxB, opUpdate, ↓reduceIte, Nat.reduceSub, Nat.reduceEqDiff, Nat.reduceAdd, Nat.reduceMul, Nat.reduceLT, Nat.reduceLeDiff, Int.reduceToNat, Int.reduceLE, Int.reduceLT, Int.reduceNeg, reduceCtorEq, zzR, gos, Int.reduceAdd, Int.reduceSub, Int.reduceMul, Int.reduceEq, e])
        · rw [show SideB c = false by simp [SideB, b2]]
          refine X_startP (n := 40) (m := 2) (rs := [.tmp 4]) Try.func55 rfl rfl rfl rfl (by decide) fun base => ?_
          repeat (first | refine X_opc rfl ?_ | refine X_dopc rfl ?_ | refine ⟨(by show drawK _ _ = true; kernel_rfl : drawX _ _ _), ?_⟩ | exact (by show drawK _ _ = true; kernel_rfl : drawX _ _ _) | simp -dsimp (maxSteps := 20000000) (disch := omega) only [simx, zzC, zzB, tys, ite_self, opnL, callB, callX, readsB, stepOp, nilCmp, ofVal, opBuiltin, opLen, PV.sk, scalBin, scalUn, intBin, opLoad, natOf, opConvert, opField, cellsP, oneP, Value.oneCell', opStore, toIV, scalT, scalA, scalC, boxesA, boxesC, zipB_none, zipB_mx, isZ, opZip, zeroP, opAppendZ, opMakeMap, opLookup, mboxB, opUpdate, ↓reduceIte, Nat.reduceSub, Nat.reduceEqDiff, Nat.reduceAdd, Nat.reduceMul, Nat.reduceLT, Nat.reduceLeDiff, Int.reduceToNat, Int.reduceLE, Int.reduceLT, Int.reduceNeg, reduceCtorEq, zzR, gos, Int.reduceAdd, Int.reduceSub, Int.reduceMul, Int.reduceEq])
      · rw [show SideB c = false by simp [SideB, b1]]
        refine X_startP (n := 40) (m := 2) (rs := [.tmp 4]) Try.func55 rfl rfl rfl rfl (by decide) fun base => ?_
        repeat (first | refine X_opc rfl ?_ | refine X_dopc rfl ?_ | refine ⟨(by show drawK _ _ = true; kernel_rfl : drawX _ _ _), ?_⟩ | exact (by show drawK _ _ = true; kernel_rfl : drawX _ _ _) | simp -dsimp (maxSteps := 20000000) (disch := omega) only [simx, zzC, zzB, tys, ite_self, opnL, callB, callX, readsB, stepOp, nilCmp, ofVal, opBuiltin, opLen, PV.sk, scalBin, scalUn, intBin, opLoad, natOf, opConvert, opField, cellsP, oneP, Value.oneCell', opStore, toIV, scalT, scalA, scalC, boxesA, boxesC, zipB_none, zipB_mx, isZ, opZip, zeroP, opAppendZ, opMakeMap, opLookup, mboxB, opUpdate, ↓reduceIte, Nat.reduceSub, Nat.reduceEqDiff, Nat.reduceAdd, Nat.reduceMul, Nat.reduceLT, Nat.reduceLeDiff, Int.reduceToNat, Int.reduceLE, Int.reduceLT, Int.reduceNeg, reduceCtorEq, zzR, gos, Int.reduceAdd, Int.reduceSub, Int.reduceMul, Int.reduceEq])
    · rw [show SideB r = false by simp [SideB, a2]]
      refine X_startP (n := 40) (m := 2) (rs := [.tmp 4]) Try.func55 rfl rfl rfl rfl (by decide) fun base => ?_
      repeat (first | refine X_opc rfl ?_ | refine X_dopc rfl ?_ | refine ⟨(by show drawK _ _ = true; kernel_rfl : drawX _ _ _), ?_⟩ | exact (by show drawK _ _ = true; kernel_rfl : drawX _ _ _) | simp -dsimp (maxSteps := 20000000) (disch := omega) only [simx, zzC, zzB, tys, ite_self, opnL, callB, callX, readsB, stepOp, nilCmp, ofVal, opBuiltin, opLen, PV.sk, scalBin, scalUn, intBin, opLoad, natOf, opConvert, opField, cellsP, oneP, Value.oneCell', opStore, toIV, scalT, scalA, scalC, boxesA, boxesC, zipB_none, zipB_mx, isZ, opZip, zeroP, opAppendZ, opMakeMap, opLookup, mboxB, opUpdate, ↓reduceIte, Nat.reduceSub, Nat.reduceEqDiff, Nat.reduceAdd, Nat.reduceMul, Nat.reduceLT, Nat.reduceLeDiff, Int.reduceToNat, Int.reduceLE, Int.reduceLT, Int.reduceNeg, reduceCtorEq, zzR, gos, Int.reduceAdd, Int.reduceSub, Int.reduceMul, Int.reduceEq])
  · rw [show SideB r = false by simp [SideB, a1]]
    refine X_startP (n := 40) (m := 2) (rs := [.tmp 4]) Try.func55 rfl rfl rfl rfl (by decide) fun base => ?_
    repeat (first | refine X_opc rfl ?_ | refine X_dopc rfl ?_ | refine ⟨(by show drawK _ _ = true; kernel_rfl : drawX _ _ _), ?_⟩ | exact (by show drawK _ _ = true; kernel_rfl : drawX _ _ _) | simp -dsimp (maxSteps := 20000000) (disch := omega) only [simx, zzC, zzB, tys, ite_self, opnL, callB, callX, readsB, stepOp, nilCmp, ofVal, opBuiltin, opLen, PV.sk, scalBin, scalUn, intBin, opLoad, natOf, opConvert, opField, cellsP, oneP, Value.oneCell', opStore, toIV, scalT, scalA, scalC, boxesA, boxesC, zipB_none, zipB_mx, isZ, opZip, zeroP, opAppendZ, opMakeMap, opLookup, mboxB, opUpdate, ↓reduceIte, Nat.reduceSub, Nat.reduceEqDiff, Nat.reduceAdd, Nat.reduceMul, Nat.reduceLT, Nat.reduceLeDiff, Int.reduceToNat, Int.reduceLE, Int.reduceLT, Int.reduceNeg, reduceCtorEq, zzR, gos, Int.reduceAdd, Int.reduceSub, Int.reduceMul, Int.reduceEq])
end Go.Proofs.Ytmalpmnmknpphaa.TM
namespace Go.Proofs.Ytmalpmnmknpphaa.TM
open Go Go.RowKit
theorem zerB_iff (l : List Int) : zerB l = true ↔ ∀ i, i < l.length → l.getD i 0 = 0 := by
  unfold zerB
  rw [List.all_eq_true]
  constructor
  · intro h i hi
    have := h _ (getD_mem (l := l) hi)
    simpa using this
  · intro h a ha
    obtain ⟨i, hi, rfl⟩ := List.mem_iff_getElem.1 ha
    have := h i hi
    rw [List.getD_eq_getElem?_getD, List.getElem?_eq_getElem hi] at this
    simpa using this
end Go.Proofs.Ytmalpmnmknpphaa.TM
namespace Go.Proofs.Ytmalpmnmknpphaa.TM
open Go Go.RowKit
attribute [local irreducible] K W WOps Effs Xg Xo Xr Xdg Xdo Xdr Xif CallsP CallR
theorem rank12_of {P R C : Nat} {l : List Int} (hP : Prm P) (M : Mt P R C l) (hin : ∀ a ∈ l, In P a) : CallsP Try.prog 24 [u64 P, matP R C l] (.tup [i64 (tkCup P C R l).1.length, i64 0]) := by
  have h := rank_walk hP R C l (len_ok M) (w64_of_in M.hp hin)
  unfold rankR at h
  rw [takeR_mk M] at h; exact h
theorem mul64_small {a b : Nat} (h : a * b ≤ 100000) (ha : a ≤ 100000) (hb : b ≤ 100000) : CallsP Try.prog 59 [u64 a, u64 b] (.tup [u64 0, u64 ((a * b : Nat) : Int)]) := by
  have m := mul64_walk (a : Int) (b : Int) ⟨by omega, by omega⟩ ⟨by omega, by omega⟩
  rw [show (a : Int) * (b : Int) = ((a * b : Nat) : Int) by push_cast; rfl, Int.ediv_eq_zero_of_lt (by omega) (by omega), Int.emod_eq_of_lt (by omega) (by omega)] at m
  exact m
section
variable {P R S C : Nat} {a b c : List Int}
set_option maxHeartbeats 4000000 in
theorem silent_of (hP : Prm P) (A : Mt P R S a) (B : Mt P S C b) (K : Mt P R C c) (ia : ∀ x ∈ a, In P x) (ib : ∀ x ∈ b, In P x) (ic : ∀ x ∈ c, In P x) (hsm : P ^ C ≤ 2000) :
    CallsP Try.prog 17 [u64 P, matP R S a, matP S C b, matP R C c] (.tup [u64 ((P ^ (C - (tkCup P C R (wrongM P (mulM P R S a C b) c)).1.length) : Nat) : Int), i64 0]) := by
  have q1 := wrong_of A B K ia ib ic
  have W := wrong_mt (c := c) A B
  have win := wrongM_in A.hp (mulM P R S a C b) c
  have q2 := rank12_of hP W win
  have kc := (rk_of hP W win).le_cols hP
  have c2 := B.c2
  have P2 : 2 ≤ P := hP.1
  generalize wrongM P (mulM P R S a C b) c = w at *
  generalize (tkCup P C R w).1.length = k at *
  obtain ⟨G, hG⟩ : ∃ G : Nat → Nat, G = fun j => P ^ j := ⟨_, rfl⟩
  have G0 : G 0 = 1 := by rw [hG]; rfl
  have Gn : ∀ j, G j * P = G (j + 1) := fun j => by rw [hG]; exact (Nat.pow_succ ..).symm
  have Gb : ∀ j, j ≤ C → G j ≤ 2000 := fun j hj => by rw [hG]; exact Nat.le_trans (Nat.pow_le_pow_right (by omega) hj) hsm
  rw [show P ^ (C - k) = G (C - k) by rw [hG]]
  have Ps : P ≤ 2000 := by have h1 := Gb 1 B.c1; have h : G 0 * P = G 1 := Gn 0; rw [G0, Nat.one_mul] at h; omega
  clear hG
  have w1 : IntKind.i64.wrap ((C : Int) - (k : Int)) = ((C - k : Nat) : Int) := by rw [show (C : Int) - (k : Int) = ((C - k : Nat) : Int) by omega]; exact iw_of (by omega) (by omega)
  refine X_startP (n := 57) (m := 4) (rs := [.tmp 8, .tmp 9]) Try.func17 rfl rfl rfl rfl (by decide) fun base => ?_
  repeat (first | ((first | refine X_call_fn2 rfl (by simp only [tys]) ?_ | refine X_dcall_fn2 rfl (by simp only [tys]) ?_); apply Exists.intro; apply And.intro; (focus (simp -dsimp only [simx, zzC, zzB, tys, ite_self, opnL, callB, callX, readsB, stepOp, nilCmp, ofVal, opBuiltin, opLen, PV.sk, scalBin, scalUn, intBin, opLoad, natOf, opConvert, opField, cellsP, oneP, Value.oneCell', opStore, toIV, scalT, scalA, scalC, boxesA, boxesC, zipB_none, zipB_mx, isZ, opZip, zeroP, opAppendZ, opMakeMap, opLookup, mboxB, opUpdate, ↓reduceIte, Nat.reduceSub, Nat.reduceEqDiff, Nat.reduceAdd, Nat.reduceMul, Nat.reduceLT, Nat.reduceLeDiff, Int.reduceToNat, Int.reduceLE, Int.reduceLT, Int.reduceNeg, reduceCtorEq, zzL, if_true, if_false] <;> rfl)); apply Exists.intro; apply And.intro; (focus (first | exact q1 | exact q2))) | refine X_opc rfl ?_ | refine X_dopc rfl ?_ | refine ⟨(by show drawK _ _ = true; kernel_rfl : drawX _ _ _), ?_⟩ | exact (by show drawK _ _ = true; kernel_rfl : drawX _ _ _) | simp -dsimp (maxSteps := 20000000) (disch := omega) only [simx, zzC, zzB, tys, ite_self, opnL, callB, callX, readsB, stepOp, nilCmp, ofVal, opBuiltin, opLen, PV.sk, scalBin, scalUn, intBin, opLoad, natOf, opConvert, opField, cellsP, oneP, Value.oneCell', opStore, toIV, scalT, scalA, scalC, boxesA, boxesC, zipB_none, zipB_mx, isZ, opZip, zeroP, opAppendZ, opMakeMap, opLookup, mboxB, opUpdate, ↓reduceIte, Nat.reduceSub, Nat.reduceEqDiff, Nat.reduceAdd, Nat.reduceMul, Nat.reduceLT, Nat.reduceLeDiff, Int.reduceToNat, Int.reduceLE, Int.reduceLT, Int.reduceNeg, reduceCtorEq, gos, Int.reduceAdd, Int.reduceSub, Int.reduceMul, Int.reduceEq, w1])
  refine X_loopH [0, 13, 39, 40] [] (0) (C - k) (fun j => True) (fun j => [(13, u64 (G j : Int)), (40, i64 j)]) (fun j => ((((Heap.none.put ((0, 0) :: base) (.var [i64 R, i64 S, lu a])).put ((0, 1) :: base) (.var [i64 S, i64 C, lu b])).put ((0, 2) :: base) (.var [i64 R, i64 C, lu c])).put ((1, 8) :: base) (.var [i64 R, i64 C, lu w]))) ?_ ?_ ?_ ?_ ?_ (by decide) ?_
  · exact (fgt_nil)
  · ((simp -dsimp (disch := omega) only [simx, zzB, tys, ite_self, opnL, callB, callX, readsB, stepOp, nilCmp, ofVal, opBuiltin, opLen, PV.sk, scalBin, scalUn, intBin, opLoad, natOf, opConvert, opField, cellsP, oneP, Value.oneCell', opStore, toIV, scalT, scalA, scalC, boxesA, boxesC, zipB_none, zipB_mx, isZ, opZip, zeroP, opAppendZ, opMakeMap, opLookup, mboxB, opUpdate, ↓reduceIte, Nat.reduceSub, Nat.reduceEqDiff, Nat.reduceAdd, Nat.reduceMul, Nat.reduceLT, Nat.reduceLeDiff, Int.reduceToNat, Int.reduceLE, Int.reduceLT, Int.reduceNeg, reduceCtorEq, gos, Int.reduceAdd, Int.reduceSub, Int.reduceMul, Int.reduceEq]) <;> first | rfl | simp [G0])
  · funext c
    simp (maxSteps := 20000000) only [Heap.drop_at, rowH_app, Heap.put_at, Heap.none_at, List.mem_cons, List.not_mem_nil, or_false]
    by_cases e0 : c = (0, 0) :: base
    · subst e0; simp []
    by_cases e1 : c = (0, 1) :: base
    · subst e1; simp []
    by_cases e2 : c = (0, 2) :: base
    · subst e2; simp []
    by_cases e3 : c = (1, 8) :: base
    · subst e3; simp []
    simp [e0, e1, e2, e3]
  · omega
  · trivial
  · intro j hj _
    by_cases cj : j < C - k
    · have cj' : (j : Int) < ((C - k : Nat) : Int) := by omega
      have g1 := Gb j (by omega)
      have g2 := Gb (j + 1) (by omega)
      have gn := Gn j
      have m1 := mul64_small (a := G j) (b := P) (by omega) (by omega) (by omega)
      rw [gn] at m1
      have g3 : ¬ (9223372036854775808 : Int) ≤ ((G (j + 1) : Nat) : Int) := by omega
      clear q1 q2 Gb Gn gn
      obtain ⟨g', hg⟩ : ∃ g', G (j + 1) = g' := ⟨_, rfl⟩
      rw [hg] at m1 g3
      generalize G j = g at m1
      repeat (first | ((first | refine X_call_fn2 rfl (by simp only [tys]) ?_ | refine X_dcall_fn2 rfl (by simp only [tys]) ?_); apply Exists.intro; apply And.intro; (focus (simp -dsimp only [simx, zzC, zzB, tys, ite_self, opnL, callB, callX, readsB, stepOp, nilCmp, ofVal, opBuiltin, opLen, PV.sk, scalBin, scalUn, intBin, opLoad, natOf, opConvert, opField, cellsP, oneP, Value.oneCell', opStore, toIV, scalT, scalA, scalC, boxesA, boxesC, zipB_none, zipB_mx, isZ, opZip, zeroP, opAppendZ, opMakeMap, opLookup, mboxB, opUpdate, ↓reduceIte, Nat.reduceSub, Nat.reduceEqDiff, Nat.reduceAdd, Nat.reduceMul, Nat.reduceLT, Nat.reduceLeDiff, Int.reduceToNat, Int.reduceLE, Int.reduceLT, Int.reduceNeg, reduceCtorEq, zzL, if_true, if_false] <;> rfl)); apply Exists.intro; apply And.intro; (focus (first | exact m1))) | refine X_opc rfl ?_ | refine X_dopc rfl ?_ | refine ⟨(by show drawK _ _ = true; kernel_rfl : drawX _ _ _), ?_⟩ | exact (by show drawK _ _ = true; kernel_rfl : drawX _ _ _) | simp -dsimp (maxSteps := 20000000) (disch := omega) only [simx, zzC, zzB, tys, ite_self, opnL, callB, callX, readsB, stepOp, nilCmp, ofVal, opBuiltin, opLen, PV.sk, scalBin, scalUn, intBin, opLoad, natOf, opConvert, opField, cellsP, oneP, Value.oneCell', opStore, toIV, scalT, scalA, scalC, boxesA, boxesC, zipB_none, zipB_mx, isZ, opZip, zeroP, opAppendZ, opMakeMap, opLookup, mboxB, opUpdate, ↓reduceIte, Nat.reduceSub, Nat.reduceEqDiff, Nat.reduceAdd, Nat.reduceMul, Nat.reduceLT, Nat.reduceLeDiff, Int.reduceToNat, Int.reduceLE, Int.reduceLT, Int.reduceNeg, reduceCtorEq, gos, Int.reduceAdd, Int.reduceSub, Int.reduceMul, Int.reduceEq, cj, cj', g3])
      exact ⟨cj, (fgt_nil), ⟨by rw [hg], rfl⟩, drop_nil _⟩
    · obtain rfl : j = C - k := by omega
      repeat (first | refine X_opc rfl ?_ | refine X_dopc rfl ?_ | refine ⟨(by show drawK _ _ = true; kernel_rfl : drawX _ _ _), ?_⟩ | exact (by show drawK _ _ = true; kernel_rfl : drawX _ _ _) | simp -dsimp (maxSteps := 20000000) (disch := omega) only [simx, zzC, zzB, tys, ite_self, opnL, callB, callX, readsB, stepOp, nilCmp, ofVal, opBuiltin, opLen, PV.sk, scalBin, scalUn, intBin, opLoad, natOf, opConvert, opField, cellsP, oneP, Value.oneCell', opStore, toIV, scalT, scalA, scalC, boxesA, boxesC, zipB_none, zipB_mx, isZ, opZip, zeroP, opAppendZ, opMakeMap, opLookup, mboxB, opUpdate, ↓reduceIte, Nat.reduceSub, Nat.reduceEqDiff, Nat.reduceAdd, Nat.reduceMul, Nat.reduceLT, Nat.reduceLeDiff, Int.reduceToNat, Int.reduceLE, Int.reduceLT, Int.reduceNeg, reduceCtorEq, zzR, gos, Int.reduceAdd, Int.reduceSub, Int.reduceMul, Int.reduceEq])
end
theorem zero12_walk {l : List Int} (hl : l.length ≤ maxLen) : CallsP Try.prog 19 [lu l] (bl (zerB l)) := by
  rw [mx_len] at hl
  refine X_startP (n := 15) (m := 1) (rs := [.tmp 2]) Try.func19 rfl rfl rfl rfl (by decide) fun base => ?_
  repeat (first | refine X_opc rfl ?_ | refine X_dopc rfl ?_ | refine ⟨(by show drawK _ _ = true; kernel_rfl : drawX _ _ _), ?_⟩ | exact (by show drawK _ _ = true; kernel_rfl : drawX _ _ _) | simp -dsimp (maxSteps := 20000000) (disch := omega) only [simx, zzC, zzB, tys, ite_self, opnL, callB, callX, readsB, stepOp, nilCmp, ofVal, opBuiltin, opLen, PV.sk, scalBin, scalUn, intBin, opLoad, natOf, opConvert, opField, cellsP, oneP, Value.oneCell', opStore, toIV, scalT, scalA, scalC, boxesA, boxesC, zipB_none, zipB_mx, isZ, opZip, zeroP, opAppendZ, opMakeMap, opLookup, mboxB, opUpdate, ↓reduceIte, Nat.reduceSub, Nat.reduceEqDiff, Nat.reduceAdd, Nat.reduceMul, Nat.reduceLT, Nat.reduceLeDiff, Int.reduceToNat, Int.reduceLE, Int.reduceLT, Int.reduceNeg, reduceCtorEq, gos, Int.reduceAdd, Int.reduceSub, Int.reduceMul, Int.reduceEq])
  refine X_loopH [0, 3] [] (0) (l.length) (fun j => (∀ i, i < j → l.getD i 0 = 0)) (fun j => [(3, i64 j)]) (fun j => Heap.none) ?_ ?_ ?_ ?_ ?_ (by decide) ?_
  · exact (fgt_nil)
  · ((simp -dsimp (disch := omega) only [simx, zzB, tys, ite_self, opnL, callB, callX, readsB, stepOp, nilCmp, ofVal, opBuiltin, opLen, PV.sk, scalBin, scalUn, intBin, opLoad, natOf, opConvert, opField, cellsP, oneP, Value.oneCell', opStore, toIV, scalT, scalA, scalC, boxesA, boxesC, zipB_none, zipB_mx, isZ, opZip, zeroP, opAppendZ, opMakeMap, opLookup, mboxB, opUpdate, ↓reduceIte, Nat.reduceSub, Nat.reduceEqDiff, Nat.reduceAdd, Nat.reduceMul, Nat.reduceLT, Nat.reduceLeDiff, Int.reduceToNat, Int.reduceLE, Int.reduceLT, Int.reduceNeg, reduceCtorEq, gos, Int.reduceAdd, Int.reduceSub, Int.reduceMul, Int.reduceEq]) <;> first | rfl | simp)
  · exact drop_nil _
  · omega
  · intro i hi; omega
  · intro j hj hz
    by_cases cj : j < l.length
    · have g1 : (l.map iu)[j]? = some (iu (l.getD j 0)) := by rw [List.getElem?_map, getD_some rfl cj]; rfl
      by_cases h0 : l.getD j 0 = 0
      · rw [h0] at g1
        repeat (first | refine X_opc rfl ?_ | refine X_dopc rfl ?_ | refine ⟨(by show drawK _ _ = true; kernel_rfl : drawX _ _ _), ?_⟩ | exact (by show drawK _ _ = true; kernel_rfl : drawX _ _ _) | simp -dsimp (maxSteps := 20000000) (disch := omega) only [simx, zzC, zzB, tys, ite_self, opnL, callB, callX, readsB, stepOp, nilCmp, ofVal, opBuiltin, opLen, PV.sk, scalBin, scalUn, intBin, opLoad, natOf, opConvert, opField, cellsP, oneP, Value.oneCell', opStore, toIV, scalT, scalA, scalC, boxesA, boxesC, zipB_none, zipB_mx, isZ, opZip, zeroP, opAppendZ, opMakeMap, opLookup, mboxB, opUpdate, ↓reduceIte, Nat.reduceSub, Nat.reduceEqDiff, Nat.reduceAdd, Nat.reduceMul, Nat.reduceLT, Nat.reduceLeDiff, Int.reduceToNat, Int.reduceLE, Int.reduceLT, Int.reduceNeg, reduceCtorEq, gos, Int.reduceAdd, Int.reduceSub, Int.reduceMul, Int.reduceEq, cj, g1, SK.len, List.length_map])
        refine ⟨cj, (fgt_nil), fun i hi => ?_, rfl, drop_nil _⟩
        by_cases e : i = j
        · rw [e]; exact h0
        · exact hz i (by omega)
      · have zf : zerB l = false := by
          cases h : zerB l with
          | false => rfl
          | true => exact absurd ((zerB_iff l).1 h j cj) h0
        rw [zf]
        generalize l.getD j 0 = z at g1 h0
        repeat (first | refine X_opc rfl ?_ | refine X_dopc rfl ?_ | refine ⟨(by show drawK _ _ = true; kernel_rfl : drawX _ _ _), ?_⟩ | exact (by show drawK _ _ = true; kernel_rfl : drawX _ _ _) | simp -dsimp (maxSteps := 20000000) (disch := omega) only [simx, zzC, zzB, tys, ite_self, opnL, callB, callX, readsB, stepOp, nilCmp, ofVal, opBuiltin, opLen, PV.sk, scalBin, scalUn, intBin, opLoad, natOf, opConvert, opField, cellsP, oneP, Value.oneCell', opStore, toIV, scalT, scalA, scalC, boxesA, boxesC, zipB_none, zipB_mx, isZ, opZip, zeroP, opAppendZ, opMakeMap, opLookup, mboxB, opUpdate, ↓reduceIte, Nat.reduceSub, Nat.reduceEqDiff, Nat.reduceAdd, Nat.reduceMul, Nat.reduceLT, Nat.reduceLeDiff, Int.reduceToNat, Int.reduceLE, Int.reduceLT, Int.reduceNeg, reduceCtorEq, zzR, gos, Int.reduceAdd, Int.reduceSub, Int.reduceMul, Int.reduceEq, cj, g1, h0, SK.len, List.length_map])
    · obtain rfl : l.length = j := by omega
      have zt : zerB l = true := (zerB_iff l).2 hz
      rw [zt]
      repeat (first | refine X_opc rfl ?_ | refine X_dopc rfl ?_ | refine ⟨(by show drawK _ _ = true; kernel_rfl : drawX _ _ _), ?_⟩ | exact (by show drawK _ _ = true; kernel_rfl : drawX _ _ _) | simp -dsimp (maxSteps := 20000000) (disch := omega) only [simx, zzC, zzB, tys, ite_self, opnL, callB, callX, readsB, stepOp, nilCmp, ofVal, opBuiltin, opLen, PV.sk, scalBin, scalUn, intBin, opLoad, natOf, opConvert, opField, cellsP, oneP, Value.oneCell', opStore, toIV, scalT, scalA, scalC, boxesA, boxesC, zipB_none, zipB_mx, isZ, opZip, zeroP, opAppendZ, opMakeMap, opLookup, mboxB, opUpdate, ↓reduceIte, Nat.reduceSub, Nat.reduceEqDiff, Nat.reduceAdd, Nat.reduceMul, Nat.reduceLT, Nat.reduceLeDiff, Int.reduceToNat, Int.reduceLE, Int.reduceLT, Int.reduceNeg, reduceCtorEq, zzR, gos, Int.reduceAdd, Int.reduceSub, Int.reduceMul, Int.reduceEq, SK.len])
def meetB (p r c : Int) (l : List Int) (r' c' : Int) (l' : List Int) (r'' c'' : Int) (l'' : List Int) : Bool := MatB p r c l && (MatB p r' c' l' && (MatB p r'' c'' l'' && (decide (c = r') && (decide (r'' = r) && decide (c'' = c')))))
theorem meet12_walk (p r c : Int) (l : List Int) (r' c' : Int) (l' : List Int) (r'' c'' : Int) (l'' : List Int) (h1 : l.length ≤ maxLen) (h2 : l'.length ≤ maxLen) (h3 : l''.length ≤ maxLen) :
    CallsP Try.prog 14 [u64 p, matP r c l, matP r' c' l', matP r'' c'' l''] (bl (meetB p r c l r' c' l' r'' c'' l'')) := by
  have q1 := rmright_walk p r c l h1
  have q2 := rmright_walk p r' c' l' h2
  have q3 := rmright_walk p r'' c'' l'' h3
  unfold meetB
  cases m1 : MatB p r c l with
  | false =>
    rw [m1] at q1
    refine X_startP (n := 43) (m := 4) (rs := [.tmp 8]) Try.func14 rfl rfl rfl rfl (by decide) fun base => ?_
    repeat (first | ((first | refine X_call_fn2 rfl (by simp only [tys]) ?_ | refine X_dcall_fn2 rfl (by simp only [tys]) ?_); apply Exists.intro; apply And.intro; (focus (simp -dsimp only [simx, zzC, zzB, tys, ite_self, opnL, callB, callX, readsB, stepOp, nilCmp, ofVal, opBuiltin, opLen, PV.sk, scalBin, scalUn, intBin, opLoad, natOf, opConvert, opField, cellsP, oneP, Value.oneCell', opStore, toIV, scalT, scalA, scalC, boxesA, boxesC, zipB_none, zipB_mx, isZ, opZip, zeroP, opAppendZ, opMakeMap, opLookup, mboxB, opUpdate, ↓reduceIte, Nat.reduceSub, Nat.reduceEqDiff, Nat.reduceAdd, Nat.reduceMul, Nat.reduceLT, Nat.reduceLeDiff, Int.reduceToNat, Int.reduceLE, Int.reduceLT, Int.reduceNeg, reduceCtorEq, zzL, if_true, if_false] <;> rfl)); apply Exists.intro; apply And.intro; (focus (first | exact q1))) | refine X_opc rfl ?_ | refine X_dopc rfl ?_ | refine ⟨(by show drawK _ _ = true; kernel_rfl : drawX _ _ _), ?_⟩ | exact (by show drawK _ _ = true; kernel_rfl : drawX _ _ _) | simp -dsimp (maxSteps := 20000000) (disch := omega) only [simx, zzC, zzB, tys, ite_self, opnL, callB, callX, readsB, stepOp, nilCmp, ofVal, opBuiltin, opLen, PV.sk, scalBin, scalUn, intBin, opLoad, natOf, opConvert, opField, cellsP, oneP, Value.oneCell', opStore, toIV, scalT, scalA, scalC, boxesA, boxesC, zipB_none, zipB_mx, isZ, opZip, zeroP, opAppendZ, opMakeMap, opLookup, mboxB, opUpdate, ↓reduceIte, Nat.reduceSub, Nat.reduceEqDiff, Nat.reduceAdd, Nat.reduceMul, Nat.reduceLT, Nat.reduceLeDiff, Int.reduceToNat, Int.reduceLE, Int.reduceLT, Int.reduceNeg, reduceCtorEq, zzR, gos, Int.reduceAdd, Int.reduceSub, Int.reduceMul, Int.reduceEq])
    try rfl
  | true =>
    rw [m1] at q1
    cases m2 : MatB p r' c' l' with
    | false =>
      rw [m2] at q2
      refine X_startP (n := 43) (m := 4) (rs := [.tmp 8]) Try.func14 rfl rfl rfl rfl (by decide) fun base => ?_
      repeat (first | ((first | refine X_call_fn2 rfl (by simp only [tys]) ?_ | refine X_dcall_fn2 rfl (by simp only [tys]) ?_); apply Exists.intro; apply And.intro; (focus (simp -dsimp only [simx, zzC, zzB, tys, ite_self, opnL, callB, callX, readsB, stepOp, nilCmp, ofVal, opBuiltin, opLen, PV.sk, scalBin, scalUn, intBin, opLoad, natOf, opConvert, opField, cellsP, oneP, Value.oneCell', opStore, toIV, scalT, scalA, scalC, boxesA, boxesC, zipB_none, zipB_mx, isZ, opZip, zeroP, opAppendZ, opMakeMap, opLookup, mboxB, opUpdate, ↓reduceIte, Nat.reduceSub, Nat.reduceEqDiff, Nat.reduceAdd, Nat.reduceMul, Nat.reduceLT, Nat.reduceLeDiff, Int.reduceToNat, Int.reduceLE, Int.reduceLT, Int.reduceNeg, reduceCtorEq, zzL, if_true, if_false] <;> rfl)); apply Exists.intro; apply And.intro; (focus (first | exact q1 | exact q2))) | refine X_opc rfl ?_ | refine X_dopc rfl ?_ | refine ⟨(by show drawK _ _ = true; kernel_rfl : drawX _ _ _), ?_⟩ | exact (by show drawK _ _ = true; kernel_rfl : drawX _ _ _) | simp -dsimp (maxSteps := 20000000) (disch := omega) only [simx, zzC, zzB, tys, ite_self, opnL, callB, callX, readsB, stepOp, nilCmp, ofVal, opBuiltin, opLen, PV.sk, scalBin, scalUn, intBin, opLoad, natOf, opConvert, opField, cellsP, oneP, Value.oneCell', opStore, toIV, scalT, scalA, scalC, boxesA, boxesC, zipB_none, zipB_mx, isZ, opZip, zeroP, opAppendZ, opMakeMap, opLookup, mboxB, opUpdate, ↓reduceIte, Nat.reduceSub, Nat.reduceEqDiff, Nat.reduceAdd, Nat.reduceMul, Nat.reduceLT, Nat.reduceLeDiff, Int.reduceToNat, Int.reduceLE, Int.reduceLT, Int.reduceNeg, reduceCtorEq, zzR, gos, Int.reduceAdd, Int.reduceSub, Int.reduceMul, Int.reduceEq])
      try rfl
    | true =>
      rw [m2] at q2
      cases m3 : MatB p r'' c'' l'' with
      | false =>
        rw [m3] at q3
        refine X_startP (n := 43) (m := 4) (rs := [.tmp 8]) Try.func14 rfl rfl rfl rfl (by decide) fun base => ?_
        repeat (first | ((first | refine X_call_fn2 rfl (by simp only [tys]) ?_ | refine X_dcall_fn2 rfl (by simp only [tys]) ?_); apply Exists.intro; apply And.intro; (focus (simp -dsimp only [simx, zzC, zzB, tys, ite_self, opnL, callB, callX, readsB, stepOp, nilCmp, ofVal, opBuiltin, opLen, PV.sk, scalBin, scalUn, intBin, opLoad, natOf, opConvert, opField, cellsP, oneP, Value.oneCell', opStore, toIV, scalT, scalA, scalC, boxesA, boxesC, zipB_none, zipB_mx, isZ, opZip, zeroP, opAppendZ, opMakeMap, opLookup, mboxB, opUpdate, ↓reduceIte, Nat.reduceSub, Nat.reduceEqDiff, Nat.reduceAdd, Nat.reduceMul, Nat.reduceLT, Nat.reduceLeDiff, Int.reduceToNat, Int.reduceLE, Int.reduceLT, Int.reduceNeg, reduceCtorEq, zzL, if_true, if_false] <;> rfl)); apply Exists.intro; apply And.intro; (focus (first | exact q1 | exact q2 | exact q3))) | refine X_opc rfl ?_ | refine X_dopc rfl ?_ | refine ⟨(by show drawK _ _ = true; kernel_rfl : drawX _ _ _), ?_⟩ | exact (by show drawK _ _ = true; kernel_rfl : drawX _ _ _) | simp -dsimp (maxSteps := 20000000) (disch := omega) only [simx, zzC, zzB, tys, ite_self, opnL, callB, callX, readsB, stepOp, nilCmp, ofVal, opBuiltin, opLen, PV.sk, scalBin, scalUn, intBin, opLoad, natOf, opConvert, opField, cellsP, oneP, Value.oneCell', opStore, toIV, scalT, scalA, scalC, boxesA, boxesC, zipB_none, zipB_mx, isZ, opZip, zeroP, opAppendZ, opMakeMap, opLookup, mboxB, opUpdate, ↓reduceIte, Nat.reduceSub, Nat.reduceEqDiff, Nat.reduceAdd, Nat.reduceMul, Nat.reduceLT, Nat.reduceLeDiff, Int.reduceToNat, Int.reduceLE, Int.reduceLT, Int.reduceNeg, reduceCtorEq, zzR, gos, Int.reduceAdd, Int.reduceSub, Int.reduceMul, Int.reduceEq])
        try rfl
      | true =>
        rw [m3] at q3
        by_cases e1 : c = r'
        · by_cases e2 : r'' = r
          · by_cases e3 : c'' = c'
            · subst e1 e2 e3
              refine X_startP (n := 43) (m := 4) (rs := [.tmp 8]) Try.func14 rfl rfl rfl rfl (by decide) fun base => ?_
              repeat (first | ((first | refine X_call_fn2 rfl (by simp only [tys]) ?_ | refine X_dcall_fn2 rfl (by simp only [tys]) ?_); apply Exists.intro; apply And.intro; (focus (simp -dsimp only [simx, zzC, zzB, tys, ite_self, opnL, callB, callX, readsB, stepOp, nilCmp, ofVal, opBuiltin, opLen, PV.sk, scalBin, scalUn, intBin, opLoad, natOf, opConvert, opField, cellsP, oneP, Value.oneCell', opStore, toIV, scalT, scalA, scalC, boxesA, boxesC, zipB_none, zipB_mx, isZ, opZip, zeroP, opAppendZ, opMakeMap, opLookup, mboxB, opUpdate, ↓reduceIte, Nat.reduceSub, Nat.reduceEqDiff, Nat.reduceAdd, Nat.reduceMul, Nat.reduceLT, Nat.reduceLeDiff, Int.reduceToNat, Int.reduceLE, Int.reduceLT, Int.reduceNeg, reduceCtorEq, zzL, if_true, if_false] <;> rfl)); apply Exists.intro; apply And.intro; (focus (first | exact q1 | exact q2 | exact q3))) | refine X_opc rfl ?_ | refine X_dopc rfl ?_ | refine ⟨(by show drawK _ _ = true; kernel_rfl : drawX _ _ _), ?_⟩ | exact (by show drawK _ _ = true; kernel_rfl : drawX _ _ _) | simp -dsimp (maxSteps := 20000000) (disch := omega) only [simx, zzC, zzB, tys, ite_self, opnL, callB, callX, readsB, stepOp, nilCmp, ofVal, opBuiltin, opLen, PV.sk, scalBin, scalUn, intBin, opLoad, natOf, opConvert, opField, cellsP, oneP, Value.oneCell', opStore, toIV, scalT, scalA, scalC, boxesA, boxesC, zipB_none, zipB_mx, isZ, opZip, zeroP, opAppendZ, opMakeMap, opLookup, mboxB, opUpdate, ↓reduceIte, Nat.reduceSub, Nat.reduceEqDiff, Nat.reduceAdd, Nat.reduceMul, Nat.reduceLT, Nat.reduceLeDiff, Int.reduceToNat, Int.reduceLE, Int.reduceLT, Int.reduceNeg, reduceCtorEq, zzR, gos, Int.reduceAdd, Int.reduceSub, Int.reduceMul, Int.reduceEq])
              try simp
            · subst e1 e2
              refine X_startP (n := 43) (m := 4) (rs := [.tmp 8]) Try.func14 rfl rfl rfl rfl (by decide) fun base => ?_
              repeat (first | ((first | refine X_call_fn2 rfl (by simp only [tys]) ?_ | refine X_dcall_fn2 rfl (by simp only [tys]) ?_); apply Exists.intro; apply And.intro; (focus (simp -dsimp only [simx, zzC, zzB, tys, ite_self, opnL, callB, callX, readsB, stepOp, nilCmp, ofVal, opBuiltin, opLen, PV.sk, scalBin, scalUn, intBin, opLoad, natOf, opConvert, opField, cellsP, oneP, Value.oneCell', opStore, toIV, scalT, scalA, scalC, boxesA, boxesC, zipB_none, zipB_mx, isZ, opZip, zeroP, opAppendZ, opMakeMap, opLookup, mboxB, opUpdate, ↓reduceIte, Nat.reduceSub, Nat.reduceEqDiff, Nat.reduceAdd, Nat.reduceMul, Nat.reduceLT, Nat.reduceLeDiff, Int.reduceToNat, Int.reduceLE, Int.reduceLT, Int.reduceNeg, reduceCtorEq, zzL, if_true, if_false] <;> rfl)); apply Exists.intro; apply And.intro; (focus (first | exact q1 | exact q2 | exact q3))) | refine X_opc rfl ?_ | refine X_dopc rfl ?_ | refine ⟨(by show drawK _ _ = true; kernel_rfl : drawX _ _ _), ?_⟩ | exact (by show drawK _ _ = true; kernel_rfl : drawX _ _ _) | simp -dsimp (maxSteps := 20000000) (disch := omega) only [simx, zzC, zzB, tys, ite_self, opnL, callB, callX, readsB, stepOp, nilCmp, ofVal, opBuiltin, opLen, PV.sk, scalBin, scalUn, intBin, opLoad, natOf, opConvert, opField, cellsP, oneP, Value.oneCell', opStore, toIV, scalT, scalA, scalC, boxesA, boxesC, zipB_none, zipB_mx, isZ, opZip, zeroP, opAppendZ, opMakeMap, opLookup, mboxB, opUpdate, ↓reduceIte, Nat.reduceSub, Nat.reduceEqDiff, Nat.reduceAdd, Nat.reduceMul, Nat.reduceLT, Nat.reduceLeDiff, Int.reduceToNat, Int.reduceLE, Int.reduceLT, Int.reduceNeg, reduceCtorEq, zzR, gos, Int.reduceAdd, Int.reduceSub, Int.reduceMul, Int.reduceEq, e3])
              try simp [e3]
          · subst e1
            refine X_startP (n := 43) (m := 4) (rs := [.tmp 8]) Try.func14 rfl rfl rfl rfl (by decide) fun base => ?_
            repeat (first | ((first | refine X_call_fn2 rfl (by simp only [tys]) ?_ | refine X_dcall_fn2 rfl (by simp only [tys]) ?_); apply Exists.intro; apply And.intro; (focus (simp -dsimp only [simx, zzC, zzB, tys, ite_self, opnL, callB, callX, readsB, stepOp, nilCmp, ofVal, opBuiltin, opLen, PV.sk, scalBin, scalUn, intBin, opLoad, natOf, opConvert, opField, cellsP, oneP, Value.oneCell', opStore, toIV, scalT, scalA, scalC, boxesA, boxesC, zipB_none, zipB_mx, isZ, opZip, zeroP, opAppendZ, opMakeMap, opLookup, mboxB, opUpdate, ↓reduceIte, Nat.reduceSub, Nat.reduceEqDiff, Nat.reduceAdd, Nat.reduceMul, Nat.reduceLT, Nat.reduceLeDiff, Int.reduceToNat, Int.reduceLE, Int.reduceLT, Int.reduceNeg, reduceCtorEq, zzL, if_true, if_false] <;> rfl)); apply Exists.intro; apply And.intro; (focus (first | exact q1 | exact q2 | exact q3))) | refine X_opc rfl ?_ | refine X_dopc rfl ?_ | refine ⟨(by show drawK _ _ = true; kernel_rfl : drawX _ _ _), ?_⟩ | exact (by show drawK _ _ = true; kernel_rfl : drawX _ _ _) | simp -dsimp (maxSteps := 20000000) (disch := omega) only [simx, zzC, zzB, tys, ite_self, opnL, callB, callX, readsB, stepOp, nilCmp, ofVal, opBuiltin, opLen, PV.sk, scalBin, scalUn, intBin, opLoad, natOf, opConvert, opField, cellsP, oneP, Value.oneCell', opStore, toIV, scalT, scalA, scalC, boxesA, boxesC, zipB_none, zipB_mx, isZ, opZip, zeroP, opAppendZ, opMakeMap, opLookup, mboxB, opUpdate, ↓reduceIte, Nat.reduceSub, Nat.reduceEqDiff, Nat.reduceAdd, Nat.reduceMul, Nat.reduceLT, Nat.reduceLeDiff, Int.reduceToNat, Int.reduceLE, Int.reduceLT, Int.reduceNeg, reduceCtorEq, zzR, gos, Int.reduceAdd, Int.reduceSub, Int.reduceMul, Int.reduceEq, e2])
            try simp [e2]
        · refine X_startP (n := 43) (m := 4) (rs := [.tmp 8]) Try.func14 rfl rfl rfl rfl (by decide) fun base => ?_
          repeat (first | ((first | refine X_call_fn2 rfl (by simp only [tys]) ?_ | refine X_dcall_fn2 rfl (by simp only [tys]) ?_); apply Exists.intro; apply And.intro; (focus (simp -dsimp only [simx, zzC, zzB, tys, ite_self, opnL, callB, callX, readsB, stepOp, nilCmp, ofVal, opBuiltin, opLen, PV.sk, scalBin, scalUn, intBin, opLoad, natOf, opConvert, opField, cellsP, oneP, Value.oneCell', opStore, toIV, scalT, scalA, scalC, boxesA, boxesC, zipB_none, zipB_mx, isZ, opZip, zeroP, opAppendZ, opMakeMap, opLookup, mboxB, opUpdate, ↓reduceIte, Nat.reduceSub, Nat.reduceEqDiff, Nat.reduceAdd, Nat.reduceMul, Nat.reduceLT, Nat.reduceLeDiff, Int.reduceToNat, Int.reduceLE, Int.reduceLT, Int.reduceNeg, reduceCtorEq, zzL, if_true, if_false] <;> rfl)); apply Exists.intro; apply And.intro; (focus (first | exact q1 | exact q2 | exact q3))) | refine X_opc rfl ?_ | refine X_dopc rfl ?_ | refine ⟨(by show drawK _ _ = true; kernel_rfl : drawX _ _ _), ?_⟩ | exact (by show drawK _ _ = true; kernel_rfl : drawX _ _ _) | simp -dsimp (maxSteps := 20000000) (disch := omega) only [simx, zzC, zzB, tys, ite_self, opnL, callB, callX, readsB, stepOp, nilCmp, ofVal, opBuiltin, opLen, PV.sk, scalBin, scalUn, intBin, opLoad, natOf, opConvert, opField, cellsP, oneP, Value.oneCell', opStore, toIV, scalT, scalA, scalC, boxesA, boxesC, zipB_none, zipB_mx, isZ, opZip, zeroP, opAppendZ, opMakeMap, opLookup, mboxB, opUpdate, ↓reduceIte, Nat.reduceSub, Nat.reduceEqDiff, Nat.reduceAdd, Nat.reduceMul, Nat.reduceLT, Nat.reduceLeDiff, Int.reduceToNat, Int.reduceLE, Int.reduceLT, Int.reduceNeg, reduceCtorEq, zzR, gos, Int.reduceAdd, Int.reduceSub, Int.reduceMul, Int.reduceEq, e1])
          try simp [e1]
theorem short12_walk (r c : Int) (l : List Int) (r' c' : Int) (l' : List Int) (r'' c'' : Int) (l'' : List Int) : ∃ s, CallsP Try.prog 13 [matP r c l, matP r' c' l', matP r'' c'' l''] (bl s) := by
  have q1 := short_walk r c l
  have q2 := short_walk r' c' l'
  have q3 := short_walk r'' c'' l''
  generalize decide ((l.length : Int) ≤ 150) = s1 at q1
  generalize decide ((l'.length : Int) ≤ 150) = s2 at q2
  generalize decide ((l''.length : Int) ≤ 150) = s3 at q3
  cases s1 with
  | false =>
    refine ⟨false, ?_⟩
    refine X_startP (n := 17) (m := 3) (rs := [.tmp 6]) Try.func13 rfl rfl rfl rfl (by decide) fun base => ?_
    repeat (first | ((first | refine X_call_fn2 rfl (by simp only [tys]) ?_ | refine X_dcall_fn2 rfl (by simp only [tys]) ?_); apply Exists.intro; apply And.intro; (focus (simp -dsimp only [simx, zzC, zzB, tys, ite_self, opnL, callB, callX, readsB, stepOp, nilCmp, ofVal, opBuiltin, opLen, PV.sk, scalBin, scalUn, intBin, opLoad, natOf, opConvert, opField, cellsP, oneP, Value.oneCell', opStore, toIV, scalT, scalA, scalC, boxesA, boxesC, zipB_none, zipB_mx, isZ, opZip, zeroP, opAppendZ, opMakeMap, opLookup, mboxB, opUpdate, ↓reduceIte, Nat.reduceSub, Nat.reduceEqDiff, Nat.reduceAdd, Nat.reduceMul, Nat.reduceLT, Nat.reduceLeDiff, Int.reduceToNat, Int.reduceLE, Int.reduceLT, Int.reduceNeg, reduceCtorEq, zzL, if_true, if_false] <;> rfl)); apply Exists.intro; apply And.intro; (focus (first | exact q1))) | refine X_opc rfl ?_ | refine X_dopc rfl ?_ | refine ⟨(by show drawK _ _ = true; kernel_rfl : drawX _ _ _), ?_⟩ | exact (by show drawK _ _ = true; kernel_rfl : drawX _ _ _) | simp -dsimp (maxSteps := 20000000) (disch := omega) only [simx, zzC, zzB, tys, ite_self, opnL, callB, callX, readsB, stepOp, nilCmp, ofVal, opBuiltin, opLen, PV.sk, scalBin, scalUn, intBin, opLoad, natOf, opConvert, opField, cellsP, oneP, Value.oneCell', opStore, toIV, scalT, scalA, scalC, boxesA, boxesC, zipB_none, zipB_mx, isZ, opZip, zeroP, opAppendZ, opMakeMap, opLookup, mboxB, opUpdate, ↓reduceIte, Nat.reduceSub, Nat.reduceEqDiff, Nat.reduceAdd, Nat.reduceMul, Nat.reduceLT, Nat.reduceLeDiff, Int.reduceToNat, Int.reduceLE, Int.reduceLT, Int.reduceNeg, reduceCtorEq, zzR, gos, Int.reduceAdd, Int.reduceSub, Int.reduceMul, Int.reduceEq])
  | true =>
    cases s2 with
    | false =>
      refine ⟨false, ?_⟩
      refine X_startP (n := 17) (m := 3) (rs := [.tmp 6]) Try.func13 rfl rfl rfl rfl (by decide) fun base => ?_
      repeat (first | ((first | refine X_call_fn2 rfl (by simp only [tys]) ?_ | refine X_dcall_fn2 rfl (by simp only [tys]) ?_); apply Exists.intro; apply And.intro; (focus (simp -dsimp only [simx, zzC, zzB, tys, ite_self, opnL, callB, callX, readsB, stepOp, nilCmp, ofVal, opBuiltin, opLen, PV.sk, scalBin, scalUn, intBin, opLoad, natOf, opConvert, opField, cellsP, oneP, Value.oneCell', opStore, toIV, scalT, scalA, scalC, boxesA, boxesC, zipB_none, zipB_mx, isZ, opZip, zeroP, opAppendZ, opMakeMap, opLookup, mboxB, opUpdate, ↓reduceIte, Nat.reduceSub, Nat.reduceEqDiff, Nat.reduceAdd, Nat.reduceMul, Nat.reduceLT, Nat.reduceLeDiff, Int.reduceToNat, Int.reduceLE, Int.reduceLT, Int.reduceNeg, reduceCtorEq, zzL, if_true, if_false] <;> rfl)); apply Exists.intro; apply And.intro; (focus (first | exact q1 | exact q2))) | refine X_opc rfl ?_ | refine X_dopc rfl ?_ | refine ⟨(by show drawK _ _ = true; kernel_rfl : drawX _ _ _), ?_⟩ | exact (by show drawK _ _ = true; kernel_rfl : drawX _ _ _) | simp -dsimp (maxSteps := 20000000) (disch := omega) only [simx, zzC, zzB, tys, ite_self, opnL, callB, callX, readsB, stepOp, nilCmp, ofVal, opBuiltin, opLen, PV.sk, scalBin, scalUn, intBin, opLoad, natOf, opConvert, opField, cellsP, oneP, Value.oneCell', opStore, toIV, scalT, scalA, scalC, boxesA, boxesC, zipB_none, zipB_mx, isZ, opZip, zeroP, opAppendZ, opMakeMap, opLookup, mboxB, opUpdate, ↓reduceIte, Nat.reduceSub, Nat.reduceEqDiff, Nat.reduceAdd, Nat.reduceMul, Nat.reduceLT, Nat.reduceLeDiff, Int.reduceToNat, Int.reduceLE, Int.reduceLT, Int.reduceNeg, reduceCtorEq, zzR, gos, Int.reduceAdd, Int.reduceSub, Int.reduceMul, Int.reduceEq])
    | true =>
      refine ⟨s3, ?_⟩
      refine X_startP (n := 17) (m := 3) (rs := [.tmp 6]) Try.func13 rfl rfl rfl rfl (by decide) fun base => ?_
      repeat (first | ((first | refine X_call_fn2 rfl (by simp only [tys]) ?_ | refine X_dcall_fn2 rfl (by simp only [tys]) ?_); apply Exists.intro; apply And.intro; (focus (simp -dsimp only [simx, zzC, zzB, tys, ite_self, opnL, callB, callX, readsB, stepOp, nilCmp, ofVal, opBuiltin, opLen, PV.sk, scalBin, scalUn, intBin, opLoad, natOf, opConvert, opField, cellsP, oneP, Value.oneCell', opStore, toIV, scalT, scalA, scalC, boxesA, boxesC, zipB_none, zipB_mx, isZ, opZip, zeroP, opAppendZ, opMakeMap, opLookup, mboxB, opUpdate, ↓reduceIte, Nat.reduceSub, Nat.reduceEqDiff, Nat.reduceAdd, Nat.reduceMul, Nat.reduceLT, Nat.reduceLeDiff, Int.reduceToNat, Int.reduceLE, Int.reduceLT, Int.reduceNeg, reduceCtorEq, zzL, if_true, if_false] <;> rfl)); apply Exists.intro; apply And.intro; (focus (first | exact q1 | exact q2 | exact q3))) | refine X_opc rfl ?_ | refine X_dopc rfl ?_ | refine ⟨(by show drawK _ _ = true; kernel_rfl : drawX _ _ _), ?_⟩ | exact (by show drawK _ _ = true; kernel_rfl : drawX _ _ _) | simp -dsimp (maxSteps := 20000000) (disch := omega) only [simx, zzC, zzB, tys, ite_self, opnL, callB, callX, readsB, stepOp, nilCmp, ofVal, opBuiltin, opLen, PV.sk, scalBin, scalUn, intBin, opLoad, natOf, opConvert, opField, cellsP, oneP, Value.oneCell', opStore, toIV, scalT, scalA, scalC, boxesA, boxesC, zipB_none, zipB_mx, isZ, opZip, zeroP, opAppendZ, opMakeMap, opLookup, mboxB, opUpdate, ↓reduceIte, Nat.reduceSub, Nat.reduceEqDiff, Nat.reduceAdd, Nat.reduceMul, Nat.reduceLT, Nat.reduceLeDiff, Int.reduceToNat, Int.reduceLE, Int.reduceLT, Int.reduceNeg, reduceCtorEq, zzR, gos, Int.reduceAdd, Int.reduceSub, Int.reduceMul, Int.reduceEq])
theorem one12_walk (x : Int) : CallsP Try.prog 50 [u64 x] (matP 1 1 [x]) := by
  refine X_startP (n := 6) (m := 1) (rs := [.cell 2 25]) Try.func50 rfl rfl rfl rfl (by decide) fun base => ?_
  repeat (first | refine X_opc rfl ?_ | refine X_dopc rfl ?_ | refine ⟨(by show drawK _ _ = true; kernel_rfl : drawX _ _ _), ?_⟩ | exact (by show drawK _ _ = true; kernel_rfl : drawX _ _ _) | simp -dsimp (maxSteps := 20000000) (disch := omega) only [simx, zzC, zzB, tys, ite_self, opnL, callB, callX, readsB, stepOp, nilCmp, ofVal, opBuiltin, opLen, PV.sk, scalBin, scalUn, intBin, opLoad, natOf, opConvert, opField, cellsP, oneP, Value.oneCell', opStore, toIV, scalT, scalA, scalC, boxesA, boxesC, zipB_none, zipB_mx, isZ, opZip, zeroP, opAppendZ, opMakeMap, opLookup, mboxB, opUpdate, ↓reduceIte, Nat.reduceSub, Nat.reduceEqDiff, Nat.reduceAdd, Nat.reduceMul, Nat.reduceLT, Nat.reduceLeDiff, Int.reduceToNat, Int.reduceLE, Int.reduceLT, Int.reduceNeg, reduceCtorEq, zzR, gos, Int.reduceAdd, Int.reduceSub, Int.reduceMul, Int.reduceEq])
  rfl
theorem side12_walk : CallsP Try.prog 103 [i64 1] (bl true) := by
  refine X_startP (n := 9) (m := 1) (rs := [.tmp 2]) Try.func103 rfl rfl rfl rfl (by decide) fun base => ?_
  repeat (first | refine X_opc rfl ?_ | refine X_dopc rfl ?_ | refine ⟨(by show drawK _ _ = true; kernel_rfl : drawX _ _ _), ?_⟩ | exact (by show drawK _ _ = true; kernel_rfl : drawX _ _ _) | simp -dsimp (maxSteps := 20000000) (disch := omega) only [simx, zzC, zzB, tys, ite_self, opnL, callB, callX, readsB, stepOp, nilCmp, ofVal, opBuiltin, opLen, PV.sk, scalBin, scalUn, intBin, opLoad, natOf, opConvert, opField, cellsP, oneP, Value.oneCell', opStore, toIV, scalT, scalA, scalC, boxesA, boxesC, zipB_none, zipB_mx, isZ, opZip, zeroP, opAppendZ, opMakeMap, opLookup, mboxB, opUpdate, ↓reduceIte, Nat.reduceSub, Nat.reduceEqDiff, Nat.reduceAdd, Nat.reduceMul, Nat.reduceLT, Nat.reduceLeDiff, Int.reduceToNat, Int.reduceLE, Int.reduceLT, Int.reduceNeg, reduceCtorEq, zzR, gos, Int.reduceAdd, Int.reduceSub, Int.reduceMul, Int.reduceEq])
theorem prm7_12 : Prm 7 := ⟨by decide, fun a h0 h1 => by
  have : a = 1 ∨ a = 2 ∨ a = 3 ∨ a = 4 ∨ a = 5 ∨ a = 6 := by omega
  rcases this with rfl | rfl | rfl | rfl | rfl | rfl <;> decide⟩
set_option maxRecDepth 100000 in
set_option maxHeartbeats 4000000 in
theorem awake12_walk : CallsP Try.prog 11 [] (bl true) := by
  have M : ∀ x : Int, 0 ≤ x → x < 7 → Mt ((7 : Nat) : Int) ((1 : Nat)) (1 : Nat) [x] := fun x h0 h1 => ⟨⟨by decide, by decide⟩, by decide, by decide, by decide, by decide, rfl, fun a ha => by rw [List.mem_singleton.1 ha]; exact h1⟩
  have I : ∀ x : Int, 0 ≤ x → x < 7 → ∀ a ∈ [x], In ((7 : Nat) : Int) a := fun x h0 h1 a ha => by rw [List.mem_singleton.1 ha]; exact ⟨h0, h1⟩
  have o2 := one12_walk 2
  have o3 := one12_walk 3
  have o6 := one12_walk 6
  have o5 := one12_walk 5
  have o1 := one12_walk 1
  have l1 := looks_of (M 2 (by decide) (by decide)) (M 3 (by decide) (by decide)) (M 6 (by decide) (by decide)) (I 2 (by decide) (by decide)) (I 3 (by decide) (by decide)) (I 6 (by decide) (by decide)) (x := [5]) (I 5 (by decide) (by decide)) rfl
  rw [show decide (timesM ((7 : Nat) : Int) 1 1 [2] (timesM ((7 : Nat) : Int) 1 1 [3] [5]) = timesM ((7 : Nat) : Int) 1 1 [6] [5]) = true by decide +kernel] at l1
  have l2 := looks_of (M 2 (by decide) (by decide)) (M 3 (by decide) (by decide)) (M 5 (by decide) (by decide)) (I 2 (by decide) (by decide)) (I 3 (by decide) (by decide)) (I 5 (by decide) (by decide)) (x := [5]) (I 5 (by decide) (by decide)) rfl
  rw [show decide (timesM ((7 : Nat) : Int) 1 1 [2] (timesM ((7 : Nat) : Int) 1 1 [3] [5]) = timesM ((7 : Nat) : Int) 1 1 [5] [5]) = false by decide +kernel] at l2
  have l3 := left12_of (M 2 (by decide) (by decide)) (M 3 (by decide) (by decide)) (M 6 (by decide) (by decide)) (I 2 (by decide) (by decide)) (I 3 (by decide) (by decide)) (I 6 (by decide) (by decide)) (y := [1]) (I 1 (by decide) (by decide)) rfl
  rw [show decide (leftM ((7 : Nat) : Int) (leftM ((7 : Nat) : Int) [1] 1 1 [2]) 1 1 [3] = leftM ((7 : Nat) : Int) [1] 1 1 [6]) = true by decide +kernel] at l3
  have l4 := wrong_of (M 2 (by decide) (by decide)) (M 3 (by decide) (by decide)) (M 5 (by decide) (by decide)) (I 2 (by decide) (by decide)) (I 3 (by decide) (by decide)) (I 5 (by decide) (by decide))
  rw [show wrongM ((7 : Nat) : Int) (mulM ((7 : Nat) : Int) 1 1 [2] 1 [3]) [5] = [1] by decide +kernel] at l4
  have l5 := silent_of prm7_12 (M 2 (by decide) (by decide)) (M 3 (by decide) (by decide)) (M 5 (by decide) (by decide)) (I 2 (by decide) (by decide)) (I 3 (by decide) (by decide)) (I 5 (by decide) (by decide)) (by decide)
  rw [show ((7 ^ (1 - (tkCup ((7 : Nat) : Int) 1 1 (wrongM ((7 : Nat) : Int) (mulM ((7 : Nat) : Int) 1 1 [2] 1 [3]) [5])).1.length) : Nat) : Int) = 1 by decide +kernel] at l5
  have l6 := looks_of (M 2 (by decide) (by decide)) (M 3 (by decide) (by decide)) (M 5 (by decide) (by decide)) (I 2 (by decide) (by decide)) (I 3 (by decide) (by decide)) (I 5 (by decide) (by decide)) (x := [1]) (I 1 (by decide) (by decide)) rfl
  rw [show decide (timesM ((7 : Nat) : Int) 1 1 [2] (timesM ((7 : Nat) : Int) 1 1 [3] [1]) = timesM ((7 : Nat) : Int) 1 1 [5] [1]) = false by decide +kernel] at l6
  have l7 := msame_walk 1 1 [1] 1 1 [1] (by decide)
  rw [show sameMB 1 1 [1] 1 1 [1] = true by decide] at l7
  have l8 : CallsP Try.prog 52 [u64 ((7 : Nat) : Int), matP ((1 : Nat) : Int) ((1 : Nat) : Int) [2], matP ((1 : Nat) : Int) ((1 : Nat) : Int) [3], matP ((1 : Nat) : Int) ((1 : Nat) : Int) [5], lu [1]] (bl true) := by
    refine X_startP (n := 28) (m := 5) (rs := [.tmp 10]) Try.func52 rfl rfl rfl rfl (by decide) fun base => ?_
    repeat (first | ((first | refine X_call_fn2 rfl (by simp only [tys]) ?_ | refine X_dcall_fn2 rfl (by simp only [tys]) ?_); apply Exists.intro; apply And.intro; (focus (simp -dsimp only [simx, zzC, zzB, tys, ite_self, opnL, callB, callX, readsB, stepOp, nilCmp, ofVal, opBuiltin, opLen, PV.sk, scalBin, scalUn, intBin, opLoad, natOf, opConvert, opField, cellsP, oneP, Value.oneCell', opStore, toIV, scalT, scalA, scalC, boxesA, boxesC, zipB_none, zipB_mx, isZ, opZip, zeroP, opAppendZ, opMakeMap, opLookup, mboxB, opUpdate, ↓reduceIte, Nat.reduceSub, Nat.reduceEqDiff, Nat.reduceAdd, Nat.reduceMul, Nat.reduceLT, Nat.reduceLeDiff, Int.reduceToNat, Int.reduceLE, Int.reduceLT, Int.reduceNeg, reduceCtorEq, zzL, if_true, if_false] <;> rfl)); apply Exists.intro; apply And.intro; (focus (first | exact l6))) | refine X_opc rfl ?_ | refine X_dopc rfl ?_ | refine ⟨(by show drawK _ _ = true; kernel_rfl : drawX _ _ _), ?_⟩ | exact (by show drawK _ _ = true; kernel_rfl : drawX _ _ _) | simp -dsimp (maxSteps := 20000000) (disch := omega) only [simx, zzC, zzB, tys, ite_self, opnL, callB, callX, readsB, stepOp, nilCmp, ofVal, opBuiltin, opLen, PV.sk, scalBin, scalUn, intBin, opLoad, natOf, opConvert, opField, cellsP, oneP, Value.oneCell', opStore, toIV, scalT, scalA, scalC, boxesA, boxesC, zipB_none, zipB_mx, isZ, opZip, zeroP, opAppendZ, opMakeMap, opLookup, mboxB, opUpdate, ↓reduceIte, Nat.reduceSub, Nat.reduceEqDiff, Nat.reduceAdd, Nat.reduceMul, Nat.reduceLT, Nat.reduceLeDiff, Int.reduceToNat, Int.reduceLE, Int.reduceLT, Int.reduceNeg, reduceCtorEq, zzR, gos, Int.reduceAdd, Int.reduceSub, Int.reduceMul, Int.reduceEq])
  have s1 := side12_walk
  have l9 : CallsP Try.prog 53 [matP 1 1 [2], matP 1 1 [3]] (i64 3) := by
    refine X_startP (n := 51) (m := 2) (rs := [.tmp 4]) Try.func53 rfl rfl rfl rfl (by decide) fun base => ?_
    repeat (first | ((first | refine X_call_fn2 rfl (by simp only [tys]) ?_ | refine X_dcall_fn2 rfl (by simp only [tys]) ?_); apply Exists.intro; apply And.intro; (focus (simp -dsimp only [simx, zzC, zzB, tys, ite_self, opnL, callB, callX, readsB, stepOp, nilCmp, ofVal, opBuiltin, opLen, PV.sk, scalBin, scalUn, intBin, opLoad, natOf, opConvert, opField, cellsP, oneP, Value.oneCell', opStore, toIV, scalT, scalA, scalC, boxesA, boxesC, zipB_none, zipB_mx, isZ, opZip, zeroP, opAppendZ, opMakeMap, opLookup, mboxB, opUpdate, ↓reduceIte, Nat.reduceSub, Nat.reduceEqDiff, Nat.reduceAdd, Nat.reduceMul, Nat.reduceLT, Nat.reduceLeDiff, Int.reduceToNat, Int.reduceLE, Int.reduceLT, Int.reduceNeg, reduceCtorEq, zzL, if_true, if_false] <;> rfl)); apply Exists.intro; apply And.intro; (focus (first | exact s1))) | refine X_opc rfl ?_ | refine X_dopc rfl ?_ | refine ⟨(by show drawK _ _ = true; kernel_rfl : drawX _ _ _), ?_⟩ | exact (by show drawK _ _ = true; kernel_rfl : drawX _ _ _) | simp -dsimp (maxSteps := 20000000) (disch := omega) only [simx, zzC, zzB, tys, ite_self, opnL, callB, callX, readsB, stepOp, nilCmp, ofVal, opBuiltin, opLen, PV.sk, scalBin, scalUn, intBin, opLoad, natOf, opConvert, opField, cellsP, oneP, Value.oneCell', opStore, toIV, scalT, scalA, scalC, boxesA, boxesC, zipB_none, zipB_mx, isZ, opZip, zeroP, opAppendZ, opMakeMap, opLookup, mboxB, opUpdate, ↓reduceIte, Nat.reduceSub, Nat.reduceEqDiff, Nat.reduceAdd, Nat.reduceMul, Nat.reduceLT, Nat.reduceLeDiff, Int.reduceToNat, Int.reduceLE, Int.reduceLT, Int.reduceNeg, reduceCtorEq, zzR, gos, Int.reduceAdd, Int.reduceSub, Int.reduceMul, Int.reduceEq])
  clear M I l6
  refine X_startP (n := 99) (m := 0) (rs := [.tmp 0]) Try.func11 rfl rfl rfl rfl (by decide) fun base => ?_
  repeat (first | ((first | refine X_call_fn2 rfl (by simp only [tys]) ?_ | refine X_dcall_fn2 rfl (by simp only [tys]) ?_); apply Exists.intro; apply And.intro; (focus (simp -dsimp only [simx, zzC, zzB, tys, ite_self, opnL, callB, callX, readsB, stepOp, nilCmp, ofVal, opBuiltin, opLen, PV.sk, scalBin, scalUn, intBin, opLoad, natOf, opConvert, opField, cellsP, oneP, Value.oneCell', opStore, toIV, scalT, scalA, scalC, boxesA, boxesC, zipB_none, zipB_mx, isZ, opZip, zeroP, opAppendZ, opMakeMap, opLookup, mboxB, opUpdate, ↓reduceIte, Nat.reduceSub, Nat.reduceEqDiff, Nat.reduceAdd, Nat.reduceMul, Nat.reduceLT, Nat.reduceLeDiff, Int.reduceToNat, Int.reduceLE, Int.reduceLT, Int.reduceNeg, reduceCtorEq, zzL, if_true, if_false] <;> rfl)); apply Exists.intro; apply And.intro; (focus (first | exact o1 | exact o2 | exact o3 | exact o5 | exact o6 | exact l1 | exact l2 | exact l3 | exact l4 | exact l5 | exact l7 | exact l8 | exact l9))) | refine X_opc rfl ?_ | refine X_dopc rfl ?_ | refine ⟨(by show drawK _ _ = true; kernel_rfl : drawX _ _ _), ?_⟩ | exact (by show drawK _ _ = true; kernel_rfl : drawX _ _ _) | simp -dsimp (maxSteps := 20000000) (disch := omega) only [simx, zzC, zzB, tys, ite_self, opnL, callB, callX, readsB, stepOp, nilCmp, ofVal, opBuiltin, opLen, PV.sk, scalBin, scalUn, intBin, opLoad, natOf, opConvert, opField, cellsP, oneP, Value.oneCell', opStore, toIV, scalT, scalA, scalC, boxesA, boxesC, zipB_none, zipB_mx, isZ, opZip, zeroP, opAppendZ, opMakeMap, opLookup, mboxB, opUpdate, ↓reduceIte, Nat.reduceSub, Nat.reduceEqDiff, Nat.reduceAdd, Nat.reduceMul, Nat.reduceLT, Nat.reduceLeDiff, Int.reduceToNat, Int.reduceLE, Int.reduceLT, Int.reduceNeg, reduceCtorEq, zzR, gos, Int.reduceAdd, Int.reduceSub, Int.reduceMul, Int.reduceEq, SK.len])
end Go.Proofs.Ytmalpmnmknpphaa.TM
namespace Go.Proofs.Ytmalpmnmknpphaa.TM
open Go Go.RowKit
attribute [local irreducible] K W WOps Effs Xg Xo Xr Xdg Xdo Xdr Xif CallsP CallR
theorem meet_iff {p r c r' c' r'' c'' : Int} {l l' l'' : List Int} (h : meetB p r c l r' c' l' r'' c'' l'' = true) : ∃ R S C : Nat, r = R ∧ c = S ∧ r' = S ∧ c' = C ∧ r'' = R ∧ c'' = C ∧ Mt p R S l ∧ Mt p S C l' ∧ Mt p R C l'' := by
  unfold meetB at h
  simp only [Bool.and_eq_true, decide_eq_true_eq] at h
  obtain ⟨h1, h2, h3, e1, e2, e3⟩ := h
  obtain ⟨R, S, a1, a2, A⟩ := mat_of h1
  obtain ⟨S', C, b1, b2, B⟩ := mat_of h2
  obtain ⟨R', C', k1, k2, K⟩ := mat_of h3
  obtain rfl : S = S' := by omega
  obtain rfl : R = R' := by omega
  obtain rfl : C = C' := by omega
  exact ⟨R, S, C, a1, a2, b1, b2, k1, k2, A, B, K⟩
theorem pass_cnt {P R S C : Nat} {a b c : List Int} (hP : Prm P) (A : Mt P R S a) (B : Mt P S C b) (K : Mt P R C c) : ∃ f : Nat → Bool, (∀ n, f n = decide (timesM P R S a (timesM P S C b (vecL P n C)) = timesM P R C c (vecL P n C))) ∧
    cntN (P ^ C) f = P ^ (C - (tkCup P C R (wrongM P (mulM P R S a C b) c)).1.length) ∧ (zerB (wrongM P (mulM P R S a C b) c) = true → cntN (P ^ C) f = P ^ C) ∧ (zerB (wrongM P (mulM P R S a C b) c) = false → cntN (P ^ C) f ≤ P ^ (C - 1)) := by
  have W := wrong_mt (c := c) A B
  have win := wrongM_in A.hp (mulM P R S a C b) c
  have hk := cnt_ker hP W win
  have hz : (tkCup P C R (wrongM P (mulM P R S a C b) c)).1.length = 0 → wrongM P (mulM P R S a C b) c = zeroV (R * C) := rank_zero hP W win
  refine ⟨kB P R C (cl C (wrongM P (mulM P R S a C b) c)), fun n => ?_, hk, fun h => ?_, fun h => ?_⟩
  · have h1 := look_iff (P := P) A.len B.len K.len (vecL_len P n C)
    have h2 := ker_vec (P := P) W.len (n := n)
    by_cases h : timesM P R S a (timesM P S C b (vecL P n C)) = timesM P R C c (vecL P n C)
    · rw [decide_eq_true h]; exact h2.2 (h1.1 h)
    · rw [decide_eq_false h]
      cases hb : kB P R C (cl C (wrongM P (mulM P R S a C b) c)) n with
      | false => rfl
      | true => exact absurd (h1.2 (h2.1 hb)) h
  · refine cnt_all fun n _ => (ker_vec W.len).2 ?_
    have wz : wrongM P (mulM P R S a C b) c = zeroV (R * C) := list_ext0 W.len (zeroV_len _) fun i hi => by rw [(zerB_iff _).1 h i (by rw [W.len]; exact hi), zeroV_get0 hi]
    refine list_ext0 (timesM_len ..) (zeroV_len R) fun i hi => ?_
    rw [timesM_ap W.len (vecL_len ..) hi, zeroV_get0 hi, wz]
    unfold apX
    rw [sumN_congr (g := fun _ => 0) fun j hj => by
      unfold cl
      have := ic_bd (c := C) hi
      rw [zeroV_get0 (by omega), Int.zero_mul], sumN_zero]; rfl
  · rw [hk]
    refine Nat.pow_le_pow_right (by have := hP.1; omega) ?_
    have : (tkCup P C R (wrongM P (mulM P R S a C b) c)).1.length ≠ 0 := fun e => by
      rw [hz e] at h
      have : zerB (zeroV (R * C)) = true := (zerB_iff _).2 fun i hi => zeroV_get0 (by rw [zeroV_len] at hi; exact hi)
      rw [this] at h; cases h
    omega
end Go.Proofs.Ytmalpmnmknpphaa.TM
namespace Go.Proofs.Ytmalpmnmknpphaa.TM
open Go Go.RowKit
attribute [local irreducible] K W WOps Effs Xg Xo Xr Xdg Xdo Xdr Xif CallsP CallR
theorem turn12_of {P R C : Nat} {l : List Int} (M : Mt P R C l) : CallsP Try.prog 20 [u64 P, matP R C l] (.tup [matP C R (turnM R C l), i64 0]) := by
  have h := turn_walk P R C l (len_ok M)
  unfold turnR at h
  rw [mat_mk M] at h
  simpa using h
theorem turn_in {P R C : Nat} {l : List Int} (M : Mt P R C l) (h : ∀ a ∈ l, In P a) : ∀ a ∈ turnM R C l, In P a := fun a ha => h a (turnM_mem M.r1 M.len ha)
theorem wrong_zero {P R S C : Nat} {a b c : List Int} (A : Mt P R S a) (B : Mt P S C b) (K : Mt P R C c) : zerB (wrongM P (mulM P C S (turnM S C b) R (turnM R S a)) (turnM R C c)) = zerB (wrongM P (mulM P R S a C b) c) := by
  have W := wrong_mt (c := c) A B
  have W' := wrong_mt (c := turnM R C c) (turn_mt B) (turn_mt A)
  have e := fun i j hi hj => wrong_turn (P := P) (i := i) (j := j) A.len B.len K.len hi hj
  generalize wrongM P (mulM P R S a C b) c = w at *
  generalize wrongM P (mulM P C S (turnM S C b) R (turnM R S a)) (turnM R C c) = w' at *
  have cell : ∀ {m n : Nat} {x : List Int}, x.length = m * n → (zerB x = true ↔ ∀ i j, i < m → j < n → cl n x i j = 0) := fun {m n x} hx => by
    rw [zerB_iff]
    constructor
    · intro h i j hi hj
      have := ic_bd (c := n) hi
      exact h _ (by omega)
    · intro h q hq
      rw [hx] at hq
      have hn : 0 < n := by
        rcases Nat.eq_zero_or_pos n with e | e
        · rw [e, Nat.mul_zero] at hq; omega
        · exact e
      have h1 := h (q / n) (q % n) (Nat.div_lt_of_lt_mul (by rw [Nat.mul_comm]; exact hq)) (Nat.mod_lt _ hn)
      unfold cl at h1
      rwa [show q / n * n + q % n = q by rw [Nat.mul_comm]; exact Nat.div_add_mod q n] at h1
  have c1 := cell W.len
  have c2 := cell W'.len
  cases h : zerB w with
  | true => exact c2.2 fun j i hj hi => by rw [e i j hi hj]; exact c1.1 h i j hi hj
  | false =>
    cases h' : zerB w' with
    | false => rfl
    | true =>
      rw [c1.2 fun i j hi hj => by rw [← e i j hi hj]; exact c2.1 h' j i hj hi] at h
      cases h
set_option maxHeartbeats 16000000 in
theorem foldSides_true (a0 : Int) (a1 : Int × Int × List Int) (a2 : Int × Int × List Int) (a3 : Int × Int × List Int) (w0 : (Lit.int .u64 a0).wf = true) (w1 : ((Lit.int .i64 a1.1).wf = true ∧ (Lit.int .i64 a1.2.1).wf = true ∧ (a1.2.2.length ≤ maxLen ∧ ∀ e23_ ∈ a1.2.2, (Lit.int .u64 e23_).wf = true))) (w2 : ((Lit.int .i64 a2.1).wf = true ∧ (Lit.int .i64 a2.2.1).wf = true ∧ (a2.2.2.length ≤ maxLen ∧ ∀ e23_ ∈ a2.2.2, (Lit.int .u64 e23_).wf = true))) (w3 : ((Lit.int .i64 a3.1).wf = true ∧ (Lit.int .i64 a3.2.1).wf = true ∧ (a3.2.2.length ≤ maxLen ∧ ∀ e23_ ∈ a3.2.2, (Lit.int .u64 e23_).wf = true))) :
    CallsP Try.prog 4 [.i (IV.v (.int .u64 a0)), .agg [.i (IV.v (.int .i64 a1.1)), .i (IV.v (.int .i64 a1.2.1)), .i (IV.l a1.2.2.length (a1.2.2.map fun y => IV.v (.int .u64 y)))], .agg [.i (IV.v (.int .i64 a2.1)), .i (IV.v (.int .i64 a2.2.1)), .i (IV.l a2.2.2.length (a2.2.2.map fun y => IV.v (.int .u64 y)))], .agg [.i (IV.v (.int .i64 a3.1)), .i (IV.v (.int .i64 a3.2.1)), .i (IV.l a3.2.2.length (a3.2.2.map fun y => IV.v (.int .u64 y)))]] (bl true) := by
  obtain ⟨r, c, a⟩ := a1
  obtain ⟨r', c', b⟩ := a2
  obtain ⟨r'', c'', k⟩ := a3
  obtain ⟨v1, v2, v3, v4⟩ := w1
  obtain ⟨u1, u2, u3, u4⟩ := w2
  obtain ⟨z1, z2, z3, z4⟩ := w3
  simp only at v1 v2 v3 v4 u1 u2 u3 u4 z1 z2 z3 z4 ⊢
  have wp := w64_of w0
  obtain ⟨P, rfl⟩ : ∃ P : Nat, a0 = P := ⟨a0.toNat, by have := wp.1; omega⟩
  have wl := w64_all v4
  have wb := w64_all u4
  have wk := w64_all z4
  have d0 := awake12_walk
  change CallsP Try.prog 4 [u64 P, matP r c a, matP r' c' b, matP r'' c'' k] (bl true)
  by_cases c0 : (11 : Int) < P
  · refine X_startP (n := 173) (m := 4) (rs := [.tmp 8]) Try.func4 rfl rfl rfl rfl (by decide) fun base => ?_
    repeat (first | ((first | refine X_call_fn2 rfl (by simp only [tys]) ?_ | refine X_dcall_fn2 rfl (by simp only [tys]) ?_); apply Exists.intro; apply And.intro; (focus (simp -dsimp only [simx, zzC, zzB, tys, ite_self, opnL, callB, callX, readsB, stepOp, nilCmp, ofVal, opBuiltin, opLen, PV.sk, scalBin, scalUn, intBin, opLoad, natOf, opConvert, opField, cellsP, oneP, Value.oneCell', opStore, toIV, scalT, scalA, scalC, boxesA, boxesC, zipB_none, zipB_mx, isZ, opZip, zeroP, opAppendZ, opMakeMap, opLookup, mboxB, opUpdate, ↓reduceIte, Nat.reduceSub, Nat.reduceEqDiff, Nat.reduceAdd, Nat.reduceMul, Nat.reduceLT, Nat.reduceLeDiff, Int.reduceToNat, Int.reduceLE, Int.reduceLT, Int.reduceNeg, reduceCtorEq, zzL, if_true, if_false] <;> rfl)); apply Exists.intro; apply And.intro; (focus (first | exact d0))) | refine X_opc rfl ?_ | refine X_dopc rfl ?_ | refine ⟨(by show drawK _ _ = true; kernel_rfl : drawX _ _ _), ?_⟩ | exact (by show drawK _ _ = true; kernel_rfl : drawX _ _ _) | simp -dsimp (maxSteps := 20000000) (disch := omega) only [simx, zzC, zzB, tys, ite_self, opnL, callB, callX, readsB, stepOp, nilCmp, ofVal, opBuiltin, opLen, PV.sk, scalBin, scalUn, intBin, opLoad, natOf, opConvert, opField, cellsP, oneP, Value.oneCell', opStore, toIV, scalT, scalA, scalC, boxesA, boxesC, zipB_none, zipB_mx, isZ, opZip, zeroP, opAppendZ, opMakeMap, opLookup, mboxB, opUpdate, ↓reduceIte, Nat.reduceSub, Nat.reduceEqDiff, Nat.reduceAdd, Nat.reduceMul, Nat.reduceLT, Nat.reduceLeDiff, Int.reduceToNat, Int.reduceLE, Int.reduceLT, Int.reduceNeg, reduceCtorEq, zzR, gos, Int.reduceAdd, Int.reduceSub, Int.reduceMul, Int.reduceEq, c0])
  obtain ⟨pb, d1, hpr⟩ := is_walk P (by omega)
  obtain ⟨sb, d2⟩ := short12_walk r c a r' c' b r'' c'' k
  have d3 := meet12_walk P r c a r' c' b r'' c'' k v3 u3 z3
  cases pb with
  | false =>
    refine X_startP (n := 173) (m := 4) (rs := [.tmp 8]) Try.func4 rfl rfl rfl rfl (by decide) fun base => ?_
    repeat (first | ((first | refine X_call_fn2 rfl (by simp only [tys]) ?_ | refine X_dcall_fn2 rfl (by simp only [tys]) ?_); apply Exists.intro; apply And.intro; (focus (simp -dsimp only [simx, zzC, zzB, tys, ite_self, opnL, callB, callX, readsB, stepOp, nilCmp, ofVal, opBuiltin, opLen, PV.sk, scalBin, scalUn, intBin, opLoad, natOf, opConvert, opField, cellsP, oneP, Value.oneCell', opStore, toIV, scalT, scalA, scalC, boxesA, boxesC, zipB_none, zipB_mx, isZ, opZip, zeroP, opAppendZ, opMakeMap, opLookup, mboxB, opUpdate, ↓reduceIte, Nat.reduceSub, Nat.reduceEqDiff, Nat.reduceAdd, Nat.reduceMul, Nat.reduceLT, Nat.reduceLeDiff, Int.reduceToNat, Int.reduceLE, Int.reduceLT, Int.reduceNeg, reduceCtorEq, zzL, if_true, if_false] <;> rfl)); apply Exists.intro; apply And.intro; (focus (first | exact d0 | exact d1))) | refine X_opc rfl ?_ | refine X_dopc rfl ?_ | refine ⟨(by show drawK _ _ = true; kernel_rfl : drawX _ _ _), ?_⟩ | exact (by show drawK _ _ = true; kernel_rfl : drawX _ _ _) | simp -dsimp (maxSteps := 20000000) (disch := omega) only [simx, zzC, zzB, tys, ite_self, opnL, callB, callX, readsB, stepOp, nilCmp, ofVal, opBuiltin, opLen, PV.sk, scalBin, scalUn, intBin, opLoad, natOf, opConvert, opField, cellsP, oneP, Value.oneCell', opStore, toIV, scalT, scalA, scalC, boxesA, boxesC, zipB_none, zipB_mx, isZ, opZip, zeroP, opAppendZ, opMakeMap, opLookup, mboxB, opUpdate, ↓reduceIte, Nat.reduceSub, Nat.reduceEqDiff, Nat.reduceAdd, Nat.reduceMul, Nat.reduceLT, Nat.reduceLeDiff, Int.reduceToNat, Int.reduceLE, Int.reduceLT, Int.reduceNeg, reduceCtorEq, zzR, gos, Int.reduceAdd, Int.reduceSub, Int.reduceMul, Int.reduceEq, c0])
  | true =>
    have hP := hpr rfl
    cases sb with
    | false =>
      refine X_startP (n := 173) (m := 4) (rs := [.tmp 8]) Try.func4 rfl rfl rfl rfl (by decide) fun base => ?_
      repeat (first | ((first | refine X_call_fn2 rfl (by simp only [tys]) ?_ | refine X_dcall_fn2 rfl (by simp only [tys]) ?_); apply Exists.intro; apply And.intro; (focus (simp -dsimp only [simx, zzC, zzB, tys, ite_self, opnL, callB, callX, readsB, stepOp, nilCmp, ofVal, opBuiltin, opLen, PV.sk, scalBin, scalUn, intBin, opLoad, natOf, opConvert, opField, cellsP, oneP, Value.oneCell', opStore, toIV, scalT, scalA, scalC, boxesA, boxesC, zipB_none, zipB_mx, isZ, opZip, zeroP, opAppendZ, opMakeMap, opLookup, mboxB, opUpdate, ↓reduceIte, Nat.reduceSub, Nat.reduceEqDiff, Nat.reduceAdd, Nat.reduceMul, Nat.reduceLT, Nat.reduceLeDiff, Int.reduceToNat, Int.reduceLE, Int.reduceLT, Int.reduceNeg, reduceCtorEq, zzL, if_true, if_false] <;> rfl)); apply Exists.intro; apply And.intro; (focus (first | exact d0 | exact d1 | exact d2))) | refine X_opc rfl ?_ | refine X_dopc rfl ?_ | refine ⟨(by show drawK _ _ = true; kernel_rfl : drawX _ _ _), ?_⟩ | exact (by show drawK _ _ = true; kernel_rfl : drawX _ _ _) | simp -dsimp (maxSteps := 20000000) (disch := omega) only [simx, zzC, zzB, tys, ite_self, opnL, callB, callX, readsB, stepOp, nilCmp, ofVal, opBuiltin, opLen, PV.sk, scalBin, scalUn, intBin, opLoad, natOf, opConvert, opField, cellsP, oneP, Value.oneCell', opStore, toIV, scalT, scalA, scalC, boxesA, boxesC, zipB_none, zipB_mx, isZ, opZip, zeroP, opAppendZ, opMakeMap, opLookup, mboxB, opUpdate, ↓reduceIte, Nat.reduceSub, Nat.reduceEqDiff, Nat.reduceAdd, Nat.reduceMul, Nat.reduceLT, Nat.reduceLeDiff, Int.reduceToNat, Int.reduceLE, Int.reduceLT, Int.reduceNeg, reduceCtorEq, zzR, gos, Int.reduceAdd, Int.reduceSub, Int.reduceMul, Int.reduceEq, c0])
    | true =>
      cases hm : meetB P r c a r' c' b r'' c'' k with
      | false =>
        rw [hm] at d3
        refine X_startP (n := 173) (m := 4) (rs := [.tmp 8]) Try.func4 rfl rfl rfl rfl (by decide) fun base => ?_
        repeat (first | ((first | refine X_call_fn2 rfl (by simp only [tys]) ?_ | refine X_dcall_fn2 rfl (by simp only [tys]) ?_); apply Exists.intro; apply And.intro; (focus (simp -dsimp only [simx, zzC, zzB, tys, ite_self, opnL, callB, callX, readsB, stepOp, nilCmp, ofVal, opBuiltin, opLen, PV.sk, scalBin, scalUn, intBin, opLoad, natOf, opConvert, opField, cellsP, oneP, Value.oneCell', opStore, toIV, scalT, scalA, scalC, boxesA, boxesC, zipB_none, zipB_mx, isZ, opZip, zeroP, opAppendZ, opMakeMap, opLookup, mboxB, opUpdate, ↓reduceIte, Nat.reduceSub, Nat.reduceEqDiff, Nat.reduceAdd, Nat.reduceMul, Nat.reduceLT, Nat.reduceLeDiff, Int.reduceToNat, Int.reduceLE, Int.reduceLT, Int.reduceNeg, reduceCtorEq, zzL, if_true, if_false] <;> rfl)); apply Exists.intro; apply And.intro; (focus (first | exact d0 | exact d1 | exact d2 | exact d3))) | refine X_opc rfl ?_ | refine X_dopc rfl ?_ | refine ⟨(by show drawK _ _ = true; kernel_rfl : drawX _ _ _), ?_⟩ | exact (by show drawK _ _ = true; kernel_rfl : drawX _ _ _) | simp -dsimp (maxSteps := 20000000) (disch := omega) only [simx, zzC, zzB, tys, ite_self, opnL, callB, callX, readsB, stepOp, nilCmp, ofVal, opBuiltin, opLen, PV.sk, scalBin, scalUn, intBin, opLoad, natOf, opConvert, opField, cellsP, oneP, Value.oneCell', opStore, toIV, scalT, scalA, scalC, boxesA, boxesC, zipB_none, zipB_mx, isZ, opZip, zeroP, opAppendZ, opMakeMap, opLookup, mboxB, opUpdate, ↓reduceIte, Nat.reduceSub, Nat.reduceEqDiff, Nat.reduceAdd, Nat.reduceMul, Nat.reduceLT, Nat.reduceLeDiff, Int.reduceToNat, Int.reduceLE, Int.reduceLT, Int.reduceNeg, reduceCtorEq, zzR, gos, Int.reduceAdd, Int.reduceSub, Int.reduceMul, Int.reduceEq, c0])
      | true =>
        rw [hm] at d3
        obtain ⟨R, S, C, rfl, rfl, rfl, rfl, rfl, rfl, A, B, K⟩ := meet_iff hm
        have ia : ∀ x ∈ a, In P x := fun x hx => in_of A.has wl hx
        have ib : ∀ x ∈ b, In P x := fun x hx => in_of B.has wb hx
        have ic : ∀ x ∈ k, In P x := fun x hx => in_of K.has wk hx
        have A' := turn_mt A
        have B' := turn_mt B
        have K' := turn_mt K
        have ia' := turn_in A ia
        have ib' := turn_in B ib
        have ic' := turn_in K ic
        obtain ⟨f, hf, f1, f2, f3⟩ := pass_cnt hP B' A' K'
        rw [wrong_zero A B K] at f2 f3
        have r1 := A.r1
        have r2 := A.r2
        have P2 : 2 ≤ P := hP.1
        have P11 : P ≤ 11 := by omega
        have rounds : ∀ n : Nat, n < 18446744073709551616 → CallsP Try.prog 16 [u64 P, u64 n, i64 R] (lu (vecL P n R)) ∧ CallsP Try.prog 21 [u64 P, lu (vecL P n R), matP R S a, matP S C b, matP R C k] (.tup [bl (f n), i64 0]) ∧ CallsP Try.prog 15 [u64 P, matP C S (turnM S C b), matP S R (turnM R S a), matP C R (turnM R C k), lu (vecL P n R)] (.tup [bl (f n), i64 0]) := fun n hn => by
          refine ⟨vector12_walk (by omega) n R r1 r2 hn, ?_, ?_⟩
          · rw [hf n]
            exact left12_of A B K ia ib ic (vecL_in (by omega) n R) (vecL_len ..)
          · rw [hf n]
            exact looks_of B' A' K' ib' ia' ic' (vecL_in (by omega) n R) (vecL_len ..)
        have si := fun h => silent_of hP B' A' K' ib' ia' ic' h
        have wr := wrong_of A B K ia ib ic
        have zr := zero12_walk (l := wrongM P (mulM P R S a C b) k) (by rw [wrongM_len, mulM_len, mx_len]; have := rc_bd A.r2 B.c2; omega)
        have ta := turn12_of A
        have tb := turn12_of B
        have tk := turn12_of K
        rw [← f1] at si
        clear f1 hf
        generalize wrongM P (mulM P R S a C b) k = w at *
        generalize turnM R S a = at' at *
        generalize turnM S C b = bt at *
        generalize turnM R C k = kt at *
        obtain ⟨G, hG⟩ : ∃ G : Nat → Nat, G = fun j => P ^ j := ⟨_, rfl⟩
        have G0 : G 0 = 1 := by rw [hG]; rfl
        have Gn : ∀ j, G j * P = G (j + 1) := fun j => by rw [hG]; exact (Nat.pow_succ ..).symm
        have hN : P ^ R = G R := by rw [hG]
        have hM : P ^ (R - 1) = G (R - 1) := by rw [hG]
        have hQ : ((G R : Nat) : Int) / (P : Int) = ((G (R - 1) : Nat) : Int) := by
          rw [show G R = G (R - 1) * P by rw [Gn, show R - 1 + 1 = R by omega], Int.natCast_mul]
          exact Int.mul_ediv_cancel _ (by omega)
        have gle : G (R - 1) ≤ G R := by rw [hG]; exact Nat.pow_le_pow_right (by omega) (by omega)
        rw [hN] at f2 f3 si
        rw [hM] at f3
        clear hN hM hG hP hpr ia ib ic wl wb wk v4 u4 z4 A B K A' B' K' ia' ib' ic'
        have p0 : ¬ (P : Int) = 0 := by omega
        refine X_startP (n := 173) (m := 4) (rs := [.tmp 8]) Try.func4 rfl rfl rfl rfl (by decide) fun base => ?_
        repeat (first | ((first | refine X_call_fn2 rfl (by simp only [tys]) ?_ | refine X_dcall_fn2 rfl (by simp only [tys]) ?_); apply Exists.intro; apply And.intro; (focus (simp -dsimp only [simx, zzC, zzB, tys, ite_self, opnL, callB, callX, readsB, stepOp, nilCmp, ofVal, opBuiltin, opLen, PV.sk, scalBin, scalUn, intBin, opLoad, natOf, opConvert, opField, cellsP, oneP, Value.oneCell', opStore, toIV, scalT, scalA, scalC, boxesA, boxesC, zipB_none, zipB_mx, isZ, opZip, zeroP, opAppendZ, opMakeMap, opLookup, mboxB, opUpdate, ↓reduceIte, Nat.reduceSub, Nat.reduceEqDiff, Nat.reduceAdd, Nat.reduceMul, Nat.reduceLT, Nat.reduceLeDiff, Int.reduceToNat, Int.reduceLE, Int.reduceLT, Int.reduceNeg, reduceCtorEq, zzL, if_true, if_false] <;> rfl)); apply Exists.intro; apply And.intro; (focus (first | exact d0 | exact d1 | exact d2 | exact d3))) | refine X_opc rfl ?_ | refine X_dopc rfl ?_ | refine ⟨(by show drawK _ _ = true; kernel_rfl : drawX _ _ _), ?_⟩ | exact (by show drawK _ _ = true; kernel_rfl : drawX _ _ _) | simp -dsimp (maxSteps := 20000000) (disch := omega) only [simx, zzC, zzB, tys, ite_self, opnL, callB, callX, readsB, stepOp, nilCmp, ofVal, opBuiltin, opLen, PV.sk, scalBin, scalUn, intBin, opLoad, natOf, opConvert, opField, cellsP, oneP, Value.oneCell', opStore, toIV, scalT, scalA, scalC, boxesA, boxesC, zipB_none, zipB_mx, isZ, opZip, zeroP, opAppendZ, opMakeMap, opLookup, mboxB, opUpdate, ↓reduceIte, Nat.reduceSub, Nat.reduceEqDiff, Nat.reduceAdd, Nat.reduceMul, Nat.reduceLT, Nat.reduceLeDiff, Int.reduceToNat, Int.reduceLE, Int.reduceLT, Int.reduceNeg, reduceCtorEq, gos, Int.reduceAdd, Int.reduceSub, Int.reduceMul, Int.reduceEq, c0])
        refine X_loopH [0, 5, 6, 7, 9, 10] [] (0) (R) (fun j => G j ≤ 1000) (fun j => [(9, u64 (G j : Int)), (10, i64 j)]) (fun j => (((Heap.none.put ((0, 0) :: base) (.var [i64 R, i64 S, lu a])).put ((0, 1) :: base) (.var [i64 S, i64 C, lu b])).put ((0, 2) :: base) (.var [i64 R, i64 C, lu k]))) ?_ ?_ ?_ ?_ ?_ (by decide) ?_
        · exact (fgt_nil)
        · ((simp -dsimp (disch := omega) only [simx, zzB, tys, ite_self, opnL, callB, callX, readsB, stepOp, nilCmp, ofVal, opBuiltin, opLen, PV.sk, scalBin, scalUn, intBin, opLoad, natOf, opConvert, opField, cellsP, oneP, Value.oneCell', opStore, toIV, scalT, scalA, scalC, boxesA, boxesC, zipB_none, zipB_mx, isZ, opZip, zeroP, opAppendZ, opMakeMap, opLookup, mboxB, opUpdate, ↓reduceIte, Nat.reduceSub, Nat.reduceEqDiff, Nat.reduceAdd, Nat.reduceMul, Nat.reduceLT, Nat.reduceLeDiff, Int.reduceToNat, Int.reduceLE, Int.reduceLT, Int.reduceNeg, reduceCtorEq, gos, Int.reduceAdd, Int.reduceSub, Int.reduceMul, Int.reduceEq]) <;> first | rfl | simp [G0])
        · exact drop_nil _
        · omega
        · rw [G0]; omega
        · intro j hj hA1
          by_cases cj : j < R
          · have an := Gn j
            have m1 : G j * P ≤ 1000 * 11 := Nat.mul_le_mul hA1 P11
            have w1 : IntKind.u64.wrap ((G j : Int) * (P : Int)) = ((G (j + 1) : Nat) : Int) := by rw [← Int.natCast_mul, an]; exact uw_of (by omega) (by omega)
            by_cases c3 : (1000 : Int) < G (j + 1)
            · repeat (first | refine X_opc rfl ?_ | refine X_dopc rfl ?_ | refine ⟨(by show drawK _ _ = true; kernel_rfl : drawX _ _ _), ?_⟩ | exact (by show drawK _ _ = true; kernel_rfl : drawX _ _ _) | simp -dsimp (maxSteps := 20000000) (disch := omega) only [simx, zzC, zzB, tys, ite_self, opnL, callB, callX, readsB, stepOp, nilCmp, ofVal, opBuiltin, opLen, PV.sk, scalBin, scalUn, intBin, opLoad, natOf, opConvert, opField, cellsP, oneP, Value.oneCell', opStore, toIV, scalT, scalA, scalC, boxesA, boxesC, zipB_none, zipB_mx, isZ, opZip, zeroP, opAppendZ, opMakeMap, opLookup, mboxB, opUpdate, ↓reduceIte, Nat.reduceSub, Nat.reduceEqDiff, Nat.reduceAdd, Nat.reduceMul, Nat.reduceLT, Nat.reduceLeDiff, Int.reduceToNat, Int.reduceLE, Int.reduceLT, Int.reduceNeg, reduceCtorEq, zzR, gos, Int.reduceAdd, Int.reduceSub, Int.reduceMul, Int.reduceEq, cj, w1, c3])
            · repeat (first | refine X_opc rfl ?_ | refine X_dopc rfl ?_ | refine ⟨(by show drawK _ _ = true; kernel_rfl : drawX _ _ _), ?_⟩ | exact (by show drawK _ _ = true; kernel_rfl : drawX _ _ _) | simp -dsimp (maxSteps := 20000000) (disch := omega) only [simx, zzC, zzB, tys, ite_self, opnL, callB, callX, readsB, stepOp, nilCmp, ofVal, opBuiltin, opLen, PV.sk, scalBin, scalUn, intBin, opLoad, natOf, opConvert, opField, cellsP, oneP, Value.oneCell', opStore, toIV, scalT, scalA, scalC, boxesA, boxesC, zipB_none, zipB_mx, isZ, opZip, zeroP, opAppendZ, opMakeMap, opLookup, mboxB, opUpdate, ↓reduceIte, Nat.reduceSub, Nat.reduceEqDiff, Nat.reduceAdd, Nat.reduceMul, Nat.reduceLT, Nat.reduceLeDiff, Int.reduceToNat, Int.reduceLE, Int.reduceLT, Int.reduceNeg, reduceCtorEq, gos, Int.reduceAdd, Int.reduceSub, Int.reduceMul, Int.reduceEq, cj, w1, c3])
              exact ⟨cj, (fgt_nil), by omega, rfl, drop_nil _⟩
          · obtain rfl : R = j := by omega
            have si := si (by omega)
            repeat (first | ((first | refine X_call_fn2 rfl (by simp only [tys]) ?_ | refine X_dcall_fn2 rfl (by simp only [tys]) ?_); apply Exists.intro; apply And.intro; (focus (simp -dsimp only [simx, zzC, zzB, tys, ite_self, opnL, callB, callX, readsB, stepOp, nilCmp, ofVal, opBuiltin, opLen, PV.sk, scalBin, scalUn, intBin, opLoad, natOf, opConvert, opField, cellsP, oneP, Value.oneCell', opStore, toIV, scalT, scalA, scalC, boxesA, boxesC, zipB_none, zipB_mx, isZ, opZip, zeroP, opAppendZ, opMakeMap, opLookup, mboxB, opUpdate, ↓reduceIte, Nat.reduceSub, Nat.reduceEqDiff, Nat.reduceAdd, Nat.reduceMul, Nat.reduceLT, Nat.reduceLeDiff, Int.reduceToNat, Int.reduceLE, Int.reduceLT, Int.reduceNeg, reduceCtorEq, zzL, if_true, if_false] <;> rfl)); apply Exists.intro; apply And.intro; (focus (first | exact ta | exact tb | exact tk))) | refine X_opc rfl ?_ | refine X_dopc rfl ?_ | refine ⟨(by show drawK _ _ = true; kernel_rfl : drawX _ _ _), ?_⟩ | exact (by show drawK _ _ = true; kernel_rfl : drawX _ _ _) | simp -dsimp (maxSteps := 20000000) (disch := omega) only [simx, zzC, zzB, tys, ite_self, opnL, callB, callX, readsB, stepOp, nilCmp, ofVal, opBuiltin, opLen, PV.sk, scalBin, scalUn, intBin, opLoad, natOf, opConvert, opField, cellsP, oneP, Value.oneCell', opStore, toIV, scalT, scalA, scalC, boxesA, boxesC, zipB_none, zipB_mx, isZ, opZip, zeroP, opAppendZ, opMakeMap, opLookup, mboxB, opUpdate, ↓reduceIte, Nat.reduceSub, Nat.reduceEqDiff, Nat.reduceAdd, Nat.reduceMul, Nat.reduceLT, Nat.reduceLeDiff, Int.reduceToNat, Int.reduceLE, Int.reduceLT, Int.reduceNeg, reduceCtorEq, gos, Int.reduceAdd, Int.reduceSub, Int.reduceMul, Int.reduceEq])
            refine X_loopH [0, 5, 6, 7, 9, 11, 13, 15, 17, 18] [] (0) (G R) (fun j => True) (fun j => [(17, u64 (cntN j f : Int)), (18, u64 j)]) (fun j => ((((((Heap.none.put ((0, 0) :: base) (.var [i64 R, i64 S, lu a])).put ((0, 1) :: base) (.var [i64 S, i64 C, lu b])).put ((0, 2) :: base) (.var [i64 R, i64 C, lu k])).put ((12, 6) :: base) (.var [i64 S, i64 R, lu at'])).put ((13, 6) :: base) (.var [i64 C, i64 S, lu bt])).put ((14, 6) :: base) (.var [i64 C, i64 R, lu kt]))) ?_ ?_ ?_ ?_ ?_ (by decide) ?_
            · exact (fgt_nil)
            · ((simp -dsimp (disch := omega) only [simx, zzB, tys, ite_self, opnL, callB, callX, readsB, stepOp, nilCmp, ofVal, opBuiltin, opLen, PV.sk, scalBin, scalUn, intBin, opLoad, natOf, opConvert, opField, cellsP, oneP, Value.oneCell', opStore, toIV, scalT, scalA, scalC, boxesA, boxesC, zipB_none, zipB_mx, isZ, opZip, zeroP, opAppendZ, opMakeMap, opLookup, mboxB, opUpdate, ↓reduceIte, Nat.reduceSub, Nat.reduceEqDiff, Nat.reduceAdd, Nat.reduceMul, Nat.reduceLT, Nat.reduceLeDiff, Int.reduceToNat, Int.reduceLE, Int.reduceLT, Int.reduceNeg, reduceCtorEq, gos, Int.reduceAdd, Int.reduceSub, Int.reduceMul, Int.reduceEq]) <;> first | rfl | simp [cntN])
            · funext c
              simp (maxSteps := 20000000) only [Heap.drop_at, rowH_app, Heap.put_at, Heap.none_at, List.mem_cons, List.not_mem_nil, or_false]
              by_cases e0 : c = (0, 0) :: base
              · subst e0; simp []
              by_cases e1 : c = (0, 1) :: base
              · subst e1; simp []
              by_cases e2 : c = (0, 2) :: base
              · subst e2; simp []
              by_cases e3 : c = (12, 6) :: base
              · subst e3; simp []
              by_cases e4 : c = (13, 6) :: base
              · subst e4; simp []
              by_cases e5 : c = (14, 6) :: base
              · subst e5; simp []
              simp [e0, e1, e2, e3, e4, e5]
            · omega
            · trivial
            · intro n hn _
              by_cases cn : n < G R
              · obtain ⟨t1, t2, t3⟩ := rounds n (by omega)
                have hle := cnt_le f n
                have hs : cntN (n + 1) f = cntN n f + (if f n = true then 1 else 0) := rfl
                have w3 : IntKind.u64.wrap ((n : Int) + 1) = ((n + 1 : Nat) : Int) := by rw [show (n : Int) + 1 = ((n + 1 : Nat) : Int) by push_cast; rfl]; exact uw_of (by omega) (by omega)
                have w4 : IntKind.u64.wrap ((cntN n f : Int) + 1) = ((cntN n f + 1 : Nat) : Int) := by rw [show (cntN n f : Int) + 1 = ((cntN n f + 1 : Nat) : Int) by push_cast; rfl]; exact uw_of (by omega) (by omega)
                clear rounds f2 f3 si
                generalize vecL P n R = v at t1 t2 t3
                cases hf : f n with
                | true =>
                  rw [hf] at t2 t3 hs
                  rw [if_pos rfl] at hs
                  generalize cntN n f = q at hs w4 hle ⊢
                  repeat (first | ((first | refine X_call_fn2 rfl (by simp only [tys]) ?_ | refine X_dcall_fn2 rfl (by simp only [tys]) ?_); apply Exists.intro; apply And.intro; (focus (simp -dsimp only [simx, zzC, zzB, tys, ite_self, opnL, callB, callX, readsB, stepOp, nilCmp, ofVal, opBuiltin, opLen, PV.sk, scalBin, scalUn, intBin, opLoad, natOf, opConvert, opField, cellsP, oneP, Value.oneCell', opStore, toIV, scalT, scalA, scalC, boxesA, boxesC, zipB_none, zipB_mx, isZ, opZip, zeroP, opAppendZ, opMakeMap, opLookup, mboxB, opUpdate, ↓reduceIte, Nat.reduceSub, Nat.reduceEqDiff, Nat.reduceAdd, Nat.reduceMul, Nat.reduceLT, Nat.reduceLeDiff, Int.reduceToNat, Int.reduceLE, Int.reduceLT, Int.reduceNeg, reduceCtorEq, zzL, if_true, if_false] <;> rfl)); apply Exists.intro; apply And.intro; (focus (first | exact t1 | exact t2 | exact t3))) | refine X_opc rfl ?_ | refine X_dopc rfl ?_ | refine ⟨(by show drawK _ _ = true; kernel_rfl : drawX _ _ _), ?_⟩ | exact (by show drawK _ _ = true; kernel_rfl : drawX _ _ _) | simp -dsimp (maxSteps := 20000000) (disch := omega) only [simx, zzC, zzB, tys, ite_self, opnL, callB, callX, readsB, stepOp, nilCmp, ofVal, opBuiltin, opLen, PV.sk, scalBin, scalUn, intBin, opLoad, natOf, opConvert, opField, cellsP, oneP, Value.oneCell', opStore, toIV, scalT, scalA, scalC, boxesA, boxesC, zipB_none, zipB_mx, isZ, opZip, zeroP, opAppendZ, opMakeMap, opLookup, mboxB, opUpdate, ↓reduceIte, Nat.reduceSub, Nat.reduceEqDiff, Nat.reduceAdd, Nat.reduceMul, Nat.reduceLT, Nat.reduceLeDiff, Int.reduceToNat, Int.reduceLE, Int.reduceLT, Int.reduceNeg, reduceCtorEq, gos, Int.reduceAdd, Int.reduceSub, Int.reduceMul, Int.reduceEq, cn, w3, w4])
                  refine ⟨cn, (fgt_nil), ?_, drop_nil _⟩
                  rw [hs]
                | false =>
                  rw [hf] at t2 t3 hs
                  rw [if_neg (by decide), Nat.add_zero] at hs
                  generalize cntN n f = q at hs w4 hle ⊢
                  repeat (first | ((first | refine X_call_fn2 rfl (by simp only [tys]) ?_ | refine X_dcall_fn2 rfl (by simp only [tys]) ?_); apply Exists.intro; apply And.intro; (focus (simp -dsimp only [simx, zzC, zzB, tys, ite_self, opnL, callB, callX, readsB, stepOp, nilCmp, ofVal, opBuiltin, opLen, PV.sk, scalBin, scalUn, intBin, opLoad, natOf, opConvert, opField, cellsP, oneP, Value.oneCell', opStore, toIV, scalT, scalA, scalC, boxesA, boxesC, zipB_none, zipB_mx, isZ, opZip, zeroP, opAppendZ, opMakeMap, opLookup, mboxB, opUpdate, ↓reduceIte, Nat.reduceSub, Nat.reduceEqDiff, Nat.reduceAdd, Nat.reduceMul, Nat.reduceLT, Nat.reduceLeDiff, Int.reduceToNat, Int.reduceLE, Int.reduceLT, Int.reduceNeg, reduceCtorEq, zzL, if_true, if_false] <;> rfl)); apply Exists.intro; apply And.intro; (focus (first | exact t1 | exact t2 | exact t3))) | refine X_opc rfl ?_ | refine X_dopc rfl ?_ | refine ⟨(by show drawK _ _ = true; kernel_rfl : drawX _ _ _), ?_⟩ | exact (by show drawK _ _ = true; kernel_rfl : drawX _ _ _) | simp -dsimp (maxSteps := 20000000) (disch := omega) only [simx, zzC, zzB, tys, ite_self, opnL, callB, callX, readsB, stepOp, nilCmp, ofVal, opBuiltin, opLen, PV.sk, scalBin, scalUn, intBin, opLoad, natOf, opConvert, opField, cellsP, oneP, Value.oneCell', opStore, toIV, scalT, scalA, scalC, boxesA, boxesC, zipB_none, zipB_mx, isZ, opZip, zeroP, opAppendZ, opMakeMap, opLookup, mboxB, opUpdate, ↓reduceIte, Nat.reduceSub, Nat.reduceEqDiff, Nat.reduceAdd, Nat.reduceMul, Nat.reduceLT, Nat.reduceLeDiff, Int.reduceToNat, Int.reduceLE, Int.reduceLT, Int.reduceNeg, reduceCtorEq, gos, Int.reduceAdd, Int.reduceSub, Int.reduceMul, Int.reduceEq, cn, w3])
                  refine ⟨cn, (fgt_nil), ?_, drop_nil _⟩
                  rw [hs]
                  rfl
              · obtain rfl : G R = n := by omega
                generalize cntN (G R) f = q at si f2 f3 ⊢
                cases hz : zerB w with
                | true =>
                  rw [hz] at zr
                  have e := f2 hz
                  subst e
                  repeat (first | ((first | refine X_call_fn2 rfl (by simp only [tys]) ?_ | refine X_dcall_fn2 rfl (by simp only [tys]) ?_); apply Exists.intro; apply And.intro; (focus (simp -dsimp only [simx, zzC, zzB, tys, ite_self, opnL, callB, callX, readsB, stepOp, nilCmp, ofVal, opBuiltin, opLen, PV.sk, scalBin, scalUn, intBin, opLoad, natOf, opConvert, opField, cellsP, oneP, Value.oneCell', opStore, toIV, scalT, scalA, scalC, boxesA, boxesC, zipB_none, zipB_mx, isZ, opZip, zeroP, opAppendZ, opMakeMap, opLookup, mboxB, opUpdate, ↓reduceIte, Nat.reduceSub, Nat.reduceEqDiff, Nat.reduceAdd, Nat.reduceMul, Nat.reduceLT, Nat.reduceLeDiff, Int.reduceToNat, Int.reduceLE, Int.reduceLT, Int.reduceNeg, reduceCtorEq, zzL, if_true, if_false] <;> rfl)); apply Exists.intro; apply And.intro; (focus (first | exact si | exact wr | exact zr))) | refine X_opc rfl ?_ | refine X_dopc rfl ?_ | refine ⟨(by show drawK _ _ = true; kernel_rfl : drawX _ _ _), ?_⟩ | exact (by show drawK _ _ = true; kernel_rfl : drawX _ _ _) | simp -dsimp (maxSteps := 20000000) (disch := omega) only [simx, zzC, zzB, tys, ite_self, opnL, callB, callX, readsB, stepOp, nilCmp, ofVal, opBuiltin, opLen, PV.sk, scalBin, scalUn, intBin, opLoad, natOf, opConvert, opField, cellsP, oneP, Value.oneCell', opStore, toIV, scalT, scalA, scalC, boxesA, boxesC, zipB_none, zipB_mx, isZ, opZip, zeroP, opAppendZ, opMakeMap, opLookup, mboxB, opUpdate, ↓reduceIte, Nat.reduceSub, Nat.reduceEqDiff, Nat.reduceAdd, Nat.reduceMul, Nat.reduceLT, Nat.reduceLeDiff, Int.reduceToNat, Int.reduceLE, Int.reduceLT, Int.reduceNeg, reduceCtorEq, zzR, gos, Int.reduceAdd, Int.reduceSub, Int.reduceMul, Int.reduceEq])
                | false =>
                  rw [hz] at zr
                  have e := f3 hz
                  have w5 : IntKind.u64.wrap ((G (R - 1) : Nat) : Int) = ((G (R - 1) : Nat) : Int) := uw_of (by omega) (by omega)
                  have e' : (q : Int) ≤ ((G (R - 1) : Nat) : Int) := by omega
                  repeat (first | ((first | refine X_call_fn2 rfl (by simp only [tys]) ?_ | refine X_dcall_fn2 rfl (by simp only [tys]) ?_); apply Exists.intro; apply And.intro; (focus (simp -dsimp only [simx, zzC, zzB, tys, ite_self, opnL, callB, callX, readsB, stepOp, nilCmp, ofVal, opBuiltin, opLen, PV.sk, scalBin, scalUn, intBin, opLoad, natOf, opConvert, opField, cellsP, oneP, Value.oneCell', opStore, toIV, scalT, scalA, scalC, boxesA, boxesC, zipB_none, zipB_mx, isZ, opZip, zeroP, opAppendZ, opMakeMap, opLookup, mboxB, opUpdate, ↓reduceIte, Nat.reduceSub, Nat.reduceEqDiff, Nat.reduceAdd, Nat.reduceMul, Nat.reduceLT, Nat.reduceLeDiff, Int.reduceToNat, Int.reduceLE, Int.reduceLT, Int.reduceNeg, reduceCtorEq, zzL, if_true, if_false] <;> rfl)); apply Exists.intro; apply And.intro; (focus (first | exact si | exact wr | exact zr))) | refine X_opc rfl ?_ | refine X_dopc rfl ?_ | refine ⟨(by show drawK _ _ = true; kernel_rfl : drawX _ _ _), ?_⟩ | exact (by show drawK _ _ = true; kernel_rfl : drawX _ _ _) | simp -dsimp (maxSteps := 20000000) (disch := omega) only [simx, zzC, zzB, tys, ite_self, opnL, callB, callX, readsB, stepOp, nilCmp, ofVal, opBuiltin, opLen, PV.sk, scalBin, scalUn, intBin, opLoad, natOf, opConvert, opField, cellsP, oneP, Value.oneCell', opStore, toIV, scalT, scalA, scalC, boxesA, boxesC, zipB_none, zipB_mx, isZ, opZip, zeroP, opAppendZ, opMakeMap, opLookup, mboxB, opUpdate, ↓reduceIte, Nat.reduceSub, Nat.reduceEqDiff, Nat.reduceAdd, Nat.reduceMul, Nat.reduceLT, Nat.reduceLeDiff, Int.reduceToNat, Int.reduceLE, Int.reduceLT, Int.reduceNeg, reduceCtorEq, zzR, gos, Int.reduceAdd, Int.reduceSub, Int.reduceMul, Int.reduceEq, p0, hQ, w5, e'])
end Go.Proofs.Ytmalpmnmknpphaa.TM
