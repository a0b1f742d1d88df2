/- Layer 5, the plain law: products, turned matrices, picks, by cells. Conditions: none; lemmas. -/
import Derived.Test.YtnnkoghmglpnmaaWMatL
import Derived.Test.YtnnkoghmglpnmaaWMatD
namespace Go.Proofs.Ytnnkoghmglpnmaa.TM
open Go Go.RowKit
set_option linter.unusedVariables false
set_option linter.defProp false
set_option linter.unusedSimpArgs false

theorem flat_getD {c : Nat} (f : Nat → List Int) : ∀ {n : Nat}, (∀ i, i < n → (f i).length = c) → ∀ {i k : Nat}, i < n → k < c → ((List.range n).flatMap f).getD (i * c + k) 0 = (f i).getD k 0
  | 0, _, _, _, hi, _ => by omega
  | n + 1, h, i, k, hi, hk => by
    have hl : ∀ m, m ≤ n → ((List.range m).flatMap f).length = m * c := by
      intro m hm
      induction m with
      | zero => simp
      | succ m ih => rw [List.range_succ, List.flatMap_append, List.length_append, ih (by omega), Nat.succ_mul]; simp [h m (by omega)]
    rw [List.range_succ, List.flatMap_append, List.getD_eq_getElem?_getD]
    by_cases e : i = n
    · subst e
      rw [List.getElem?_append_right (by rw [hl i (Nat.le_refl _)]; omega), hl i (Nat.le_refl _), show i * c + k - i * c = k by omega, List.getD_eq_getElem?_getD]; simp
    · have := ic_bd (c := c) (show i < n by omega)
      rw [List.getElem?_append_left (by rw [hl n (Nat.le_refl _)]; omega), ← List.getD_eq_getElem?_getD]
      exact flat_getD f (fun i hi => h i (by omega)) (by omega) hk
theorem mulM_cl {p : Int} {ar ac bc : Nat} {al bl : List Int} (ha : al.length = ar * ac) (hb : bl.length = ac * bc) {i k : Nat} (hi : i < ar) (hk : k < bc) :
    cl bc (mulM p ar ac al bc bl) i k = sumN ac (fun j => cl ac al i j * cl bc bl j k) % p := by
  have hr := rowM_len ha hi
  have ht := turnM_len ac bc bl
  unfold cl mulM
  rw [flat_getD (c := bc) (mulRow p ac al bc bl) (fun i _ => by rw [mulRow, timesM_len]) hi hk]
  unfold mulRow
  rw [timesM_tbl ht hr, tbl_getD _ hk]
  congr 1
  apply sumN_congr
  intro j hj
  rw [turn_cl bl hj hk, rowM_cl ha hi hj, Int.mul_comm]; rfl
theorem timesM_get {p : Int} {r c : Nat} {l x : List Int} (hl : l.length = r * c) (hx : x.length = c) {i : Nat} (hi : i < r) : (timesM p r c l x).getD i 0 = sumN c (fun k => cl c l i k * x.getD k 0) % p := by
  rw [timesM_tbl hl hx, tbl_getD _ hi]
theorem sum_mm {p : Int} {m n : Nat} (f g : Nat → Int) (h : Nat → Nat → Int) : sumN m (fun i => f i * (sumN n (fun j => h i j) % p)) % p = sumN n (fun j => sumN m (fun i => f i * h i j)) % p := by
  rw [← sumN_swap]
  apply sumN_mod
  intro i _
  rw [mm_r, sumN_mul]
/-- A product times a vector. -/
theorem times_mul {p : Int} {r c d : Nat} {a b x : List Int} (ha : a.length = r * c) (hb : b.length = c * d) (hx : x.length = d) :
    timesM p r c a (timesM p c d b x) = timesM p r d (mulM p r c a d b) x := by
  rw [timesM_tbl ha (timesM_len ..), timesM_tbl (mulM_len ..) hx]
  apply tbl_congr
  intro i hi
  rw [sumN_congr (g := fun k => cl c a i k * (sumN d (fun j => cl d b k j * x.getD j 0) % p)) (fun k hk => by rw [timesM_get hb hx hk])]
  rw [sum_mm _ (fun _ => 0)]
  apply sumN_mod
  intro j hj
  rw [mulM_cl ha hb hi hj, mm_l, ← sumN_mulr]
  congr 1
  apply sumN_congr
  intro k _
  rw [Int.mul_assoc]
/-- A vector times a matrix. -/
def leftM (p : Int) (x : List Int) (r c : Nat) (l : List Int) : List Int := timesM p c r (turnM r c l) x
theorem leftM_len (p : Int) (x : List Int) (r c : Nat) (l : List Int) : (leftM p x r c l).length = c := timesM_len ..
theorem leftM_get {p : Int} {r c : Nat} {l x : List Int} (hx : x.length = r) {k : Nat} (hk : k < c) : (leftM p x r c l).getD k 0 = sumN r (fun i => x.getD i 0 * cl c l i k) % p := by
  unfold leftM
  rw [timesM_get (turnM_len r c l) hx hk]
  congr 1
  apply sumN_congr
  intro i hi
  rw [turn_cl l hi hk, Int.mul_comm]
theorem left_mul {p : Int} {r c d : Nat} {a b y : List Int} (ha : a.length = r * c) (hb : b.length = c * d) (hy : y.length = r) :
    leftM p (leftM p y r c a) c d b = leftM p y r d (mulM p r c a d b) := by
  rw [tbl_of (leftM_len p (leftM p y r c a) c d b), tbl_of (leftM_len p y r d _)]
  apply tbl_congr
  intro k hk
  rw [leftM_get (leftM_len ..) hk, leftM_get hy hk]
  rw [sumN_congr (g := fun j => cl d b j k * (sumN r (fun i => y.getD i 0 * cl c a i j) % p)) (fun j hj => by rw [leftM_get hy hj, Int.mul_comm])]
  rw [sum_mm _ (fun _ => 0)]
  apply sumN_mod
  intro i hi
  rw [mulM_cl ha hb hi hk, mm_r, ← sumN_mul]
  congr 1
  apply sumN_congr
  intro j _
  rw [Int.mul_comm, Int.mul_assoc]
/-- A product turned. -/
theorem turn_mul {p : Int} {r c d : Nat} {a b : List Int} (ha : a.length = r * c) (hb : b.length = c * d) :
    turnM r d (mulM p r c a d b) = mulM p d c (turnM c d b) r (turnM r c a) := by
  apply cells_ext (turnM_len ..) (mulM_len ..)
  intro k i hk hi
  rw [turn_cl _ hi hk, mulM_cl ha hb hi hk, mulM_cl (turnM_len ..) (turnM_len ..) hk hi]
  congr 1
  apply sumN_congr
  intro j hj
  rw [turn_cl b hj hk, turn_cl a hi hj, Int.mul_comm]
theorem turn_turn {r c : Nat} {l : List Int} (hl : l.length = r * c) : turnM c r (turnM r c l) = l := by
  apply cells_ext (turnM_len ..) hl
  intro i k hi hk
  rw [turn_cl _ hk hi, turn_cl _ hi hk]
theorem dot_left {p : Int} {r c : Nat} {l x y : List Int} (hl : l.length = r * c) (hx : x.length = c) (hy : y.length = r) : dotI y (timesM p r c l x) % p = dotI (leftM p y r c l) x % p := by
  rw [dotI_eq r _ _ hy (timesM_len ..), dotI_eq c _ _ (leftM_len ..) hx]
  rw [sumN_congr (g := fun i => y.getD i 0 * (sumN c (fun k => cl c l i k * x.getD k 0) % p)) (fun i hi => by rw [timesM_get hl hx hi])]
  rw [sum_mm _ (fun _ => 0)]
  apply sumN_mod
  intro k hk
  rw [leftM_get hy hk, mm_l, ← sumN_mulr]
  congr 1
  apply sumN_congr
  intro i _
  rw [Int.mul_assoc]
/-- Picked rows and columns of a product. -/
theorem pick_cell (C : Nat) (l rows cols : List Int) {i k : Nat} (hi : i < rows.length) (hk : k < cols.length) : cl cols.length (pickM C l rows cols) i k = cl C l (rows.getD i 0).toNat (cols.getD k 0).toNat :=
  pick_cell' C l cols hk rows i hi
where pick_cell' (C : Nat) (l cols : List Int) {m : Nat} (hm : m < cols.length) : ∀ (rows : List Int) (j : Nat), j < rows.length → (pickM C l rows cols).getD (j * cols.length + m) 0 = cl C l (rows.getD j 0).toNat (cols.getD m 0).toNat
  | [], j, h => by simp at h
  | i :: rows, 0, _ => by
    unfold pickM
    rw [List.flatMap_cons, List.getD_eq_getElem?_getD, List.getElem?_append_left (by simp [pickRow]; omega)]
    simp [pickRow, List.getElem?_eq_getElem hm]
  | i :: rows, j + 1, h => by
    have ih := pick_cell' C l cols hm rows j (by simpa using h)
    unfold pickM at ih ⊢
    rw [List.flatMap_cons, List.getD_eq_getElem?_getD, List.getElem?_append_right (by simp [pickRow, Nat.succ_mul]; omega)]
    rw [List.getD_eq_getElem?_getD] at ih
    rw [show (j + 1) * cols.length + m - (pickRow C l cols i).length = j * cols.length + m by simp [pickRow, Nat.succ_mul]; omega, ih]
    simp
theorem getD_mem {l : List Int} {i : Nat} (h : i < l.length) : l.getD i 0 ∈ l := by
  rw [List.getD_eq_getElem?_getD, List.getElem?_eq_getElem h]; exact List.getElem_mem h
theorem pick_mul {p : Int} {r c d : Nat} {a b rows cols : List Int} (ha : a.length = r * c) (hb : b.length = c * d) (hr : ∀ i ∈ rows, 0 ≤ i ∧ i < r) (hc : ∀ i ∈ cols, 0 ≤ i ∧ i < d) {all : List Int} (hall : all = tbl c (fun i => (i : Int))) :
    mulM p rows.length c (pickM c a rows all) cols.length (pickM d b all cols) = pickM d (mulM p r c a d b) rows cols := by
  have la : all.length = c := by rw [hall, tbl_len]
  have ga : ∀ j, j < c → (all.getD j 0).toNat = j := by
    intro j hj
    rw [hall, tbl_getD _ hj]; rfl
  apply cells_ext (mulM_len ..) (pickM_len ..)
  intro i k hi hk
  have h1 := hr _ (getD_mem hi)
  have h2 := hc _ (getD_mem hk)
  have l1 : (pickM c a rows all).length = rows.length * c := by rw [pickM_len, la]
  have l2 : (pickM d b all cols).length = c * cols.length := by rw [pickM_len, la]
  rw [mulM_cl l1 l2 hi hk, pick_cell d _ rows cols hi hk, mulM_cl ha hb (by omega) (by omega)]
  congr 1
  apply sumN_congr
  intro j hj
  have e1 := pick_cell c a rows all (i := i) (k := j) hi (by omega)
  have e2 := pick_cell d b all cols (i := j) (k := k) (by omega) hk
  rw [la] at e1
  rw [e1, e2, ga j hj]
/-- A vector that is 1 at one place. -/
def unitV (n i : Nat) : List Int := tbl n (fun k => if k = i then 1 else 0)
theorem unitV_len (n i : Nat) : (unitV n i).length = n := tbl_len ..
theorem times_unit {p : Int} {r c : Nat} {l : List Int} (hl : l.length = r * c) (hp : ∀ a ∈ l, In p a) {k : Nat} (hk : k < c) {i : Nat} (hi : i < r) : (timesM p r c l (unitV c k)).getD i 0 = cl c l i k := by
  rw [timesM_get hl (unitV_len ..) hi]
  rw [sumN_congr (g := fun j => if j = k then cl c l i j else 0) (fun j hj => by unfold unitV; rw [tbl_getD _ hj]; by_cases h : j = k <;> simp [h])]
  rw [sumN_one _ hk]
  exact (hp _ (cl_mem hl hi hk)).emod
theorem left_unit {p : Int} {r c : Nat} {l : List Int} (hl : l.length = r * c) (hp : ∀ a ∈ l, In p a) {i : Nat} (hi : i < r) : leftM p (unitV r i) r c l = rowM c l i := by
  rw [tbl_of (leftM_len ..), tbl_of (rowM_len hl hi)]
  apply tbl_congr
  intro k hk
  rw [leftM_get (unitV_len ..) hk, rowM_cl hl hi hk]
  rw [sumN_congr (g := fun j => if j = i then cl c l j k else 0) (fun j hj => by unfold unitV; rw [tbl_getD _ hj]; by_cases h : j = i <;> simp [h])]
  rw [sumN_one _ hi]
  exact (hp _ (cl_mem hl hi hk)).emod
theorem timesM_in {p : Int} (hp : 0 < p) {r c : Nat} {l x : List Int} : ∀ a ∈ timesM p r c l x, In p a := by
  intro a ha
  unfold timesM at ha
  obtain ⟨i, _, rfl⟩ := List.mem_map.1 ha
  exact emod_in _ hp
theorem mulM_in {p : Int} (hp : 0 < p) {r c d : Nat} {a b : List Int} : ∀ x ∈ mulM p r c a d b, In p x := by
  intro x hx
  unfold mulM at hx
  obtain ⟨i, _, h⟩ := List.mem_flatMap.1 hx
  exact timesM_in hp _ h
theorem mul_mt {p : Int} {r c d : Nat} {a b : List Int} (A : Mt p r c a) (B : Mt p c d b) : Mt p r d (mulM p r c a d b) :=
  ⟨A.hp, A.r1, A.r2, B.c1, B.c2, mulM_len .., fun x hx => (mulM_in (by have := A.hp.1; omega) x hx).2⟩
theorem in_w64s {p : Int} (hp : Md p) {l : List Int} (h : ∀ a ∈ l, In p a) : W64s l := fun a ha => (h a ha).w64 (by have := hp.2; omega)
theorem pick_in {C R : Nat} {p : Int} {l rows cols : List Int} (hl : l.length = R * C) (hp : ∀ a ∈ l, In p a) (hr : ∀ i ∈ rows, 0 ≤ i ∧ i < R) (hc : ∀ i ∈ cols, 0 ≤ i ∧ i < C) : ∀ a ∈ pickM C l rows cols, In p a := by
  intro a ha
  unfold pickM at ha
  obtain ⟨i, hi, h⟩ := List.mem_flatMap.1 ha
  unfold pickRow at h
  obtain ⟨k, hk, rfl⟩ := List.mem_map.1 h
  have h1 := hr i hi
  have h2 := hc k hk
  exact hp _ (cl_mem hl (by omega) (by omega))
end Go.Proofs.Ytnnkoghmglpnmaa.TM
