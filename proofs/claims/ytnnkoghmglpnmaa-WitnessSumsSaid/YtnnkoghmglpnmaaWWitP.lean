/- Layer 14, the plain law: sums of what loses, and of what solves. Conditions: none; lemmas. -/
import Derived.Test.YtnnkoghmglpnmaaWWitA
import Derived.Test.YtnnkoghmglpnmaaWMatQ
namespace Go.Proofs.Ytnnkoghmglpnmaa.TM
open Go Go.RowKit
set_option linter.unusedVariables false
set_option linter.defProp false
set_option linter.unusedSimpArgs false

theorem prm_mul {P : Nat} (h : Prm P) {a b : Int} (ha : In P a) (hb : In P b) (a0 : a ≠ 0) (b0 : b ≠ 0) : a * b % P ≠ 0 := by
  obtain ⟨A, rfl⟩ := Int.eq_ofNat_of_zero_le ha.1
  obtain ⟨B, rfl⟩ := Int.eq_ofNat_of_zero_le hb.1
  have a2 := ha.2
  have b2 := hb.2
  have g : Nat.Coprime P A := h.2 A (by omega) (by omega)
  intro e
  have e2 : (A * B) % P = 0 := by
    have : ((A : Int) * B) % (P : Int) = ((A * B % P : Nat) : Int) := by rw [← Int.natCast_mul, ← Int.natCast_emod]
    omega
  have := g.dvd_of_dvd_mul_left (Nat.dvd_of_mod_eq_zero e2)
  have := Nat.le_of_dvd (by omega) this
  omega
def addV (p : Int) (x y : List Int) : List Int := tbl x.length (fun i => (x.getD i 0 + y.getD i 0) % p)
def scaV (p n : Int) (x : List Int) : List Int := tbl x.length (fun i => x.getD i 0 * n % p)
theorem addV_len (p : Int) (x y : List Int) : (addV p x y).length = x.length := tbl_len ..
theorem scaV_len (p n : Int) (x : List Int) : (scaV p n x).length = x.length := tbl_len ..
theorem addV_in {p : Int} (hp : 0 < p) (x y : List Int) : ∀ a ∈ addV p x y, In p a := by
  intro a ha
  obtain ⟨i, _, rfl⟩ := tbl_mem ha
  exact emod_in _ hp
theorem scaV_in {p : Int} (hp : 0 < p) (n : Int) (x : List Int) : ∀ a ∈ scaV p n x, In p a := by
  intro a ha
  obtain ⟨i, _, rfl⟩ := tbl_mem ha
  exact emod_in _ hp
theorem zerB_iff (l : List Int) : zerB l = true ↔ ∀ i, i < l.length → l.getD i 0 = 0 := by
  unfold zerB
  rw [List.all_eq_true]
  constructor
  · intro h i hi
    have := h _ (getD_mem (l := l) hi)
    simpa using this
  · intro h a ha
    obtain ⟨i, hi, rfl⟩ := List.mem_iff_getElem.1 ha
    have := h i hi
    rw [List.getD_eq_getElem?_getD, List.getElem?_eq_getElem hi] at this
    simpa using this
theorem left_add {p : Int} {R C : Nat} {l x y : List Int} (hl : l.length = R * C) (hx : x.length = R) (hy : y.length = R) : leftM p (addV p x y) R C l = addV p (leftM p x R C l) (leftM p y R C l) := by
  rw [tbl_of (leftM_len p (addV p x y) R C l)]
  unfold addV
  rw [leftM_len]
  apply tbl_congr
  intro k hk
  rw [leftM_get (by rw [tbl_len, hx]) hk, leftM_get hx hk, leftM_get hy hk, am_l, am_r, ← sumN_add]
  apply sumN_mod
  intro i hi
  rw [tbl_getD _ (by omega), mm_l, Int.add_mul]
theorem left_sca {p n : Int} {R C : Nat} {l x : List Int} (hl : l.length = R * C) (hx : x.length = R) : leftM p (scaV p n x) R C l = scaV p n (leftM p x R C l) := by
  rw [tbl_of (leftM_len p (scaV p n x) R C l)]
  unfold scaV
  rw [leftM_len]
  apply tbl_congr
  intro k hk
  rw [leftM_get (by rw [tbl_len, hx]) hk, leftM_get hx hk, mm_l, ← sumN_mulr]
  apply sumN_mod
  intro i hi
  rw [tbl_getD _ (by omega), mm_l]
  congr 1; grind
theorem times_add {p : Int} {R C : Nat} {l x y : List Int} (hl : l.length = R * C) (hx : x.length = C) (hy : y.length = C) : timesM p R C l (addV p x y) = addV p (timesM p R C l x) (timesM p R C l y) := by
  rw [tbl_of (timesM_len p R C l (addV p x y))]
  unfold addV
  rw [timesM_len]
  apply tbl_congr
  intro i hi
  rw [timesM_get hl (by rw [tbl_len, hx]) hi, timesM_get hl hx hi, timesM_get hl hy hi, am_l, am_r, ← sumN_add]
  apply sumN_mod
  intro k hk
  rw [tbl_getD _ (by omega), mm_r, Int.mul_add]
theorem zer_add {p : Int} {x y : List Int} (hx : zerB x = true) (hy : zerB y = true) (hl : x.length = y.length) : zerB (addV p x y) = true := by
  rw [zerB_iff] at *
  intro i hi
  rw [addV_len] at hi
  unfold addV
  rw [tbl_getD _ hi, hx i hi, hy i (by omega)]; rfl
theorem zer_sca {p n : Int} {x : List Int} (hx : zerB x = true) : zerB (scaV p n x) = true := by
  rw [zerB_iff] at *
  intro i hi
  rw [scaV_len] at hi
  unfold scaV
  rw [tbl_getD _ hi, hx i hi]; simp
theorem mlR_iff {p r c : Int} {l y : List Int} : (mlR p y r c l).2 = 0 ↔ ∃ R C : Nat, r = R ∧ c = C ∧ Mt p R C l ∧ HasB p y = true ∧ y.length = R ∧ mlR p y r c l = (leftM p y R C l, 0) := by
  unfold mlR
  constructor
  · intro h
    split at h
    · rename_i hc
      rw [Bool.and_eq_true, Bool.and_eq_true, decide_eq_true_eq] at hc
      obtain ⟨R, C, rfl, rfl, M⟩ := mat_of hc.1
      refine ⟨R, C, rfl, rfl, M, hc.2.1, by omega, ?_⟩
      rw [if_pos (by rw [mat_mk M, hc.2.1, decide_eq_true hc.2.2]; rfl)]; rfl
    · simp at h
  · rintro ⟨R, C, rfl, rfl, M, h, hl, e⟩
    rw [e]
theorem timesR_iff {p r c : Int} {l y : List Int} : (timesR p r c l y).2 = 0 ↔ ∃ R C : Nat, r = R ∧ c = C ∧ Mt p R C l ∧ HasB p y = true ∧ y.length = C ∧ timesR p r c l y = (timesM p R C l y, 0) := by
  unfold timesR
  constructor
  · intro h
    split at h
    · rename_i hc
      rw [Bool.and_eq_true, Bool.and_eq_true, decide_eq_true_eq] at hc
      obtain ⟨R, C, rfl, rfl, M⟩ := mat_of hc.1
      refine ⟨R, C, rfl, rfl, M, hc.2.1, by omega, ?_⟩
      rw [if_pos (by rw [mat_mk M, hc.2.1, decide_eq_true hc.2.2]; rfl)]; rfl
    · simp at h
  · rintro ⟨R, C, rfl, rfl, M, h, hl, e⟩
    rw [e]
theorem mlR_mk {p : Int} {R C : Nat} {l y : List Int} (M : Mt p R C l) (h : HasB p y = true) (hl : y.length = R) : mlR p y R C l = (leftM p y R C l, 0) := by
  unfold mlR; rw [mat_mk M, h, if_pos (by simp [hl])]; rfl
theorem timesR_mk {p : Int} {R C : Nat} {l y : List Int} (M : Mt p R C l) (h : HasB p y = true) (hl : y.length = C) : timesR p R C l y = (timesM p R C l y, 0) := by
  unfold timesR; rw [mat_mk M, h, if_pos (by simp [hl])]; rfl
theorem gone_iff {p r c : Int} {l y : List Int} : goneB p r c l y = true ↔ ∃ R C : Nat, r = R ∧ c = C ∧ Mt p R C l ∧ HasB p y = true ∧ y.length = R ∧ zerB (leftM p y R C l) = true := by
  unfold goneB
  rw [Bool.and_eq_true, decide_eq_true_eq, mlR_iff]
  constructor
  · rintro ⟨⟨R, C, rfl, rfl, M, h, hl, e⟩, z⟩
    rw [e] at z
    exact ⟨R, C, rfl, rfl, M, h, hl, z⟩
  · rintro ⟨R, C, rfl, rfl, M, h, hl, z⟩
    refine ⟨⟨R, C, rfl, rfl, M, h, hl, mlR_mk M h hl⟩, ?_⟩
    rw [mlR_mk M h hl]; exact z
theorem has_of_in {p : Int} (hp : Md p) {l : List Int} (h : ∀ a ∈ l, In p a) : HasB p l = true := (has_iff p l).2 ⟨fun a ha => (h a ha).2, hp.1, hp.2⟩
theorem loses_sca {P : Nat} (hP : Prm P) {n : Int} (hn : In P n) {r c : Int} {l x : List Int} (wx : W64s x) (h : losesB P r c l x = true) : losesB P r c l (scaV P n x) = decide (n ≠ 0) := by
  unfold losesB at h
  rw [Bool.and_eq_true, Bool.not_eq_true'] at h
  obtain ⟨h1, h2⟩ := h
  obtain ⟨R, C, rfl, rfl, M, hx, lx, z⟩ := gone_iff.1 h1
  have p1 := M.hp.1
  have g : goneB P R C l (scaV P n x) = true := gone_iff.2 ⟨R, C, rfl, rfl, M, has_of_in M.hp (scaV_in (by omega) n x), by rw [scaV_len, lx], by rw [left_sca M.len lx]; exact zer_sca z⟩
  unfold losesB
  rw [g, Bool.true_and]
  by_cases n0 : n = 0
  · subst n0
    rw [show zerB (scaV P 0 x) = true by
      rw [zerB_iff]
      intro i hi
      rw [scaV_len] at hi
      unfold scaV
      rw [tbl_getD _ hi]; simp]
    rfl
  · rw [decide_eq_true n0]
    cases hz : zerB (scaV P n x) with
    | false => rfl
    | true =>
      exfalso
      have : zerB x = true := by
        rw [zerB_iff] at hz ⊢
        intro i hi
        have h3 := hz i (by rw [scaV_len]; exact hi)
        unfold scaV at h3
        rw [tbl_getD _ hi] at h3
        by_cases e : x.getD i 0 = 0
        · exact e
        · have hm := getD_mem hi
          exact absurd h3 (prm_mul hP ⟨(wx _ hm).1, ((has_iff _ _).1 hx).1 _ hm⟩ hn e n0)
      rw [this] at h2; cases h2
theorem loses_add {p r c : Int} {l x y : List Int} (hl : x.length = y.length) (h1 : losesB p r c l x = true) (h2 : losesB p r c l y = true) (h3 : zerB (addV p x y) = false) : losesB p r c l (addV p x y) = true := by
  unfold losesB at *
  rw [Bool.and_eq_true] at h1 h2
  obtain ⟨R, C, rfl, rfl, M, hx, lx, z⟩ := gone_iff.1 h1.1
  obtain ⟨R', C', e1, e2, _, hy, ly, z'⟩ := gone_iff.1 h2.1
  obtain rfl : R = R' := by omega
  obtain rfl : C = C' := by omega
  have p1 := M.hp.1
  rw [h3, show goneB p R C l (addV p x y) = true from gone_iff.2 ⟨R, C, rfl, rfl, M, has_of_in M.hp (addV_in (by omega) x y), by rw [addV_len, lx], by rw [left_add M.len lx ly]; exact zer_add z z' (by rw [leftM_len, leftM_len])⟩]
  rfl
theorem sing_iff {p r c : Int} {l x : List Int} : singB p r c l x = true ↔ r = c ∧ ∃ R C : Nat, r = R ∧ c = C ∧ Mt p R C l ∧ HasB p x = true ∧ x.length = C ∧ zerB x = false ∧ zerB (timesM p R C l x) = true := by
  unfold singB
  rw [Bool.and_eq_true, Bool.and_eq_true, Bool.and_eq_true, decide_eq_true_eq, decide_eq_true_eq, timesR_iff, Bool.not_eq_true']
  constructor
  · rintro ⟨h0, ⟨R, C, rfl, rfl, M, h, hl, e⟩, z1, z⟩
    rw [e] at z
    exact ⟨h0, R, C, rfl, rfl, M, h, hl, z1, z⟩
  · rintro ⟨h0, R, C, rfl, rfl, M, h, hl, z1, z⟩
    refine ⟨h0, ⟨R, C, rfl, rfl, M, h, hl, timesR_mk M h hl⟩, z1, ?_⟩
    rw [timesR_mk M h hl]; exact z
theorem sing_add {p r c : Int} {l x y : List Int} (hl : x.length = y.length) (h1 : singB p r c l x = true) (h2 : singB p r c l y = true) (h3 : zerB (addV p x y) = false) : singB p r c l (addV p x y) = true := by
  rw [sing_iff] at *
  obtain ⟨h0, R, C, rfl, rfl, M, hx, lx, _, z⟩ := h1
  obtain ⟨_, R', C', e1, e2, _, hy, ly, _, z'⟩ := h2
  obtain rfl : R = R' := by omega
  obtain rfl : C = C' := by omega
  have p1 := M.hp.1
  exact ⟨h0, R, C, rfl, rfl, M, has_of_in M.hp (addV_in (by omega) x y), by rw [addV_len, lx], h3, by rw [times_add M.len lx ly]; exact zer_add z z' (by rw [timesM_len, timesM_len])⟩
theorem solves_iff {p r c : Int} {l b x : List Int} : solvesB p r c l b x = true ↔ ∃ R C : Nat, r = R ∧ c = C ∧ Mt p R C l ∧ HasB p x = true ∧ x.length = C ∧ b.length = R ∧ HasB p b = true ∧ timesM p R C l x = b := by
  unfold solvesB
  simp only [Bool.and_eq_true, decide_eq_true_eq, timesR_iff]
  constructor
  · rintro ⟨h1, h2, h3, ⟨R, C, rfl, rfl, M, h, hl, e⟩, z⟩
    rw [e] at z
    exact ⟨R, C, rfl, rfl, M, h, hl, by omega, h3, z⟩
  · rintro ⟨R, C, rfl, rfl, M, h, hl, h2, h3, z⟩
    refine ⟨mat_mk M, by omega, h3, ⟨R, C, rfl, rfl, M, h, hl, timesR_mk M h hl⟩, ?_⟩
    rw [timesR_mk M h hl]; exact z
theorem solves_add {p r c : Int} {l b d x y : List Int} (hl : x.length = y.length) (h1 : solvesB p r c l b x = true) (h2 : solvesB p r c l d y = true) : solvesB p r c l (addV p b d) (addV p x y) = true := by
  rw [solves_iff] at *
  obtain ⟨R, C, rfl, rfl, M, hx, lx, lb, hb, z⟩ := h1
  obtain ⟨R', C', e1, e2, _, hy, ly, ld, hd, z'⟩ := h2
  obtain rfl : R = R' := by omega
  obtain rfl : C = C' := by omega
  have p1 := M.hp.1
  exact ⟨R, C, rfl, rfl, M, has_of_in M.hp (addV_in (by omega) x y), by rw [addV_len, lx], by rw [addV_len, lb], has_of_in M.hp (addV_in (by omega) b d), by rw [times_add M.len lx ly, z, z']⟩
end Go.Proofs.Ytnnkoghmglpnmaa.TM
