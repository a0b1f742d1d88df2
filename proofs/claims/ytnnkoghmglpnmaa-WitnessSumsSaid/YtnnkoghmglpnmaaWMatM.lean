/- Layer 5: a thin matrix times a vector, walked. -/
import Derived.Test.YtnnkoghmglpnmaaWMatG
import Derived.Test.YtnnkoghmglpnmaaWSumN
import Derived.Test.YtnnkoghmglpnmaaWDApp
namespace Go.Proofs.Ytnnkoghmglpnmaa.TM
open Go Go.RowKit
set_option linter.unusedVariables false
set_option linter.defProp false
set_option linter.unusedSimpArgs false
attribute [local irreducible] K W WOps Effs Xg Xo Xr Xdg Xdo Xdr Xif CallsP CallR

theorem rowP_pos (s : Name) (z : Nat) (cs : List IV) {n : Nat} (h : 0 < n) : rowP s z n cs = .view s 0 z n cs.length := by
  obtain ⟨m, rfl⟩ : ∃ m, n = m + 1 := ⟨n - 1, by omega⟩
  rfl
theorem rowH_pos (h : Heap) (s : Name) (cs : List IV) {n : Nat} (hn : 0 < n) : rowH h s n cs = h.put s (.row false cs) := by
  obtain ⟨m, rfl⟩ : ∃ m, n = m + 1 := ⟨n - 1, by omega⟩
  rfl
theorem risF_all : ∀ (l : List Int) (last most : Int), risF last l most = true → ∀ c ∈ l, last < c ∧ c < most
  | [], _, _, _, c, hc => by simp at hc
  | a :: l, last, most, h, c, hc => by
    rw [risF] at h
    by_cases e : a ≤ last ∨ most ≤ a
    · rw [if_pos e] at h; cases h
    · rw [if_neg e] at h
      rcases List.mem_cons.1 hc with rfl | hc
      · omega
      · have := risF_all l a most h c hc; omega
theorem risF_drop : ∀ (l : List Int) (last most : Int), risF last l most = true → ∀ i j, i < j → (hj : j < l.length) → l.getD i 0 < l.getD j 0
  | [], _, _, _, i, j, _, hj => by simp at hj
  | a :: l, last, most, h, i, j, hij, hj => by
    rw [risF] at h
    by_cases e : a ≤ last ∨ most ≤ a
    · rw [if_pos e] at h; cases h
    · rw [if_neg e] at h
      obtain ⟨m, rfl⟩ : ∃ m, j = m + 1 := ⟨j - 1, by omega⟩
      have hm : m < l.length := by simpa using hj
      have := risF_all l a most h (l.getD m 0) (by rw [List.getD_eq_getElem?_getD, List.getElem?_eq_getElem hm]; exact List.getElem_mem hm)
      cases i with
      | zero => simpa using this.1
      | succ i => simpa using risF_drop l a most h i m (by omega) hm
/-- A right thin matrix. -/
structure Sp (p : Int) (R C : Nat) (b k v : List Int) : Prop where
  hp : Md p
  r1 : 1 ≤ R
  r2 : R ≤ 64
  c1 : 1 ≤ C
  c2 : C ≤ 64
  beg : begB R b k v = true
  has : ∀ a ∈ v, a < p
  nz : (0 : Int) ∉ v
  ris : ∀ i, i < R → risF (-1) (segI b k i) C = true
theorem sp_of {p r c : Int} {b k v : List Int} (h : spB p r c b k v = true) : ∃ R C : Nat, r = R ∧ c = C ∧ Sp p R C b k v := by
  simp only [spB, Bool.and_eq_true, side_iff, Bool.not_eq_true', decide_eq_false_iff_not, List.all_eq_true, List.mem_range] at h
  obtain ⟨h1, h2, h3, h4, h5, h6⟩ := h
  obtain ⟨R, rfl⟩ := Int.eq_ofNat_of_zero_le (show 0 ≤ r by omega)
  obtain ⟨C, rfl⟩ := Int.eq_ofNat_of_zero_le (show 0 ≤ c by omega)
  obtain ⟨g1, g2, g3⟩ := (has_iff p v).1 h4
  simp only [Int.toNat_natCast] at h3 h6
  exact ⟨R, C, rfl, rfl, ⟨g2, g3⟩, by omega, by omega, by omega, by omega, h3, g1, h5, h6⟩
theorem sp_mk {p : Int} {R C : Nat} {b k v : List Int} (h : Sp p R C b k v) : spB p R C b k v = true := by
  have r1 := h.r1; have r2 := h.r2; have c1 := h.c1; have c2 := h.c2
  simp only [spB, Bool.and_eq_true, side_iff, Bool.not_eq_true', decide_eq_false_iff_not, List.all_eq_true, List.mem_range, Int.toNat_natCast]
  exact ⟨by omega, by omega, h.beg, (has_iff p v).2 ⟨h.has, h.hp.1, h.hp.2⟩, h.nz, h.ris⟩
theorem Sp.vlen {p : Int} {R C : Nat} {b k v : List Int} (h : Sp p R C b k v) : k.length = v.length := by
  have := h.beg
  simp only [begB, Bool.and_eq_true, decide_eq_true_eq] at this
  exact this.2.2.2.2
/-- What is at a row. -/
theorem Sp.row {p : Int} {R C : Nat} {b k v : List Int} (h : Sp p R C b k v) {i : Nat} (hi : i < R) :
    ∃ x y : Nat, b[i]? = some (x : Int) ∧ b[i + 1]? = some (y : Int) ∧ i < b.length ∧ i + 1 < b.length ∧ x ≤ y ∧ y ≤ k.length ∧ y ≤ v.length ∧ segI b k i = (k.drop x).take (y - x) ∧ segI b v i = (v.drop x).take (y - x) ∧ (segI b k i).length = y - x ∧ (segI b v i).length = y - x ∧
      (∀ c ∈ segI b k i, 0 ≤ c ∧ c < C) ∧ y - x ≤ C := by
  obtain ⟨x, y, g1, g2, l1, l2, xy, yk, sg⟩ := beg_facts h.beg i hi
  have hv := h.vlen
  have sv : segI b v i = (v.drop x).take (y - x) := by
    unfold segI
    rw [List.getD_eq_getElem?_getD, List.getD_eq_getElem?_getD, g1, g2]; rfl
  have ha : ∀ c ∈ segI b k i, 0 ≤ c ∧ c < C := by
    intro c hc
    have := risF_all _ _ _ (h.ris i hi) c hc
    omega
  have lk : (segI b k i).length = y - x := by rw [sg, List.length_take, List.length_drop]; omega
  refine ⟨x, y, g1, g2, l1, l2, xy, yk, by omega, sg, sv, lk, by rw [sv, List.length_take, List.length_drop]; omega, ha, ?_⟩
  have up : ∀ j, j < (segI b k i).length → (j : Int) ≤ (segI b k i).getD j 0 := by
    intro j
    induction j with
    | zero =>
      intro hj
      have := ha _ (by rw [List.getD_eq_getElem?_getD, List.getElem?_eq_getElem hj]; exact List.getElem_mem hj : (segI b k i).getD 0 0 ∈ segI b k i)
      simpa using this.1
    | succ j ih =>
      intro hj
      have h1 := ih (by omega)
      have h2 := risF_drop _ _ _ (h.ris i hi) j (j + 1) (by omega) hj
      omega
  rw [← lk]
  by_cases e : (segI b k i).length = 0
  · omega
  · have h1 := up ((segI b k i).length - 1) (by omega)
    have h2 := ha ((segI b k i).getD ((segI b k i).length - 1) 0) (by rw [List.getD_eq_getElem?_getD, List.getElem?_eq_getElem (show (segI b k i).length - 1 < (segI b k i).length by omega)]; exact List.getElem_mem _)
    omega
theorem segI_mem {b v : List Int} {i : Nat} {a : Int} (h : a ∈ segI b v i) : a ∈ v := List.mem_of_mem_drop (List.mem_of_mem_take h)
/-- The numbers of a vector at columns. -/
def atF (x : List Int) (ks : List Int) : List Int := ks.map fun c => x.getD c.toNat 0
def stF (p : Int) (b k v x : List Int) (i : Nat) : Int := dotI (segI b v i) (atF x (segI b k i)) % p
def stR (p r c : Int) (b k v x : List Int) : List Int × Int := if spB p r c b k v && (HasB p x && decide ((x.length : Int) = c)) then (tbl r.toNat (stF p b k v x), 0) else ([], 1)
theorem getD_mem' {l : List Int} {i : Nat} (h : i < l.length) : l.getD i 0 ∈ l := by
  rw [List.getD_eq_getElem?_getD, List.getElem?_eq_getElem h]; exact List.getElem_mem h
set_option maxHeartbeats 8000000 in
set_option maxRecDepth 100000 in
theorem stimes_walk (p r c : Int) (b k v x : List Int) (hb : b.length ≤ maxLen) (hk : k.length ≤ maxLen) (hv : v.length ≤ maxLen) (hx : x.length ≤ maxLen) (wv : W64s v) (wx : W64s x) :
    CallsP Try.prog 29 [u64 p, spP r c b k v, lu x] (.tup [lu (stR p r c b k v x).1, i64 (stR p r c b k v x).2]) := by
  have q1 := sparse_walk p r c b k v hb hk hv
  have q2 := has_walk p x hx
  unfold stR
  cases h1 : spB p r c b k v with
  | false =>
    rw [h1] at q1
    refine X_startP (n := 90) (m := 3) (rs := [.tmp 6, .tmp 7]) Try.func29 rfl rfl rfl rfl (by decide) fun base => ?_
    repeat (first | ((first | refine X_call_fn2 rfl (by simp only [tys]) ?_ | refine X_dcall_fn2 rfl (by simp only [tys]) ?_); apply Exists.intro; apply And.intro; (focus (simp -dsimp only [simx, zzC, zzB, tys, ite_self, opnL, callB, stepOp, ofVal, opBuiltin, opLen, PV.sk, scalBin, scalUn, intBin, opLoad, natOf, opConvert, opField, cellsP, oneP, Value.oneCell', opStore, toIV, scalT, scalA, scalC, boxesA, boxesC, ↓reduceIte, Nat.reduceSub, Nat.reduceEqDiff, Nat.reduceAdd, Nat.reduceMul, Nat.reduceLT, Nat.reduceLeDiff, Int.reduceToNat, Int.reduceLE, Int.reduceLT, Int.reduceNeg, reduceCtorEq, zzL, if_true, if_false] <;> rfl)); apply Exists.intro; apply And.intro; (focus (first | exact q1))) | refine ⟨(by show drawK _ _ = true; kernel_rfl : drawX _ _ _), ?_⟩ | exact (by show drawK _ _ = true; kernel_rfl : drawX _ _ _) | simp -dsimp (maxSteps := 20000000) (disch := omega) only [simx, zzC, zzB, tys, ite_self, opnL, callB, stepOp, ofVal, opBuiltin, opLen, PV.sk, scalBin, scalUn, intBin, opLoad, natOf, opConvert, opField, cellsP, oneP, Value.oneCell', opStore, toIV, scalT, scalA, scalC, boxesA, boxesC, ↓reduceIte, Nat.reduceSub, Nat.reduceEqDiff, Nat.reduceAdd, Nat.reduceMul, Nat.reduceLT, Nat.reduceLeDiff, Int.reduceToNat, Int.reduceLE, Int.reduceLT, Int.reduceNeg, reduceCtorEq, zzR, gos, Int.reduceAdd, Int.reduceSub, Int.reduceMul, Int.reduceEq])
    rfl
  | true =>
  rw [h1] at q1
  cases h2 : HasB p x with
  | false =>
    rw [h2] at q2
    refine X_startP (n := 90) (m := 3) (rs := [.tmp 6, .tmp 7]) Try.func29 rfl rfl rfl rfl (by decide) fun base => ?_
    repeat (first | ((first | refine X_call_fn2 rfl (by simp only [tys]) ?_ | refine X_dcall_fn2 rfl (by simp only [tys]) ?_); apply Exists.intro; apply And.intro; (focus (simp -dsimp only [simx, zzC, zzB, tys, ite_self, opnL, callB, stepOp, ofVal, opBuiltin, opLen, PV.sk, scalBin, scalUn, intBin, opLoad, natOf, opConvert, opField, cellsP, oneP, Value.oneCell', opStore, toIV, scalT, scalA, scalC, boxesA, boxesC, ↓reduceIte, Nat.reduceSub, Nat.reduceEqDiff, Nat.reduceAdd, Nat.reduceMul, Nat.reduceLT, Nat.reduceLeDiff, Int.reduceToNat, Int.reduceLE, Int.reduceLT, Int.reduceNeg, reduceCtorEq, zzL, if_true, if_false] <;> rfl)); apply Exists.intro; apply And.intro; (focus (first | exact q1 | exact q2))) | refine ⟨(by show drawK _ _ = true; kernel_rfl : drawX _ _ _), ?_⟩ | exact (by show drawK _ _ = true; kernel_rfl : drawX _ _ _) | simp -dsimp (maxSteps := 20000000) (disch := omega) only [simx, zzC, zzB, tys, ite_self, opnL, callB, stepOp, ofVal, opBuiltin, opLen, PV.sk, scalBin, scalUn, intBin, opLoad, natOf, opConvert, opField, cellsP, oneP, Value.oneCell', opStore, toIV, scalT, scalA, scalC, boxesA, boxesC, ↓reduceIte, Nat.reduceSub, Nat.reduceEqDiff, Nat.reduceAdd, Nat.reduceMul, Nat.reduceLT, Nat.reduceLeDiff, Int.reduceToNat, Int.reduceLE, Int.reduceLT, Int.reduceNeg, reduceCtorEq, zzR, gos, Int.reduceAdd, Int.reduceSub, Int.reduceMul, Int.reduceEq])
    rfl
  | true =>
  rw [h2] at q2
  by_cases h3 : (x.length : Int) = c
  case neg =>
    rw [decide_eq_false h3]
    refine X_startP (n := 90) (m := 3) (rs := [.tmp 6, .tmp 7]) Try.func29 rfl rfl rfl rfl (by decide) fun base => ?_
    repeat (first | ((first | refine X_call_fn2 rfl (by simp only [tys]) ?_ | refine X_dcall_fn2 rfl (by simp only [tys]) ?_); apply Exists.intro; apply And.intro; (focus (simp -dsimp only [simx, zzC, zzB, tys, ite_self, opnL, callB, stepOp, ofVal, opBuiltin, opLen, PV.sk, scalBin, scalUn, intBin, opLoad, natOf, opConvert, opField, cellsP, oneP, Value.oneCell', opStore, toIV, scalT, scalA, scalC, boxesA, boxesC, ↓reduceIte, Nat.reduceSub, Nat.reduceEqDiff, Nat.reduceAdd, Nat.reduceMul, Nat.reduceLT, Nat.reduceLeDiff, Int.reduceToNat, Int.reduceLE, Int.reduceLT, Int.reduceNeg, reduceCtorEq, zzL, if_true, if_false] <;> rfl)); apply Exists.intro; apply And.intro; (focus (first | exact q1 | exact q2))) | refine ⟨(by show drawK _ _ = true; kernel_rfl : drawX _ _ _), ?_⟩ | exact (by show drawK _ _ = true; kernel_rfl : drawX _ _ _) | simp -dsimp (maxSteps := 20000000) (disch := omega) only [simx, zzC, zzB, tys, ite_self, opnL, callB, stepOp, ofVal, opBuiltin, opLen, PV.sk, scalBin, scalUn, intBin, opLoad, natOf, opConvert, opField, cellsP, oneP, Value.oneCell', opStore, toIV, scalT, scalA, scalC, boxesA, boxesC, ↓reduceIte, Nat.reduceSub, Nat.reduceEqDiff, Nat.reduceAdd, Nat.reduceMul, Nat.reduceLT, Nat.reduceLeDiff, Int.reduceToNat, Int.reduceLE, Int.reduceLT, Int.reduceNeg, reduceCtorEq, zzR, gos, Int.reduceAdd, Int.reduceSub, Int.reduceMul, Int.reduceEq])
    rfl
  rw [decide_eq_true h3]
  obtain ⟨R, C, rfl, rfl, S⟩ := sp_of h1
  simp only [Bool.and_self, if_true, Int.toNat_natCast]
  have r1 := S.r1
  have r2 := S.r2
  have c2 := S.c2
  have xC : x.length = C := by omega
  have hxp := ((has_iff _ _).1 h2).1
  refine X_startP (n := 90) (m := 3) (rs := [.tmp 6, .tmp 7]) Try.func29 rfl rfl rfl rfl (by decide) fun base => ?_
  repeat (first | ((first | refine X_call_fn2 rfl (by simp only [tys]) ?_ | refine X_dcall_fn2 rfl (by simp only [tys]) ?_); apply Exists.intro; apply And.intro; (focus (simp -dsimp only [simx, zzC, zzB, tys, ite_self, opnL, callB, stepOp, ofVal, opBuiltin, opLen, PV.sk, scalBin, scalUn, intBin, opLoad, natOf, opConvert, opField, cellsP, oneP, Value.oneCell', opStore, toIV, scalT, scalA, scalC, boxesA, boxesC, ↓reduceIte, Nat.reduceSub, Nat.reduceEqDiff, Nat.reduceAdd, Nat.reduceMul, Nat.reduceLT, Nat.reduceLeDiff, Int.reduceToNat, Int.reduceLE, Int.reduceLT, Int.reduceNeg, reduceCtorEq, zzL, if_true, if_false] <;> rfl)); apply Exists.intro; apply And.intro; (focus (first | exact q1 | exact q2))) | refine ⟨(by show drawK _ _ = true; kernel_rfl : drawX _ _ _), ?_⟩ | exact (by show drawK _ _ = true; kernel_rfl : drawX _ _ _) | simp -dsimp (maxSteps := 20000000) (disch := omega) only [simx, zzC, zzB, tys, ite_self, opnL, callB, stepOp, ofVal, opBuiltin, opLen, PV.sk, scalBin, scalUn, intBin, opLoad, natOf, opConvert, opField, cellsP, oneP, Value.oneCell', opStore, toIV, scalT, scalA, scalC, boxesA, boxesC, ↓reduceIte, Nat.reduceSub, Nat.reduceEqDiff, Nat.reduceAdd, Nat.reduceMul, Nat.reduceLT, Nat.reduceLeDiff, Int.reduceToNat, Int.reduceLE, Int.reduceLT, Int.reduceNeg, reduceCtorEq, gos, Int.reduceAdd, Int.reduceSub, Int.reduceMul, Int.reduceEq])
  clear q1 q2 h1 h3
  refine X_loopH [0, 2, 4, 8, 33, 34] [(11, 6) :: base, (14, 2) :: base] (0) (R) (fun j => True) (fun j => [(8, rowP ((14, 3) :: base) 1 j ((tbl j (stF p b k v x)).map iu)), (34, i64 j)]) (fun j => rowH (Heap.none.put ((0, 0) :: base) (.var [i64 R, i64 C, li b, li k, lu v])) ((14, 3) :: base) j ((tbl j (stF p b k v x)).map iu)) ?_ ?_ ?_ ?_ ?_ (by decide) ?_
  · exact (fgt_cons (by simp only [Heap.none_at]) (by (simp -dsimp only [zzB, tys, ite_self, opnL, callB, stepOp, ofVal, opBuiltin, opLen, PV.sk, scalBin, scalUn, intBin, opLoad, natOf, opConvert, opField, cellsP, oneP, Value.oneCell', opStore, toIV, scalT, scalA, scalC, boxesA, boxesC, ↓reduceIte, Nat.reduceSub, Nat.reduceEqDiff, Nat.reduceAdd, Nat.reduceMul, Nat.reduceLT, Nat.reduceLeDiff, Int.reduceToNat, Int.reduceLE, Int.reduceLT, Int.reduceNeg, reduceCtorEq, notIn_cons, notIn_nil]) <;> simp [refsL, refsP, mem_refs_rowP]) (by repeat (first | exact noVar_none _ | refine noVar_row ?_ | refine noVar_rowH ?_ | refine noVar_var ?_ (by simp [refsL, refsP, mem_refs_rowP]))) (fgt_cons (by simp only [Heap.none_at]) (by (simp -dsimp only [zzB, tys, ite_self, opnL, callB, stepOp, ofVal, opBuiltin, opLen, PV.sk, scalBin, scalUn, intBin, opLoad, natOf, opConvert, opField, cellsP, oneP, Value.oneCell', opStore, toIV, scalT, scalA, scalC, boxesA, boxesC, ↓reduceIte, Nat.reduceSub, Nat.reduceEqDiff, Nat.reduceAdd, Nat.reduceMul, Nat.reduceLT, Nat.reduceLeDiff, Int.reduceToNat, Int.reduceLE, Int.reduceLT, Int.reduceNeg, reduceCtorEq, notIn_cons, notIn_nil]) <;> simp [refsL, refsP, mem_refs_rowP]) (by repeat (first | exact noVar_none _ | refine noVar_row ?_ | refine noVar_rowH ?_ | refine noVar_var ?_ (by simp [refsL, refsP, mem_refs_rowP]))) (fgt_nil)))
  · ((simp -dsimp (disch := omega) only [simx, zzB, tys, ite_self, opnL, callB, stepOp, ofVal, opBuiltin, opLen, PV.sk, scalBin, scalUn, intBin, opLoad, natOf, opConvert, opField, cellsP, oneP, Value.oneCell', opStore, toIV, scalT, scalA, scalC, boxesA, boxesC, ↓reduceIte, Nat.reduceSub, Nat.reduceEqDiff, Nat.reduceAdd, Nat.reduceMul, Nat.reduceLT, Nat.reduceLeDiff, Int.reduceToNat, Int.reduceLE, Int.reduceLT, Int.reduceNeg, reduceCtorEq, gos, Int.reduceAdd, Int.reduceSub, Int.reduceMul, Int.reduceEq]) <;> first | rfl | simp [rowP])
  · funext c
    simp (maxSteps := 20000000) only [Heap.drop_at, rowH_app, Heap.put_at, Heap.none_at, List.mem_cons, List.not_mem_nil, or_false]
    by_cases e0 : c = (0, 0) :: base
    · subst e0; simp []
    by_cases e1 : c = (11, 6) :: base
    · subst e1; simp []
    by_cases e2 : c = (14, 2) :: base
    · subst e2; simp []
    simp [e0, e1, e2]
  · omega
  · trivial
  · intro j hj _
    by_cases cj : j < R
    · obtain ⟨a, y, g1, g2, l1, l2, xy, yk, yv, sg, sv, lk, lv, hc, hn⟩ := S.row cj
      have e4 : ((k.map ii).drop a).take (y - a) = (segI b k j).map ii := by rw [sg, List.map_take, List.map_drop]
      have e5 : ((v.map iu).drop a).take (y - a) = (segI b v j).map iu := by rw [sv, List.map_take, List.map_drop]
      have e6 : (j : Int) + 1 = ((j + 1 : Nat) : Int) := rfl
      have ts := tbl_succ j (stF p b k v x)
      have tlen := tbl_len j (stF p b k v x)
      have d := dot_walk p (segI b v j) (atF x (segI b k j)) (by rw [lv]; omega) (by simp only [atF, List.length_map, lk]; omega) (fun a ha => wv a (segI_mem ha)) (fun a ha => by
        unfold atF at ha
        obtain ⟨c, hcm, rfl⟩ := List.mem_map.1 ha
        have := hc c hcm
        exact wx _ (getD_mem' (by omega)))
      have al : (atF x (segI b k j)).length = y - a := by simp only [atF, List.length_map, lk]
      rw [show dotR p (segI b v j) (atF x (segI b k j)) = (stF p b k v x j, 0) by
        unfold dotR stF
        rw [show HasB p (segI b v j) = true from (has_iff _ _).2 ⟨fun a ha => S.has a (segI_mem ha), S.hp.1, S.hp.2⟩, show HasB p (atF x (segI b k j)) = true from (has_iff _ _).2 ⟨fun a ha => by
          unfold atF at ha
          obtain ⟨c, hcm, rfl⟩ := List.mem_map.1 ha
          have := hc c hcm
          exact hxp _ (getD_mem' (by omega)), S.hp.1, S.hp.2⟩, decide_eq_true (show (segI b v j).length = (atF x (segI b k j)).length by omega)]; rfl] at d
      rw [show lu (segI b v j) = .i (.l (y - a) ((segI b v j).map iu)) by rw [← lv], show lu (atF x (segI b k j)) = .i (.l (y - a) ((atF x (segI b k j)).map iu)) by rw [← al]] at d
      generalize stF p b k v x j = res at d ts
      repeat (first | refine ⟨(by show drawK _ _ = true; kernel_rfl : drawX _ _ _), ?_⟩ | exact (by show drawK _ _ = true; kernel_rfl : drawX _ _ _) | simp -dsimp (maxSteps := 20000000) (disch := omega) only [simx, zzC, zzB, tys, ite_self, opnL, callB, stepOp, ofVal, opBuiltin, opLen, PV.sk, scalBin, scalUn, intBin, opLoad, natOf, opConvert, opField, cellsP, oneP, Value.oneCell', opStore, toIV, scalT, scalA, scalC, boxesA, boxesC, ↓reduceIte, Nat.reduceSub, Nat.reduceEqDiff, Nat.reduceAdd, Nat.reduceMul, Nat.reduceLT, Nat.reduceLeDiff, Int.reduceToNat, Int.reduceLE, Int.reduceLT, Int.reduceNeg, reduceCtorEq, gos, Int.reduceAdd, Int.reduceSub, Int.reduceMul, Int.reduceEq, cj, e6, g1, g2, l1, l2, xy, yk, e4, List.length_map, li])
      refine X_loopH [0, 2, 4, 8, 9, 10, 33, 34, 50, 51, 52] [(11, 5) :: base] (0) ((segI b k j).length) (fun j_ => True) (fun j_ => [(10, rowP ((11, 6) :: base) 1 j_ ((atF x ((segI b k j).take j_)).map iu)), (52, i64 j_)]) (fun j_ => rowH (rowH (Heap.none.put ((0, 0) :: base) (.var [i64 R, i64 C, li b, li k, lu v])) ((14, 3) :: base) j ((tbl j (stF p b k v x)).map iu)) ((11, 6) :: base) j_ ((atF x ((segI b k j).take j_)).map iu)) ?_ ?_ ?_ ?_ ?_ (by decide) ?_
      · exact (fgt_cons (by simp only [Heap.none_at]) (by (simp -dsimp only [zzB, tys, ite_self, opnL, callB, stepOp, ofVal, opBuiltin, opLen, PV.sk, scalBin, scalUn, intBin, opLoad, natOf, opConvert, opField, cellsP, oneP, Value.oneCell', opStore, toIV, scalT, scalA, scalC, boxesA, boxesC, ↓reduceIte, Nat.reduceSub, Nat.reduceEqDiff, Nat.reduceAdd, Nat.reduceMul, Nat.reduceLT, Nat.reduceLeDiff, Int.reduceToNat, Int.reduceLE, Int.reduceLT, Int.reduceNeg, reduceCtorEq, notIn_cons, notIn_nil]) <;> simp [refsL, refsP, mem_refs_rowP]) (by repeat (first | exact noVar_none _ | refine noVar_row ?_ | refine noVar_rowH ?_ | refine noVar_var ?_ (by simp [refsL, refsP, mem_refs_rowP]))) (fgt_nil))
      · ((simp -dsimp (disch := omega) only [simx, zzB, tys, ite_self, opnL, callB, stepOp, ofVal, opBuiltin, opLen, PV.sk, scalBin, scalUn, intBin, opLoad, natOf, opConvert, opField, cellsP, oneP, Value.oneCell', opStore, toIV, scalT, scalA, scalC, boxesA, boxesC, ↓reduceIte, Nat.reduceSub, Nat.reduceEqDiff, Nat.reduceAdd, Nat.reduceMul, Nat.reduceLT, Nat.reduceLeDiff, Int.reduceToNat, Int.reduceLE, Int.reduceLT, Int.reduceNeg, reduceCtorEq, gos, Int.reduceAdd, Int.reduceSub, Int.reduceMul, Int.reduceEq]) <;> first | rfl | simp [rowP])
      · funext c
        simp (maxSteps := 20000000) only [Heap.drop_at, rowH_app, Heap.put_at, Heap.none_at, List.mem_cons, List.not_mem_nil, or_false]
        by_cases e0 : c = (0, 0) :: base
        · subst e0; simp []
        by_cases e1 : c = (11, 5) :: base
        · subst e1; simp []
        by_cases e2 : c = (11, 6) :: base
        · subst e2; simp []
        by_cases e3 : c = (14, 3) :: base
        · subst e3; simp []
        simp [e0, e1, e2, e3]
      · omega
      · trivial
      · intro m hm _
        have lt : ((segI b k j).take m).length = m := by rw [List.length_take]; omega
        by_cases cm : m < (segI b k j).length
        · have g3 : (segI b k j)[m]? = some (segI b k j)[m] := List.getElem?_eq_getElem cm
          obtain ⟨c0, c1⟩ := hc _ (List.getElem_mem cm)
          have nx : atF x ((segI b k j).take (m + 1)) = atF x ((segI b k j).take m) ++ [x.getD ((segI b k j)[m]).toNat 0] := by
            unfold atF; rw [List.take_succ_eq_append_getElem cm, List.map_append]; rfl
          generalize (segI b k j)[m] = q at g3 c0 c1 nx
          obtain ⟨Q, rfl⟩ := Int.eq_ofNat_of_zero_le c0
          have hQ : Q < x.length := by omega
          rw [Int.toNat_natCast, List.getD_eq_getElem?_getD, List.getElem?_eq_getElem hQ, Option.getD_some] at nx
          have g4 : x[Q]? = some x[Q] := List.getElem?_eq_getElem hQ
          have cm2 : m < y - a := by omega
          have atl : (atF x ((segI b k j).take m)).length = m := by simp only [atF, List.length_map, lt]
          generalize x[Q] = u at nx g4
          repeat (first | refine ⟨(by show drawK _ _ = true; kernel_rfl : drawX _ _ _), ?_⟩ | exact (by show drawK _ _ = true; kernel_rfl : drawX _ _ _) | simp -dsimp (maxSteps := 20000000) (disch := omega) only [simx, zzC, zzB, tys, ite_self, opnL, callB, stepOp, ofVal, opBuiltin, opLen, PV.sk, scalBin, scalUn, intBin, opLoad, natOf, opConvert, opField, cellsP, oneP, Value.oneCell', opStore, toIV, scalT, scalA, scalC, boxesA, boxesC, ↓reduceIte, Nat.reduceSub, Nat.reduceEqDiff, Nat.reduceAdd, Nat.reduceMul, Nat.reduceLT, Nat.reduceLeDiff, Int.reduceToNat, Int.reduceLE, Int.reduceLT, Int.reduceNeg, reduceCtorEq, gos, Int.reduceAdd, Int.reduceSub, Int.reduceMul, Int.reduceEq, cm2, lk, g3, hQ, g4])
          refine X_append_one 22 [.int .u64 0] [iu u] (by simp only [tys]) (by simp only [tys]) rfl (by decide) (by rw [List.length_map, atl, Nat.mul_one]) (by simp [Heap.put_at, Heap.none_at, rowH_app]) (by simp [Heap.put_at]; rfl) rfl (by simp only [tys]; omega) (by rw [mx_len]; omega) ?_
          repeat (first | refine ⟨(by show drawK _ _ = true; kernel_rfl : drawX _ _ _), ?_⟩ | exact (by show drawK _ _ = true; kernel_rfl : drawX _ _ _) | simp -dsimp (maxSteps := 20000000) (disch := omega) only [simx, zzC, zzB, tys, ite_self, opnL, callB, stepOp, ofVal, opBuiltin, opLen, PV.sk, scalBin, scalUn, intBin, opLoad, natOf, opConvert, opField, cellsP, oneP, Value.oneCell', opStore, toIV, scalT, scalA, scalC, boxesA, boxesC, ↓reduceIte, Nat.reduceSub, Nat.reduceEqDiff, Nat.reduceAdd, Nat.reduceMul, Nat.reduceLT, Nat.reduceLeDiff, Int.reduceToNat, Int.reduceLE, Int.reduceLT, Int.reduceNeg, reduceCtorEq, gos, Int.reduceAdd, Int.reduceSub, Int.reduceMul, Int.reduceEq, cm])
          refine ⟨cm, (fgt_cons (by simp only [Heap.none_at]) (by (simp -dsimp only [zzB, tys, ite_self, opnL, callB, stepOp, ofVal, opBuiltin, opLen, PV.sk, scalBin, scalUn, intBin, opLoad, natOf, opConvert, opField, cellsP, oneP, Value.oneCell', opStore, toIV, scalT, scalA, scalC, boxesA, boxesC, ↓reduceIte, Nat.reduceSub, Nat.reduceEqDiff, Nat.reduceAdd, Nat.reduceMul, Nat.reduceLT, Nat.reduceLeDiff, Int.reduceToNat, Int.reduceLE, Int.reduceLT, Int.reduceNeg, reduceCtorEq, notIn_cons, notIn_nil]) <;> simp [refsL, refsP, mem_refs_rowP]) (by repeat (first | exact noVar_none _ | refine noVar_row ?_ | refine noVar_rowH ?_ | refine noVar_var ?_ (by simp [refsL, refsP, mem_refs_rowP]))) (fgt_nil)), ⟨?_, rfl⟩, ?_⟩
          · rw [nx, List.map_append]; rfl
          funext c
          simp (maxSteps := 20000000) only [Heap.drop_at, rowH_app, Heap.put_at, Heap.none_at, List.mem_cons, List.not_mem_nil, or_false]
          by_cases e0 : c = (0, 0) :: base
          · subst e0; simp [nx]
          by_cases e1 : c = (11, 5) :: base
          · subst e1; simp [nx]
          by_cases e2 : c = (11, 6) :: base
          · subst e2; simp [nx]
          by_cases e3 : c = (14, 3) :: base
          · subst e3; simp [nx]
          simp [e0, e1, e2, e3, nx]
        · have hm' : m = y - a := by omega
          have tf : (segI b k j).take m = segI b k j := List.take_of_length_le (by omega)
          rw [tf]
          subst hm'
          have al2 : ((atF x (segI b k j)).map iu).take (y - a) = (atF x (segI b k j)).map iu := List.take_of_length_le (by rw [List.length_map, al]; exact Nat.le_refl _)
          rcases Nat.eq_zero_or_pos (y - a) with c0 | c0
          · have e0 : atF x (segI b k j) = [] := List.eq_nil_of_length_eq_zero (by omega)
            rw [e0] at d ⊢
            rw [c0] at d e4 e5 hm lk lv hn ⊢
            repeat (first | ((first | refine X_call_fn2 rfl (by simp only [tys]) ?_ | refine X_dcall_fn2 rfl (by simp only [tys]) ?_); apply Exists.intro; apply And.intro; (focus (simp -dsimp only [simx, zzC, zzB, tys, ite_self, opnL, callB, stepOp, ofVal, opBuiltin, opLen, PV.sk, scalBin, scalUn, intBin, opLoad, natOf, opConvert, opField, cellsP, oneP, Value.oneCell', opStore, toIV, scalT, scalA, scalC, boxesA, boxesC, ↓reduceIte, Nat.reduceSub, Nat.reduceEqDiff, Nat.reduceAdd, Nat.reduceMul, Nat.reduceLT, Nat.reduceLeDiff, Int.reduceToNat, Int.reduceLE, Int.reduceLT, Int.reduceNeg, reduceCtorEq, zzL, if_true, if_false] <;> rfl)); apply Exists.intro; apply And.intro; (focus (first | exact d))) | refine ⟨(by show drawK _ _ = true; kernel_rfl : drawX _ _ _), ?_⟩ | exact (by show drawK _ _ = true; kernel_rfl : drawX _ _ _) | simp -dsimp (maxSteps := 20000000) (disch := omega) only [simx, zzC, zzB, tys, ite_self, opnL, callB, stepOp, ofVal, opBuiltin, opLen, PV.sk, scalBin, scalUn, intBin, opLoad, natOf, opConvert, opField, cellsP, oneP, Value.oneCell', opStore, toIV, scalT, scalA, scalC, boxesA, boxesC, ↓reduceIte, Nat.reduceSub, Nat.reduceEqDiff, Nat.reduceAdd, Nat.reduceMul, Nat.reduceLT, Nat.reduceLeDiff, Int.reduceToNat, Int.reduceLE, Int.reduceLT, Int.reduceNeg, reduceCtorEq, gos, Int.reduceAdd, Int.reduceSub, Int.reduceMul, Int.reduceEq, cj, e6, g1, g2, l1, l2, xy, yv, e5, c0, lk, rowP_zero, rowH_zero, List.length_map, lu])
            refine X_append_one 22 [.int .u64 0] [iu res] (by simp only [tys]) (by simp only [tys]) rfl (by decide) (by rw [List.length_map, tlen, Nat.mul_one]) (by simp [Heap.put_at, Heap.none_at, rowH_app]) (by simp [Heap.put_at]; rfl) rfl (by simp only [tys]; omega) (by rw [mx_len]; omega) ?_
            repeat (first | refine ⟨(by show drawK _ _ = true; kernel_rfl : drawX _ _ _), ?_⟩ | exact (by show drawK _ _ = true; kernel_rfl : drawX _ _ _) | simp -dsimp (maxSteps := 20000000) (disch := omega) only [simx, zzC, zzB, tys, ite_self, opnL, callB, stepOp, ofVal, opBuiltin, opLen, PV.sk, scalBin, scalUn, intBin, opLoad, natOf, opConvert, opField, cellsP, oneP, Value.oneCell', opStore, toIV, scalT, scalA, scalC, boxesA, boxesC, ↓reduceIte, Nat.reduceSub, Nat.reduceEqDiff, Nat.reduceAdd, Nat.reduceMul, Nat.reduceLT, Nat.reduceLeDiff, Int.reduceToNat, Int.reduceLE, Int.reduceLT, Int.reduceNeg, reduceCtorEq, gos, Int.reduceAdd, Int.reduceSub, Int.reduceMul, Int.reduceEq, cj])
            refine ⟨cj, (fgt_cons (by simp only [Heap.none_at]) (by (simp -dsimp only [zzB, tys, ite_self, opnL, callB, stepOp, ofVal, opBuiltin, opLen, PV.sk, scalBin, scalUn, intBin, opLoad, natOf, opConvert, opField, cellsP, oneP, Value.oneCell', opStore, toIV, scalT, scalA, scalC, boxesA, boxesC, ↓reduceIte, Nat.reduceSub, Nat.reduceEqDiff, Nat.reduceAdd, Nat.reduceMul, Nat.reduceLT, Nat.reduceLeDiff, Int.reduceToNat, Int.reduceLE, Int.reduceLT, Int.reduceNeg, reduceCtorEq, notIn_cons, notIn_nil]) <;> simp [refsL, refsP, mem_refs_rowP]) (by repeat (first | exact noVar_none _ | refine noVar_row ?_ | refine noVar_rowH ?_ | refine noVar_var ?_ (by simp [refsL, refsP, mem_refs_rowP]))) (fgt_cons (by simp only [Heap.none_at]) (by (simp -dsimp only [zzB, tys, ite_self, opnL, callB, stepOp, ofVal, opBuiltin, opLen, PV.sk, scalBin, scalUn, intBin, opLoad, natOf, opConvert, opField, cellsP, oneP, Value.oneCell', opStore, toIV, scalT, scalA, scalC, boxesA, boxesC, ↓reduceIte, Nat.reduceSub, Nat.reduceEqDiff, Nat.reduceAdd, Nat.reduceMul, Nat.reduceLT, Nat.reduceLeDiff, Int.reduceToNat, Int.reduceLE, Int.reduceLT, Int.reduceNeg, reduceCtorEq, notIn_cons, notIn_nil]) <;> simp [refsL, refsP, mem_refs_rowP]) (by repeat (first | exact noVar_none _ | refine noVar_row ?_ | refine noVar_rowH ?_ | refine noVar_var ?_ (by simp [refsL, refsP, mem_refs_rowP]))) (fgt_nil))), ⟨?_, rfl⟩, ?_⟩
            · rw [ts, List.map_append]; rfl
            funext c
            simp (maxSteps := 20000000) only [Heap.drop_at, rowH_app, Heap.put_at, Heap.none_at, List.mem_cons, List.not_mem_nil, or_false]
            by_cases e0 : c = (0, 0) :: base
            · subst e0; simp [ts]
            by_cases e1 : c = (11, 6) :: base
            · subst e1; simp [ts]
            by_cases e2 : c = (14, 2) :: base
            · subst e2; simp [ts]
            by_cases e3 : c = (14, 3) :: base
            · subst e3; simp [ts]
            simp [e0, e1, e2, e3, ts]
          · have rp := fun s z cs => rowP_pos s z cs c0
            have rh := fun h s cs => rowH_pos h s cs c0
            repeat (first | ((first | refine X_call_fn2 rfl (by simp only [tys]) ?_ | refine X_dcall_fn2 rfl (by simp only [tys]) ?_); apply Exists.intro; apply And.intro; (focus (simp -dsimp only [simx, zzC, zzB, tys, ite_self, opnL, callB, stepOp, ofVal, opBuiltin, opLen, PV.sk, scalBin, scalUn, intBin, opLoad, natOf, opConvert, opField, cellsP, oneP, Value.oneCell', opStore, toIV, scalT, scalA, scalC, boxesA, boxesC, ↓reduceIte, Nat.reduceSub, Nat.reduceEqDiff, Nat.reduceAdd, Nat.reduceMul, Nat.reduceLT, Nat.reduceLeDiff, Int.reduceToNat, Int.reduceLE, Int.reduceLT, Int.reduceNeg, reduceCtorEq, zzL, if_true, if_false, al, al2, List.length_map] <;> rfl)); apply Exists.intro; apply And.intro; (focus (first | exact d))) | refine ⟨(by show drawK _ _ = true; kernel_rfl : drawX _ _ _), ?_⟩ | exact (by show drawK _ _ = true; kernel_rfl : drawX _ _ _) | simp -dsimp (maxSteps := 20000000) (disch := omega) only [simx, zzC, zzB, tys, ite_self, opnL, callB, stepOp, ofVal, opBuiltin, opLen, PV.sk, scalBin, scalUn, intBin, opLoad, natOf, opConvert, opField, cellsP, oneP, Value.oneCell', opStore, toIV, scalT, scalA, scalC, boxesA, boxesC, ↓reduceIte, Nat.reduceSub, Nat.reduceEqDiff, Nat.reduceAdd, Nat.reduceMul, Nat.reduceLT, Nat.reduceLeDiff, Int.reduceToNat, Int.reduceLE, Int.reduceLT, Int.reduceNeg, reduceCtorEq, gos, Int.reduceAdd, Int.reduceSub, Int.reduceMul, Int.reduceEq, cj, e6, g1, g2, l1, l2, xy, yv, e5, lk, rp, rh, List.length_map, lu])
            refine X_append_one 22 [.int .u64 0] [iu res] (by simp only [tys]) (by simp only [tys]) rfl (by decide) (by rw [List.length_map, tlen, Nat.mul_one]) (by simp [Heap.put_at, Heap.none_at, rowH_app]) (by simp [Heap.put_at]; rfl) rfl (by simp only [tys]; omega) (by rw [mx_len]; omega) ?_
            repeat (first | refine ⟨(by show drawK _ _ = true; kernel_rfl : drawX _ _ _), ?_⟩ | exact (by show drawK _ _ = true; kernel_rfl : drawX _ _ _) | simp -dsimp (maxSteps := 20000000) (disch := omega) only [simx, zzC, zzB, tys, ite_self, opnL, callB, stepOp, ofVal, opBuiltin, opLen, PV.sk, scalBin, scalUn, intBin, opLoad, natOf, opConvert, opField, cellsP, oneP, Value.oneCell', opStore, toIV, scalT, scalA, scalC, boxesA, boxesC, ↓reduceIte, Nat.reduceSub, Nat.reduceEqDiff, Nat.reduceAdd, Nat.reduceMul, Nat.reduceLT, Nat.reduceLeDiff, Int.reduceToNat, Int.reduceLE, Int.reduceLT, Int.reduceNeg, reduceCtorEq, gos, Int.reduceAdd, Int.reduceSub, Int.reduceMul, Int.reduceEq, cj])
            refine ⟨cj, (fgt_cons (by simp only [Heap.none_at]) (by (simp -dsimp only [zzB, tys, ite_self, opnL, callB, stepOp, ofVal, opBuiltin, opLen, PV.sk, scalBin, scalUn, intBin, opLoad, natOf, opConvert, opField, cellsP, oneP, Value.oneCell', opStore, toIV, scalT, scalA, scalC, boxesA, boxesC, ↓reduceIte, Nat.reduceSub, Nat.reduceEqDiff, Nat.reduceAdd, Nat.reduceMul, Nat.reduceLT, Nat.reduceLeDiff, Int.reduceToNat, Int.reduceLE, Int.reduceLT, Int.reduceNeg, reduceCtorEq, notIn_cons, notIn_nil]) <;> simp [refsL, refsP, mem_refs_rowP]) (by repeat (first | exact noVar_none _ | refine noVar_row ?_ | refine noVar_rowH ?_ | refine noVar_var ?_ (by simp [refsL, refsP, mem_refs_rowP]))) (fgt_cons (by simp only [Heap.none_at]) (by (simp -dsimp only [zzB, tys, ite_self, opnL, callB, stepOp, ofVal, opBuiltin, opLen, PV.sk, scalBin, scalUn, intBin, opLoad, natOf, opConvert, opField, cellsP, oneP, Value.oneCell', opStore, toIV, scalT, scalA, scalC, boxesA, boxesC, ↓reduceIte, Nat.reduceSub, Nat.reduceEqDiff, Nat.reduceAdd, Nat.reduceMul, Nat.reduceLT, Nat.reduceLeDiff, Int.reduceToNat, Int.reduceLE, Int.reduceLT, Int.reduceNeg, reduceCtorEq, notIn_cons, notIn_nil]) <;> simp [refsL, refsP, mem_refs_rowP]) (by repeat (first | exact noVar_none _ | refine noVar_row ?_ | refine noVar_rowH ?_ | refine noVar_var ?_ (by simp [refsL, refsP, mem_refs_rowP]))) (fgt_nil))), ⟨?_, rfl⟩, ?_⟩
            · rw [ts, List.map_append]; rfl
            funext c
            simp (maxSteps := 20000000) only [Heap.drop_at, rowH_app, Heap.put_at, Heap.none_at, List.mem_cons, List.not_mem_nil, or_false]
            by_cases e0 : c = (0, 0) :: base
            · subst e0; simp [ts]
            by_cases e1 : c = (11, 6) :: base
            · subst e1; simp [ts]
            by_cases e2 : c = (14, 2) :: base
            · subst e2; simp [ts]
            by_cases e3 : c = (14, 3) :: base
            · subst e3; simp [ts]
            simp [e0, e1, e2, e3, ts]
    · obtain rfl : R = j := by omega
      have e2 : ((tbl R (stF p b k v x)).map iu).take R = (tbl R (stF p b k v x)).map iu := List.take_of_length_le (by rw [List.length_map, tbl_len]; exact Nat.le_refl _)
      have rp := fun s z cs => rowP_pos s z cs (show 0 < R by omega)
      have rh := fun h s cs => rowH_pos h s cs (show 0 < R by omega)
      repeat (first | refine ⟨(by show drawK _ _ = true; kernel_rfl : drawX _ _ _), ?_⟩ | exact (by show drawK _ _ = true; kernel_rfl : drawX _ _ _) | simp -dsimp (maxSteps := 20000000) (disch := omega) only [simx, zzC, zzB, tys, ite_self, opnL, callB, stepOp, ofVal, opBuiltin, opLen, PV.sk, scalBin, scalUn, intBin, opLoad, natOf, opConvert, opField, cellsP, oneP, Value.oneCell', opStore, toIV, scalT, scalA, scalC, boxesA, boxesC, ↓reduceIte, Nat.reduceSub, Nat.reduceEqDiff, Nat.reduceAdd, Nat.reduceMul, Nat.reduceLT, Nat.reduceLeDiff, Int.reduceToNat, Int.reduceLE, Int.reduceLT, Int.reduceNeg, reduceCtorEq, zzR, gos, Int.reduceAdd, Int.reduceSub, Int.reduceMul, Int.reduceEq, rp, rh, List.length_map, tbl_len, e2, lu])
end Go.Proofs.Ytnnkoghmglpnmaa.TM
