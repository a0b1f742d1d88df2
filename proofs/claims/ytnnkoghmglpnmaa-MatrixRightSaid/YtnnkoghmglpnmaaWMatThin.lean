/- Layer 5, MatrixThin: thin and whole again a matrix is itself; turned twice, too; with one, on either side, too. -/
import Derived.Test.YtnnkoghmglpnmaaWMatO
import Derived.Test.YtnnkoghmglpnmaaWMatApplies
namespace Go.Proofs.Ytnnkoghmglpnmaa.TM
open Go Go.RowKit
set_option linter.unusedVariables false
set_option linter.defProp false
set_option linter.unusedSimpArgs false
attribute [local irreducible] K W WOps Effs Xg Xo Xr Xdg Xdo Xdr Xif CallsP CallR

theorem risF_weak {l : List Int} {a b most : Int} (h : risF a l most = true) (hb : ∀ c ∈ l, b < c) : risF b l most = true := by
  cases l with
  | nil => rfl
  | cons c l =>
    rw [risF] at h ⊢
    by_cases e : c ≤ a ∨ most ≤ c
    · rw [if_pos e] at h; cases h
    · rw [if_neg e] at h
      have := hb c (by simp)
      rw [if_neg (by omega)]; exact h
theorem nz_look : ∀ (n : Nat) (lo : Int) (ks vs : List Int), risF (lo - 1) ks (lo + n) = true → ks.length = vs.length → (∀ a ∈ vs, a ≠ 0) → nzV ((List.range n).map fun (c : Nat) => lookC (lo + c) ks vs 0) = vs
  | 0, lo, [], [], _, _, _ => rfl
  | 0, lo, q :: ks, vs, h, _, _ => by
    have := risF_all _ _ _ h q (by simp)
    omega
  | 0, lo, [], _ :: _, _, h, _ => by simp at h
  | n + 1, lo, ks, vs, h, hl, hv => by
    rw [List.range_succ_eq_map, List.map_cons, List.map_map]
    have e0 : ((fun (c : Nat) => lookC (lo + c) ks vs 0) ∘ Nat.succ) = fun (c : Nat) => lookC (lo + 1 + c) ks vs 0 := by
      funext c
      show lookC (lo + ((c + 1 : Nat) : Int)) ks vs 0 = _
      rw [show lo + ((c + 1 : Nat) : Int) = lo + 1 + c by omega]
    rw [e0]
    simp only [nzV]
    rw [show lo + ((0 : Nat) : Int) = lo by omega]
    cases ks with
    | nil =>
      cases vs with
      | nil =>
        rw [show lookC lo [] [] 0 = 0 from rfl, if_pos rfl]
        exact nz_look n (lo + 1) [] [] rfl rfl hv
      | cons u vs => simp at hl
    | cons q ks =>
      cases vs with
      | nil => simp at hl
      | cons u vs =>
        have ha := risF_all _ _ _ h
        have hq := ha q (by simp)
        have hr := h
        rw [risF, if_neg (by omega)] at hr
        by_cases e : q = lo
        · subst e
          have no : ∀ z ∈ ks, z ≠ q := fun z hz => by have := risF_all _ _ _ hr z hz; omega
          have hu := hv u (by simp)
          rw [show lookC q (q :: ks) (u :: vs) 0 = u by rw [lookC, if_pos rfl, lookC_no _ _ _ _ no], if_neg hu]
          congr 1
          have : (fun (c : Nat) => lookC (q + 1 + c) (q :: ks) (u :: vs) 0) = fun (c : Nat) => lookC (q + 1 + c) ks vs 0 := by
            funext c
            rw [lookC, if_neg (by omega)]
          rw [this]
          refine nz_look n (q + 1) ks vs ?_ (by simpa using hl) (fun a ha => hv a (by simp [ha]))
          rw [show q + 1 - 1 = q by omega, show q + 1 + (n : Int) = q + ((n + 1 : Nat) : Int) by omega]
          exact hr
        · have no : ∀ z ∈ q :: ks, z ≠ lo := fun z hz => by
            rcases List.mem_cons.1 hz with rfl | hz
            · exact e
            · have := risF_all _ _ _ hr z hz; omega
          rw [lookC_no _ _ _ _ no, if_pos rfl]
          refine nz_look n (lo + 1) (q :: ks) (u :: vs) ?_ hl hv
          rw [show lo + 1 - 1 = lo by omega, show lo + 1 + (n : Int) = lo + ((n + 1 : Nat) : Int) by omega]
          refine risF_weak h fun z hz => ?_
          have h1 := ha z hz
          have h2 := no z hz
          omega
theorem seg_all {R : Nat} {b k v w : List Int} (h : begB R b k v = true) (hw : w.length = k.length) : (List.range R).flatMap (segI b w) = w := by
  have key : ∀ j, j ≤ R → (List.range j).flatMap (segI b w) = w.take (b.getD j 0).toNat := by
    intro j
    induction j with
    | zero =>
      intro _
      simp only [begB, Bool.and_eq_true, decide_eq_true_eq] at h
      rw [h.2.1]; simp
    | succ j ih =>
      intro hj
      rw [List.range_succ, List.flatMap_append, ih (by omega)]
      obtain ⟨x, y, g1, g2, l1, l2, xy, yk, sg⟩ := beg_facts h j (by omega)
      have b1 : b.getD j 0 = x := by rw [List.getD_eq_getElem?_getD, g1]; rfl
      have b2 : b.getD (j + 1) 0 = y := by rw [List.getD_eq_getElem?_getD, g2]; rfl
      have sw : segI b w j = (w.drop x).take (y - x) := by unfold segI; rw [b1, b2]; rfl
      rw [b1, b2, Int.toNat_natCast, Int.toNat_natCast]
      simp only [List.flatMap_cons, List.flatMap_nil, List.append_nil]
      rw [sw]
      conv => rhs; rw [show y = x + (y - x) by omega]
      rw [List.take_add]
  have h2 := key R (Nat.le_refl _)
  simp only [begB, Bool.and_eq_true, decide_eq_true_eq] at h
  rw [h2, h.2.2.1, Int.toNat_natCast, ← hw, List.take_length]
theorem flatMap_congr' {f g : Nat → List Int} {n : Nat} (h : ∀ i, i < n → f i = g i) : (List.range n).flatMap f = (List.range n).flatMap g := by
  rw [List.flatMap_def, List.flatMap_def]
  congr 1
  exact List.map_congr_left fun i hi => h i (List.mem_range.1 hi)
theorem whole_thinV {p : Int} {R C : Nat} {b k v : List Int} (S : Sp p R C b k v) : thinV C (wholeM R C b k v) R = v := by
  unfold thinV
  rw [flatMap_congr' (g := segI b v) (fun i hi => ?_), seg_all S.beg S.vlen.symm]
  have e : rowM C (wholeM R C b k v) i = (List.range C).map fun (c : Nat) => lookC (0 + (c : Int)) (segI b k i) (segI b v i) 0 := by
    rw [tbl_of (rowM_len (wholeM_len R C b k v) hi)]
    apply tbl_congr
    intro c hc
    rw [rowM_cl (wholeM_len R C b k v) hi hc, wholeM_cl b k v hi hc, Int.zero_add]; rfl
  rw [e]
  refine nz_look C 0 _ _ ?_ (S.seg_len hi) (fun a ha e => S.nz (e ▸ segI_mem ha))
  rw [Int.zero_add]
  exact S.ris i hi
theorem one_mt {p : Int} (hp : Md p) {n : Nat} (h1 : 1 ≤ n) (h2 : n ≤ 64) : Mt p n n (oneJ n n) :=
  ⟨hp, h1, h2, h1, h2, oneJ_len n n, fun a ha => by
    unfold oneJ at ha
    obtain ⟨q, _, rfl⟩ := List.mem_map.1 ha
    have := hp.1
    split <;> omega⟩
theorem one_cl {n i k : Nat} (hi : i < n) (hk : k < n) : cl n (oneJ n n) i k = if k = i then 1 else 0 := by
  have : oneJ n n = tbl (n * n) (fun q => if q / n = q % n ∧ q / n < n then 1 else 0) := rfl
  rw [this, cl_tbl _ hi hk, dc_div hk, dc_mod hk]
  by_cases e : k = i
  · rw [if_pos ⟨e.symm, hi⟩, if_pos e]
  · rw [if_neg (fun h => e h.1.symm), if_neg e]
theorem one_mul {p : Int} {R C : Nat} {l : List Int} (hl : l.length = R * C) (hp : ∀ a ∈ l, In p a) : mulM p R R (oneJ R R) C l = l := by
  apply cells_ext (mulM_len ..) hl
  intro i k hi hk
  rw [mulM_cl (oneJ_len R R) hl hi hk]
  rw [sumN_congr (g := fun j => if j = i then cl C l j k else 0) (fun j hj => by rw [one_cl hi hj]; by_cases e : j = i <;> simp [e])]
  rw [sumN_one _ hi]
  exact (hp _ (cl_mem hl hi hk)).emod
theorem mul_one {p : Int} {R C : Nat} {l : List Int} (hl : l.length = R * C) (hp : ∀ a ∈ l, In p a) : mulM p R C l C (oneJ C C) = l := by
  apply cells_ext (mulM_len ..) hl
  intro i k hi hk
  rw [mulM_cl hl (oneJ_len C C) hi hk]
  have e0 : ∀ j, j < C → cl C l i j * cl C (oneJ C C) j k = if j = k then cl C l i j else 0 := by
    intro j hj
    rw [one_cl hj hk]
    by_cases e : j = k
    · rw [if_pos e.symm, if_pos e, Int.mul_one]
    · rw [if_neg (fun h => e h.symm), if_neg e, Int.mul_zero]
  rw [sumN_congr e0, sumN_one _ hk]
  exact (hp _ (cl_mem hl hi hk)).emod
theorem nzV_app (a b : List Int) : nzV (a ++ b) = nzV a ++ nzV b := by
  induction a with
  | nil => rfl
  | cons x a ih => simp only [List.cons_append, nzV, ih]; by_cases h : x = 0 <;> simp [h]
theorem thinV_nz {R C : Nat} {l : List Int} (hl : l.length = R * C) : thinV C l R = nzV l := by
  have key : ∀ j, j ≤ R → thinV C l j = nzV (l.take (j * C)) := by
    intro j
    induction j with
    | zero => intro _; simp [thinV, nzV]
    | succ j ih =>
      intro hj
      rw [thinV_next, ih (by omega), Nat.succ_mul, List.take_add, nzV_app]; rfl
  rw [key R (Nat.le_refl _), ← hl, List.take_length]
theorem oneR_ok {n : Nat} (h1 : 1 ≤ n) (h2 : n ≤ 64) : mOneR n = (((n : Int), (n : Int), oneJ n n), 0) := by
  unfold mOneR; rw [(side_iff _).2 ⟨by omega, by omega⟩]; rfl
theorem wholeR_ok {p : Int} {R C : Nat} {b k v : List Int} (S : Sp p R C b k v) : wholeR p R C b k v = (((R : Int), (C : Int), wholeM R C b k v), 0) := by
  unfold wholeR; rw [sp_mk S]; rfl
theorem Sp.wmt {p : Int} {R C : Nat} {b k v : List Int} (S : Sp p R C b k v) (wv : W64s v) : Mt p R C (wholeM R C b k v) ∧ ∀ a ∈ wholeM R C b k v, In p a := by
  have hi : ∀ a ∈ wholeM R C b k v, In p a := by
    intro a ha
    obtain ⟨q, hq, rfl⟩ := tbl_mem ha
    obtain ⟨h1, h2, _⟩ := dc_lt hq
    have p1 := S.hp.1
    have : ∀ (c : Int) (ks vs : List Int) (x : Int), In p x → (∀ u ∈ vs, In p u) → In p (lookC c ks vs x) := by
      intro c ks
      induction ks with
      | nil => intro vs x hx _; cases vs <;> exact hx
      | cons q ks ih =>
        intro vs x hx hv
        cases vs with
        | nil => exact hx
        | cons u vs =>
          rw [lookC]
          refine ih vs _ ?_ (fun z hz => hv z (by simp [hz]))
          split
          · exact hv u (by simp)
          · exact hx
    exact this _ _ _ _ ⟨by omega, by omega⟩ fun u hu => ⟨(wv u (segI_mem hu)).1, S.has u (segI_mem hu)⟩
  exact ⟨⟨S.hp, S.r1, S.r2, S.c1, S.c2, wholeM_len .., fun a ha => (hi a ha).2⟩, hi⟩
set_option maxHeartbeats 16000000 in
set_option maxRecDepth 100000 in
theorem matrixThin_true (p : Int) (a1 : Int × Int × List Int) (a2 : Int × Int × List Int × List Int × List Int) (w0 : (Lit.int .u64 p).wf = true) (w1 : ((Lit.int .i64 a1.1).wf = true ∧ (Lit.int .i64 a1.2.1).wf = true ∧ (a1.2.2.length ≤ maxLen ∧ ∀ e23_ ∈ a1.2.2, (Lit.int .u64 e23_).wf = true))) (w2 : ((Lit.int .i64 a2.1).wf = true ∧ (Lit.int .i64 a2.2.1).wf = true ∧ (a2.2.2.1.length ≤ maxLen ∧ ∀ e26_ ∈ a2.2.2.1, (Lit.int .i64 e26_).wf = true) ∧ (a2.2.2.2.1.length ≤ maxLen ∧ ∀ e26_ ∈ a2.2.2.2.1, (Lit.int .i64 e26_).wf = true) ∧ (a2.2.2.2.2.length ≤ maxLen ∧ ∀ e23_ ∈ a2.2.2.2.2, (Lit.int .u64 e23_).wf = true))) :
    CallsP Try.prog 3 [u64 p, matP a1.1 a1.2.1 a1.2.2, spP a2.1 a2.2.1 a2.2.2.1 a2.2.2.2.1 a2.2.2.2.2] (bl true) := by
  obtain ⟨r, c, l⟩ := a1
  obtain ⟨r', c', b, k, v⟩ := a2
  obtain ⟨_, _, hl, wl⟩ := w1
  obtain ⟨_, _, ⟨hb, _⟩, ⟨hk, _⟩, hv, wv⟩ := w2
  replace wl := w64_all wl
  replace wv := w64_all wv
  simp only at hl hb hk hv wl wv
  clear w0
  simp only
  have mxl : ∀ n : Nat, n ≤ 4096 → n ≤ maxLen := fun n h => by rw [mx_len]; omega
  have aw := awake05_walk
  have q1 := short_walk r c l
  have q3 := mright_walk p r c l hl
  by_cases c1 : (v.length : Int) ≤ 150
  case neg =>
    clear q1 q3
    refine X_startP (n := 198) (m := 3) (rs := [.tmp 6]) Try.func3 rfl rfl rfl rfl (by decide) fun base => ?_
    repeat (first | ((first | refine X_call_fn2 rfl (by simp only [tys]) ?_ | refine X_dcall_fn2 rfl (by simp only [tys]) ?_); apply Exists.intro; apply And.intro; (focus (simp -dsimp only [simx, zzC, zzB, tys, ite_self, opnL, callB, stepOp, ofVal, opBuiltin, opLen, PV.sk, scalBin, scalUn, intBin, opLoad, natOf, opConvert, opField, cellsP, oneP, Value.oneCell', opStore, toIV, scalT, scalA, scalC, boxesA, boxesC, ↓reduceIte, Nat.reduceSub, Nat.reduceEqDiff, Nat.reduceAdd, Nat.reduceMul, Nat.reduceLT, Nat.reduceLeDiff, Int.reduceToNat, Int.reduceLE, Int.reduceLT, Int.reduceNeg, reduceCtorEq, zzL, if_true, if_false] <;> rfl)); apply Exists.intro; apply And.intro; (focus (first | exact aw))) | refine ⟨(by show drawK _ _ = true; kernel_rfl : drawX _ _ _), ?_⟩ | exact (by show drawK _ _ = true; kernel_rfl : drawX _ _ _) | simp -dsimp (maxSteps := 20000000) (disch := omega) only [simx, zzC, zzB, tys, ite_self, opnL, callB, stepOp, ofVal, opBuiltin, opLen, PV.sk, scalBin, scalUn, intBin, opLoad, natOf, opConvert, opField, cellsP, oneP, Value.oneCell', opStore, toIV, scalT, scalA, scalC, boxesA, boxesC, ↓reduceIte, Nat.reduceSub, Nat.reduceEqDiff, Nat.reduceAdd, Nat.reduceMul, Nat.reduceLT, Nat.reduceLeDiff, Int.reduceToNat, Int.reduceLE, Int.reduceLT, Int.reduceNeg, reduceCtorEq, zzR, gos, Int.reduceAdd, Int.reduceSub, Int.reduceMul, Int.reduceEq])
  by_cases c2 : (b.length : Int) ≤ 70
  case neg =>
    clear q1 q3
    refine X_startP (n := 198) (m := 3) (rs := [.tmp 6]) Try.func3 rfl rfl rfl rfl (by decide) fun base => ?_
    repeat (first | ((first | refine X_call_fn2 rfl (by simp only [tys]) ?_ | refine X_dcall_fn2 rfl (by simp only [tys]) ?_); apply Exists.intro; apply And.intro; (focus (simp -dsimp only [simx, zzC, zzB, tys, ite_self, opnL, callB, stepOp, ofVal, opBuiltin, opLen, PV.sk, scalBin, scalUn, intBin, opLoad, natOf, opConvert, opField, cellsP, oneP, Value.oneCell', opStore, toIV, scalT, scalA, scalC, boxesA, boxesC, ↓reduceIte, Nat.reduceSub, Nat.reduceEqDiff, Nat.reduceAdd, Nat.reduceMul, Nat.reduceLT, Nat.reduceLeDiff, Int.reduceToNat, Int.reduceLE, Int.reduceLT, Int.reduceNeg, reduceCtorEq, zzL, if_true, if_false] <;> rfl)); apply Exists.intro; apply And.intro; (focus (first | exact aw))) | refine ⟨(by show drawK _ _ = true; kernel_rfl : drawX _ _ _), ?_⟩ | exact (by show drawK _ _ = true; kernel_rfl : drawX _ _ _) | simp -dsimp (maxSteps := 20000000) (disch := omega) only [simx, zzC, zzB, tys, ite_self, opnL, callB, stepOp, ofVal, opBuiltin, opLen, PV.sk, scalBin, scalUn, intBin, opLoad, natOf, opConvert, opField, cellsP, oneP, Value.oneCell', opStore, toIV, scalT, scalA, scalC, boxesA, boxesC, ↓reduceIte, Nat.reduceSub, Nat.reduceEqDiff, Nat.reduceAdd, Nat.reduceMul, Nat.reduceLT, Nat.reduceLeDiff, Int.reduceToNat, Int.reduceLE, Int.reduceLT, Int.reduceNeg, reduceCtorEq, zzR, gos, Int.reduceAdd, Int.reduceSub, Int.reduceMul, Int.reduceEq])
  have sw := whole_walk p r' c' b k v hb hk hv
  have first : (wholeR p r' c' b k v = ((0, 0, []), 1) ∧ True) ∨ ∃ R C : Nat, wholeR p r' c' b k v = (((R : Int), (C : Int), wholeM R C b k v), 0) ∧ CallsP Try.prog 15 [u64 p, matP R C (wholeM R C b k v)] (sp2 (((R : Int), (C : Int), thinB C (wholeM R C b k v) R, thinC C (wholeM R C b k v) R, v), 0)) ∧
      CallsP Try.prog 14 [u64 p, spP R C (thinB C (wholeM R C b k v) R) (thinC C (wholeM R C b k v) R) v] (mat2 (((R : Int), (C : Int), wholeM R C b k v), 0)) ∧
      CallsP Try.prog 17 [matP R C (wholeM R C b k v), matP R C (wholeM R C b k v)] (bl true) ∧ (thinB C (wholeM R C b k v) R).length = b.length ∧ (thinC C (wholeM R C b k v) R).length = k.length := by
    cases h : spB p r' c' b k v with
    | false => exact .inl ⟨by unfold wholeR; rw [h]; rfl, trivial⟩
    | true =>
      obtain ⟨R, C, rfl, rfl, S⟩ := sp_of h
      obtain ⟨W, wi⟩ := S.wmt wv
      have T := thin_sp W
      have e1 := whole_thinV S
      have bd := rc_bd S.r2 S.c2
      have wl := wholeM_len R C b k v
      have vl := S.vlen
      have e2 := thin_len C (wholeM R C b k v) R
      have e3 : (thinB C (wholeM R C b k v) R).length = R + 1 := by simp [thinB]
      have bg := S.beg
      simp only [begB, Bool.and_eq_true, decide_eq_true_eq] at bg
      have r2 := S.r2
      rw [e1] at T e2
      refine .inr ⟨R, C, wholeR_ok S, ?_, ?_, ?_, by rw [e3, bg.1], by omega⟩
      · have := thin_walk p R C (wholeM R C b k v) (mxl _ (by omega))
        rw [thinR_ok W, e1] at this
        exact this
      · have := whole_walk p R C (thinB C (wholeM R C b k v) R) (thinC C (wholeM R C b k v) R) v (mxl _ (by omega)) (mxl _ (by omega)) hv
        rw [wholeR_ok T] at this
        have e4 := thin_whole wl
        rw [e1] at e4
        rw [e4] at this
        exact this
      · have := msame_walk R C (wholeM R C b k v) R C (wholeM R C b k v) (mxl _ (by omega))
        rw [show sameMB (R : Int) C (wholeM R C b k v) R C (wholeM R C b k v) = true by simp [sameMB]] at this
        exact this
  have vv := same_walk v v (by rw [mx_len]; omega)
  rw [decide_eq_true rfl] at vv
  have second : decide ((l.length : Int) ≤ 150) = false ∨ decide ((l.length : Int) ≤ 150) = true ∧ MatB p r c l = false ∨ decide ((l.length : Int) ≤ 150) = true ∧ MatB p r c l = true := by
    cases decide ((l.length : Int) ≤ 150) <;> cases MatB p r c l <;> simp
  rcases second with s1 | ⟨s1, s2⟩ | ⟨s1, s2⟩
  · rw [s1] at q1
    clear q3
    rcases first with ⟨h, _⟩ | ⟨R, C, h, t1, t2, t3, t4, t5⟩
    all_goals (
      rw [h] at sw
      refine X_startP (n := 198) (m := 3) (rs := [.tmp 6]) Try.func3 rfl rfl rfl rfl (by decide) fun base => ?_)
    · repeat (first | ((first | refine X_call_fn2 rfl (by simp only [tys]) ?_ | refine X_dcall_fn2 rfl (by simp only [tys]) ?_); apply Exists.intro; apply And.intro; (focus (simp -dsimp only [simx, zzC, zzB, tys, ite_self, opnL, callB, stepOp, ofVal, opBuiltin, opLen, PV.sk, scalBin, scalUn, intBin, opLoad, natOf, opConvert, opField, cellsP, oneP, Value.oneCell', opStore, toIV, scalT, scalA, scalC, boxesA, boxesC, ↓reduceIte, Nat.reduceSub, Nat.reduceEqDiff, Nat.reduceAdd, Nat.reduceMul, Nat.reduceLT, Nat.reduceLeDiff, Int.reduceToNat, Int.reduceLE, Int.reduceLT, Int.reduceNeg, reduceCtorEq, zzL, if_true, if_false] <;> rfl)); apply Exists.intro; apply And.intro; (focus (first | exact aw | exact sw | exact q1))) | refine ⟨(by show drawK _ _ = true; kernel_rfl : drawX _ _ _), ?_⟩ | exact (by show drawK _ _ = true; kernel_rfl : drawX _ _ _) | simp -dsimp (maxSteps := 20000000) (disch := omega) only [simx, zzC, zzB, tys, ite_self, opnL, callB, stepOp, ofVal, opBuiltin, opLen, PV.sk, scalBin, scalUn, intBin, opLoad, natOf, opConvert, opField, cellsP, oneP, Value.oneCell', opStore, toIV, scalT, scalA, scalC, boxesA, boxesC, ↓reduceIte, Nat.reduceSub, Nat.reduceEqDiff, Nat.reduceAdd, Nat.reduceMul, Nat.reduceLT, Nat.reduceLeDiff, Int.reduceToNat, Int.reduceLE, Int.reduceLT, Int.reduceNeg, reduceCtorEq, zzR, gos, Int.reduceAdd, Int.reduceSub, Int.reduceMul, Int.reduceEq])
    · generalize wholeM R C b k v = w at *
      generalize thinB C w R = tB at *
      generalize thinC C w R = tC at *
      repeat (first | ((first | refine X_call_fn2 rfl (by simp only [tys]) ?_ | refine X_dcall_fn2 rfl (by simp only [tys]) ?_); apply Exists.intro; apply And.intro; (focus (simp -dsimp only [simx, zzC, zzB, tys, ite_self, opnL, callB, stepOp, ofVal, opBuiltin, opLen, PV.sk, scalBin, scalUn, intBin, opLoad, natOf, opConvert, opField, cellsP, oneP, Value.oneCell', opStore, toIV, scalT, scalA, scalC, boxesA, boxesC, ↓reduceIte, Nat.reduceSub, Nat.reduceEqDiff, Nat.reduceAdd, Nat.reduceMul, Nat.reduceLT, Nat.reduceLeDiff, Int.reduceToNat, Int.reduceLE, Int.reduceLT, Int.reduceNeg, reduceCtorEq, zzL, if_true, if_false] <;> rfl)); apply Exists.intro; apply And.intro; (focus (first | exact aw | exact sw | exact t1 | exact t2 | exact t3 | exact vv | exact q1))) | refine ⟨(by show drawK _ _ = true; kernel_rfl : drawX _ _ _), ?_⟩ | exact (by show drawK _ _ = true; kernel_rfl : drawX _ _ _) | simp -dsimp (maxSteps := 20000000) (disch := omega) only [simx, zzC, zzB, tys, ite_self, opnL, callB, stepOp, ofVal, opBuiltin, opLen, PV.sk, scalBin, scalUn, intBin, opLoad, natOf, opConvert, opField, cellsP, oneP, Value.oneCell', opStore, toIV, scalT, scalA, scalC, boxesA, boxesC, ↓reduceIte, Nat.reduceSub, Nat.reduceEqDiff, Nat.reduceAdd, Nat.reduceMul, Nat.reduceLT, Nat.reduceLeDiff, Int.reduceToNat, Int.reduceLE, Int.reduceLT, Int.reduceNeg, reduceCtorEq, zzR, gos, Int.reduceAdd, Int.reduceSub, Int.reduceMul, Int.reduceEq, t4, t5])
  · rw [s1] at q1
    rw [s2] at q3
    rcases first with ⟨h, _⟩ | ⟨R, C, h, t1, t2, t3, t4, t5⟩
    all_goals (
      rw [h] at sw
      refine X_startP (n := 198) (m := 3) (rs := [.tmp 6]) Try.func3 rfl rfl rfl rfl (by decide) fun base => ?_)
    · repeat (first | ((first | refine X_call_fn2 rfl (by simp only [tys]) ?_ | refine X_dcall_fn2 rfl (by simp only [tys]) ?_); apply Exists.intro; apply And.intro; (focus (simp -dsimp only [simx, zzC, zzB, tys, ite_self, opnL, callB, stepOp, ofVal, opBuiltin, opLen, PV.sk, scalBin, scalUn, intBin, opLoad, natOf, opConvert, opField, cellsP, oneP, Value.oneCell', opStore, toIV, scalT, scalA, scalC, boxesA, boxesC, ↓reduceIte, Nat.reduceSub, Nat.reduceEqDiff, Nat.reduceAdd, Nat.reduceMul, Nat.reduceLT, Nat.reduceLeDiff, Int.reduceToNat, Int.reduceLE, Int.reduceLT, Int.reduceNeg, reduceCtorEq, zzL, if_true, if_false] <;> rfl)); apply Exists.intro; apply And.intro; (focus (first | exact aw | exact sw | exact q1 | exact q3))) | refine ⟨(by show drawK _ _ = true; kernel_rfl : drawX _ _ _), ?_⟩ | exact (by show drawK _ _ = true; kernel_rfl : drawX _ _ _) | simp -dsimp (maxSteps := 20000000) (disch := omega) only [simx, zzC, zzB, tys, ite_self, opnL, callB, stepOp, ofVal, opBuiltin, opLen, PV.sk, scalBin, scalUn, intBin, opLoad, natOf, opConvert, opField, cellsP, oneP, Value.oneCell', opStore, toIV, scalT, scalA, scalC, boxesA, boxesC, ↓reduceIte, Nat.reduceSub, Nat.reduceEqDiff, Nat.reduceAdd, Nat.reduceMul, Nat.reduceLT, Nat.reduceLeDiff, Int.reduceToNat, Int.reduceLE, Int.reduceLT, Int.reduceNeg, reduceCtorEq, zzR, gos, Int.reduceAdd, Int.reduceSub, Int.reduceMul, Int.reduceEq])
    · generalize wholeM R C b k v = w at *
      generalize thinB C w R = tB at *
      generalize thinC C w R = tC at *
      repeat (first | ((first | refine X_call_fn2 rfl (by simp only [tys]) ?_ | refine X_dcall_fn2 rfl (by simp only [tys]) ?_); apply Exists.intro; apply And.intro; (focus (simp -dsimp only [simx, zzC, zzB, tys, ite_self, opnL, callB, stepOp, ofVal, opBuiltin, opLen, PV.sk, scalBin, scalUn, intBin, opLoad, natOf, opConvert, opField, cellsP, oneP, Value.oneCell', opStore, toIV, scalT, scalA, scalC, boxesA, boxesC, ↓reduceIte, Nat.reduceSub, Nat.reduceEqDiff, Nat.reduceAdd, Nat.reduceMul, Nat.reduceLT, Nat.reduceLeDiff, Int.reduceToNat, Int.reduceLE, Int.reduceLT, Int.reduceNeg, reduceCtorEq, zzL, if_true, if_false] <;> rfl)); apply Exists.intro; apply And.intro; (focus (first | exact aw | exact sw | exact t1 | exact t2 | exact t3 | exact vv | exact q1 | exact q3))) | refine ⟨(by show drawK _ _ = true; kernel_rfl : drawX _ _ _), ?_⟩ | exact (by show drawK _ _ = true; kernel_rfl : drawX _ _ _) | simp -dsimp (maxSteps := 20000000) (disch := omega) only [simx, zzC, zzB, tys, ite_self, opnL, callB, stepOp, ofVal, opBuiltin, opLen, PV.sk, scalBin, scalUn, intBin, opLoad, natOf, opConvert, opField, cellsP, oneP, Value.oneCell', opStore, toIV, scalT, scalA, scalC, boxesA, boxesC, ↓reduceIte, Nat.reduceSub, Nat.reduceEqDiff, Nat.reduceAdd, Nat.reduceMul, Nat.reduceLT, Nat.reduceLeDiff, Int.reduceToNat, Int.reduceLE, Int.reduceLT, Int.reduceNeg, reduceCtorEq, zzR, gos, Int.reduceAdd, Int.reduceSub, Int.reduceMul, Int.reduceEq, t4, t5])
  · rw [s1] at q1
    rw [s2] at q3
    rw [decide_eq_true_eq] at s1
    obtain ⟨M, N, rfl, rfl, A⟩ := mat_of s2
    have ai : ∀ a ∈ l, In p a := fun a ha => in_of A.has wl ha
    have bd1 := rc_bd A.r2 A.c2
    have bd2 := rc_bd A.c2 A.r2
    have bd3 := rc_bd A.r2 A.r2
    have bd4 := rc_bd A.c2 A.c2
    have m1 := A.r1
    have m2 := A.r2
    have n1 := A.c1
    have n2 := A.c2
    have wo : ∀ n, W64s (oneJ n n) := fun n a ha => by
      unfold oneJ at ha
      obtain ⟨q, _, rfl⟩ := List.mem_map.1 ha
      unfold W64
      split <;> omega
    have u1 := turn_walk p M N l hl
    rw [turnR_ok A] at u1
    have u2 := turn_walk p N M (turnM M N l) (mxl _ (by rw [turnM_len]; omega))
    rw [turnR_ok (turn_mt A), turn_turn A.len] at u2
    have o1 := one_walk M
    rw [oneR_ok m1 m2] at o1
    have o2 := one_walk N
    rw [oneR_ok n1 n2] at o2
    have x1 := mmul_walk p M M (oneJ M M) M N l (mxl _ (by rw [oneJ_len]; omega)) hl (wo M) wl
    rw [mulR_ok (one_mt A.hp m1 m2) A, one_mul A.len ai] at x1
    have x2 := mmul_walk p M N l N N (oneJ N N) hl (mxl _ (by rw [oneJ_len]; omega)) wl (wo N)
    rw [mulR_ok A (one_mt A.hp n1 n2), mul_one A.len ai] at x2
    have th := thin_walk p M N l hl
    rw [thinR_ok A] at th
    have ss := msame_walk M N l M N l hl
    rw [show sameMB (M : Int) N l M N l = true by simp [sameMB]] at ss
    have tz := thinV_nz A.len
    have ll := A.len
    clear ai wo
    generalize thinB N l M = lB at th
    generalize thinC N l M = lC at th
    rw [tz] at th
    generalize turnM M N l = tm at u1 u2
    generalize oneJ M M = oM at o1 x1
    generalize oneJ N N = oN at o2 x2
    have nzn : ∀ j (h : j < l.length), (nzV (l.take (j + 1))).length = (nzV (l.take j)).length + (if l[j] = 0 then 0 else 1) := by
      intro j h
      rw [List.take_succ_eq_append_getElem h, nzV_snoc, List.length_append]
      split <;> rfl
    have nzl := fun j => (nz_len (l.take j) 0).2
    rcases first with ⟨h, _⟩ | ⟨R, C, h, t1, t2, t3, t4, t5⟩
    · rw [h] at sw
      refine X_startP (n := 198) (m := 3) (rs := [.tmp 6]) Try.func3 rfl rfl rfl rfl (by decide) fun base => ?_
      repeat (first | ((first | refine X_call_fn2 rfl (by simp only [tys]) ?_ | refine X_dcall_fn2 rfl (by simp only [tys]) ?_); apply Exists.intro; apply And.intro; (focus (simp -dsimp only [simx, zzC, zzB, tys, ite_self, opnL, callB, stepOp, ofVal, opBuiltin, opLen, PV.sk, scalBin, scalUn, intBin, opLoad, natOf, opConvert, opField, cellsP, oneP, Value.oneCell', opStore, toIV, scalT, scalA, scalC, boxesA, boxesC, ↓reduceIte, Nat.reduceSub, Nat.reduceEqDiff, Nat.reduceAdd, Nat.reduceMul, Nat.reduceLT, Nat.reduceLeDiff, Int.reduceToNat, Int.reduceLE, Int.reduceLT, Int.reduceNeg, reduceCtorEq, zzL, if_true, if_false] <;> rfl)); apply Exists.intro; apply And.intro; (focus (first | exact aw | exact sw | exact q1 | exact q3 | exact u1 | exact u2 | exact o1 | exact o2 | exact x1 | exact x2 | exact th | exact ss))) | refine ⟨(by show drawK _ _ = true; kernel_rfl : drawX _ _ _), ?_⟩ | exact (by show drawK _ _ = true; kernel_rfl : drawX _ _ _) | simp -dsimp (maxSteps := 20000000) (disch := omega) only [simx, zzC, zzB, tys, ite_self, opnL, callB, stepOp, ofVal, opBuiltin, opLen, PV.sk, scalBin, scalUn, intBin, opLoad, natOf, opConvert, opField, cellsP, oneP, Value.oneCell', opStore, toIV, scalT, scalA, scalC, boxesA, boxesC, ↓reduceIte, Nat.reduceSub, Nat.reduceEqDiff, Nat.reduceAdd, Nat.reduceMul, Nat.reduceLT, Nat.reduceLeDiff, Int.reduceToNat, Int.reduceLE, Int.reduceLT, Int.reduceNeg, reduceCtorEq, gos, Int.reduceAdd, Int.reduceSub, Int.reduceMul, Int.reduceEq])
      refine X_loopH [4, 13, 15, 21, 23, 25, 26, 27, 28] [(0, 1) :: base, (5, 6) :: base, (15, 6) :: base, (16, 6) :: base] (0) (l.length) (fun j => True) (fun j => [(27, i64 ((nzV (l.take j)).length : Nat)), (28, i64 j)]) (fun j => (((((Heap.none.put ((0, 0) :: base) (.var [i64 M, i64 N, lu l])).put ((13, 6) :: base) (.var [i64 N, i64 M, lu tm])).put ((14, 6) :: base) (.var [i64 M, i64 N, lu l])).put ((17, 7) :: base) (.var [i64 M, i64 N, lu l])).put ((18, 7) :: base) (.var [i64 M, i64 N, lu l])).put ((19, 6) :: base) (.var [i64 M, i64 N, li lB, li lC, lu (nzV l)])) ?_ ?_ ?_ ?_ ?_ (by decide) ?_
      · exact (fgt_cons (by simp only [Heap.none_at]) (by (simp -dsimp only [zzB, tys, ite_self, opnL, callB, stepOp, ofVal, opBuiltin, opLen, PV.sk, scalBin, scalUn, intBin, opLoad, natOf, opConvert, opField, cellsP, oneP, Value.oneCell', opStore, toIV, scalT, scalA, scalC, boxesA, boxesC, ↓reduceIte, Nat.reduceSub, Nat.reduceEqDiff, Nat.reduceAdd, Nat.reduceMul, Nat.reduceLT, Nat.reduceLeDiff, Int.reduceToNat, Int.reduceLE, Int.reduceLT, Int.reduceNeg, reduceCtorEq, notIn_cons, notIn_nil]) <;> simp [refsL, refsP, mem_refs_rowP]) (by repeat (first | exact noVar_none _ | refine noVar_row ?_ | refine noVar_rowH ?_ | refine noVar_var ?_ (by simp [refsL, refsP, mem_refs_rowP]))) (fgt_cons (by simp only [Heap.none_at]) (by (simp -dsimp only [zzB, tys, ite_self, opnL, callB, stepOp, ofVal, opBuiltin, opLen, PV.sk, scalBin, scalUn, intBin, opLoad, natOf, opConvert, opField, cellsP, oneP, Value.oneCell', opStore, toIV, scalT, scalA, scalC, boxesA, boxesC, ↓reduceIte, Nat.reduceSub, Nat.reduceEqDiff, Nat.reduceAdd, Nat.reduceMul, Nat.reduceLT, Nat.reduceLeDiff, Int.reduceToNat, Int.reduceLE, Int.reduceLT, Int.reduceNeg, reduceCtorEq, notIn_cons, notIn_nil]) <;> simp [refsL, refsP, mem_refs_rowP]) (by repeat (first | exact noVar_none _ | refine noVar_row ?_ | refine noVar_rowH ?_ | refine noVar_var ?_ (by simp [refsL, refsP, mem_refs_rowP]))) (fgt_cons (by simp only [Heap.none_at]) (by (simp -dsimp only [zzB, tys, ite_self, opnL, callB, stepOp, ofVal, opBuiltin, opLen, PV.sk, scalBin, scalUn, intBin, opLoad, natOf, opConvert, opField, cellsP, oneP, Value.oneCell', opStore, toIV, scalT, scalA, scalC, boxesA, boxesC, ↓reduceIte, Nat.reduceSub, Nat.reduceEqDiff, Nat.reduceAdd, Nat.reduceMul, Nat.reduceLT, Nat.reduceLeDiff, Int.reduceToNat, Int.reduceLE, Int.reduceLT, Int.reduceNeg, reduceCtorEq, notIn_cons, notIn_nil]) <;> simp [refsL, refsP, mem_refs_rowP]) (by repeat (first | exact noVar_none _ | refine noVar_row ?_ | refine noVar_rowH ?_ | refine noVar_var ?_ (by simp [refsL, refsP, mem_refs_rowP]))) (fgt_cons (by simp only [Heap.none_at]) (by (simp -dsimp only [zzB, tys, ite_self, opnL, callB, stepOp, ofVal, opBuiltin, opLen, PV.sk, scalBin, scalUn, intBin, opLoad, natOf, opConvert, opField, cellsP, oneP, Value.oneCell', opStore, toIV, scalT, scalA, scalC, boxesA, boxesC, ↓reduceIte, Nat.reduceSub, Nat.reduceEqDiff, Nat.reduceAdd, Nat.reduceMul, Nat.reduceLT, Nat.reduceLeDiff, Int.reduceToNat, Int.reduceLE, Int.reduceLT, Int.reduceNeg, reduceCtorEq, notIn_cons, notIn_nil]) <;> simp [refsL, refsP, mem_refs_rowP]) (by repeat (first | exact noVar_none _ | refine noVar_row ?_ | refine noVar_rowH ?_ | refine noVar_var ?_ (by simp [refsL, refsP, mem_refs_rowP]))) (fgt_nil)))))
      · ((simp -dsimp (disch := omega) only [simx, zzB, tys, ite_self, opnL, callB, stepOp, ofVal, opBuiltin, opLen, PV.sk, scalBin, scalUn, intBin, opLoad, natOf, opConvert, opField, cellsP, oneP, Value.oneCell', opStore, toIV, scalT, scalA, scalC, boxesA, boxesC, ↓reduceIte, Nat.reduceSub, Nat.reduceEqDiff, Nat.reduceAdd, Nat.reduceMul, Nat.reduceLT, Nat.reduceLeDiff, Int.reduceToNat, Int.reduceLE, Int.reduceLT, Int.reduceNeg, reduceCtorEq, gos, Int.reduceAdd, Int.reduceSub, Int.reduceMul, Int.reduceEq]) <;> first | rfl | simp [nzV])
      · funext c
        simp (maxSteps := 20000000) only [Heap.drop_at, rowH_app, Heap.put_at, Heap.none_at, List.mem_cons, List.not_mem_nil, or_false]
        by_cases e0 : c = (0, 0) :: base
        · subst e0; simp []
        by_cases e1 : c = (13, 6) :: base
        · subst e1; simp []
        by_cases e2 : c = (14, 6) :: base
        · subst e2; simp []
        by_cases e3 : c = (17, 7) :: base
        · subst e3; simp []
        by_cases e4 : c = (18, 7) :: base
        · subst e4; simp []
        by_cases e5 : c = (19, 6) :: base
        · subst e5; simp []
        by_cases e6 : c = (0, 1) :: base
        · subst e6; simp []
        by_cases e7 : c = (5, 6) :: base
        · subst e7; simp []
        by_cases e8 : c = (15, 6) :: base
        · subst e8; simp []
        by_cases e9 : c = (16, 6) :: base
        · subst e9; simp []
        simp [e0, e1, e2, e3, e4, e5, e6, e7, e8, e9]
      · omega
      · trivial
      · intro j hj _
        by_cases cj : j < l.length
        · have g1 : l[j]? = some l[j] := List.getElem?_eq_getElem cj
          have nz := nzn j cj
          have nl := nzl j
          rw [List.length_take] at nl
          generalize l[j] = x at g1 nz
          by_cases x0 : x = 0
          · rw [if_pos x0, Nat.add_zero] at nz
            repeat (first | refine ⟨(by show drawK _ _ = true; kernel_rfl : drawX _ _ _), ?_⟩ | exact (by show drawK _ _ = true; kernel_rfl : drawX _ _ _) | simp -dsimp (maxSteps := 20000000) (disch := omega) only [simx, zzC, zzB, tys, ite_self, opnL, callB, stepOp, ofVal, opBuiltin, opLen, PV.sk, scalBin, scalUn, intBin, opLoad, natOf, opConvert, opField, cellsP, oneP, Value.oneCell', opStore, toIV, scalT, scalA, scalC, boxesA, boxesC, ↓reduceIte, Nat.reduceSub, Nat.reduceEqDiff, Nat.reduceAdd, Nat.reduceMul, Nat.reduceLT, Nat.reduceLeDiff, Int.reduceToNat, Int.reduceLE, Int.reduceLT, Int.reduceNeg, reduceCtorEq, gos, Int.reduceAdd, Int.reduceSub, Int.reduceMul, Int.reduceEq, cj, g1])
            refine ⟨cj, (fgt_cons (by simp only [Heap.none_at]) (by (simp -dsimp only [zzB, tys, ite_self, opnL, callB, stepOp, ofVal, opBuiltin, opLen, PV.sk, scalBin, scalUn, intBin, opLoad, natOf, opConvert, opField, cellsP, oneP, Value.oneCell', opStore, toIV, scalT, scalA, scalC, boxesA, boxesC, ↓reduceIte, Nat.reduceSub, Nat.reduceEqDiff, Nat.reduceAdd, Nat.reduceMul, Nat.reduceLT, Nat.reduceLeDiff, Int.reduceToNat, Int.reduceLE, Int.reduceLT, Int.reduceNeg, reduceCtorEq, notIn_cons, notIn_nil]) <;> simp [refsL, refsP, mem_refs_rowP]) (by repeat (first | exact noVar_none _ | refine noVar_row ?_ | refine noVar_rowH ?_ | refine noVar_var ?_ (by simp [refsL, refsP, mem_refs_rowP]))) (fgt_cons (by simp only [Heap.none_at]) (by (simp -dsimp only [zzB, tys, ite_self, opnL, callB, stepOp, ofVal, opBuiltin, opLen, PV.sk, scalBin, scalUn, intBin, opLoad, natOf, opConvert, opField, cellsP, oneP, Value.oneCell', opStore, toIV, scalT, scalA, scalC, boxesA, boxesC, ↓reduceIte, Nat.reduceSub, Nat.reduceEqDiff, Nat.reduceAdd, Nat.reduceMul, Nat.reduceLT, Nat.reduceLeDiff, Int.reduceToNat, Int.reduceLE, Int.reduceLT, Int.reduceNeg, reduceCtorEq, notIn_cons, notIn_nil]) <;> simp [refsL, refsP, mem_refs_rowP]) (by repeat (first | exact noVar_none _ | refine noVar_row ?_ | refine noVar_rowH ?_ | refine noVar_var ?_ (by simp [refsL, refsP, mem_refs_rowP]))) (fgt_cons (by simp only [Heap.none_at]) (by (simp -dsimp only [zzB, tys, ite_self, opnL, callB, stepOp, ofVal, opBuiltin, opLen, PV.sk, scalBin, scalUn, intBin, opLoad, natOf, opConvert, opField, cellsP, oneP, Value.oneCell', opStore, toIV, scalT, scalA, scalC, boxesA, boxesC, ↓reduceIte, Nat.reduceSub, Nat.reduceEqDiff, Nat.reduceAdd, Nat.reduceMul, Nat.reduceLT, Nat.reduceLeDiff, Int.reduceToNat, Int.reduceLE, Int.reduceLT, Int.reduceNeg, reduceCtorEq, notIn_cons, notIn_nil]) <;> simp [refsL, refsP, mem_refs_rowP]) (by repeat (first | exact noVar_none _ | refine noVar_row ?_ | refine noVar_rowH ?_ | refine noVar_var ?_ (by simp [refsL, refsP, mem_refs_rowP]))) (fgt_cons (by simp only [Heap.none_at]) (by (simp -dsimp only [zzB, tys, ite_self, opnL, callB, stepOp, ofVal, opBuiltin, opLen, PV.sk, scalBin, scalUn, intBin, opLoad, natOf, opConvert, opField, cellsP, oneP, Value.oneCell', opStore, toIV, scalT, scalA, scalC, boxesA, boxesC, ↓reduceIte, Nat.reduceSub, Nat.reduceEqDiff, Nat.reduceAdd, Nat.reduceMul, Nat.reduceLT, Nat.reduceLeDiff, Int.reduceToNat, Int.reduceLE, Int.reduceLT, Int.reduceNeg, reduceCtorEq, notIn_cons, notIn_nil]) <;> simp [refsL, refsP, mem_refs_rowP]) (by repeat (first | exact noVar_none _ | refine noVar_row ?_ | refine noVar_rowH ?_ | refine noVar_var ?_ (by simp [refsL, refsP, mem_refs_rowP]))) (fgt_nil))))), ⟨by rw [nz]; rfl, rfl⟩, ?_⟩
            funext c
            simp (maxSteps := 20000000) only [Heap.drop_at, rowH_app, Heap.put_at, Heap.none_at, List.mem_cons, List.not_mem_nil, or_false]
            by_cases e0 : c = (0, 0) :: base
            · subst e0; simp []
            by_cases e1 : c = (13, 6) :: base
            · subst e1; simp []
            by_cases e2 : c = (14, 6) :: base
            · subst e2; simp []
            by_cases e3 : c = (17, 7) :: base
            · subst e3; simp []
            by_cases e4 : c = (18, 7) :: base
            · subst e4; simp []
            by_cases e5 : c = (19, 6) :: base
            · subst e5; simp []
            by_cases e6 : c = (0, 1) :: base
            · subst e6; simp []
            by_cases e7 : c = (5, 6) :: base
            · subst e7; simp []
            by_cases e8 : c = (15, 6) :: base
            · subst e8; simp []
            by_cases e9 : c = (16, 6) :: base
            · subst e9; simp []
            simp [e0, e1, e2, e3, e4, e5, e6, e7, e8, e9]
          · rw [if_neg x0] at nz
            repeat (first | refine ⟨(by show drawK _ _ = true; kernel_rfl : drawX _ _ _), ?_⟩ | exact (by show drawK _ _ = true; kernel_rfl : drawX _ _ _) | simp -dsimp (maxSteps := 20000000) (disch := omega) only [simx, zzC, zzB, tys, ite_self, opnL, callB, stepOp, ofVal, opBuiltin, opLen, PV.sk, scalBin, scalUn, intBin, opLoad, natOf, opConvert, opField, cellsP, oneP, Value.oneCell', opStore, toIV, scalT, scalA, scalC, boxesA, boxesC, ↓reduceIte, Nat.reduceSub, Nat.reduceEqDiff, Nat.reduceAdd, Nat.reduceMul, Nat.reduceLT, Nat.reduceLeDiff, Int.reduceToNat, Int.reduceLE, Int.reduceLT, Int.reduceNeg, reduceCtorEq, gos, Int.reduceAdd, Int.reduceSub, Int.reduceMul, Int.reduceEq, cj, g1])
            refine ⟨cj, (fgt_cons (by simp only [Heap.none_at]) (by (simp -dsimp only [zzB, tys, ite_self, opnL, callB, stepOp, ofVal, opBuiltin, opLen, PV.sk, scalBin, scalUn, intBin, opLoad, natOf, opConvert, opField, cellsP, oneP, Value.oneCell', opStore, toIV, scalT, scalA, scalC, boxesA, boxesC, ↓reduceIte, Nat.reduceSub, Nat.reduceEqDiff, Nat.reduceAdd, Nat.reduceMul, Nat.reduceLT, Nat.reduceLeDiff, Int.reduceToNat, Int.reduceLE, Int.reduceLT, Int.reduceNeg, reduceCtorEq, notIn_cons, notIn_nil]) <;> simp [refsL, refsP, mem_refs_rowP]) (by repeat (first | exact noVar_none _ | refine noVar_row ?_ | refine noVar_rowH ?_ | refine noVar_var ?_ (by simp [refsL, refsP, mem_refs_rowP]))) (fgt_cons (by simp only [Heap.none_at]) (by (simp -dsimp only [zzB, tys, ite_self, opnL, callB, stepOp, ofVal, opBuiltin, opLen, PV.sk, scalBin, scalUn, intBin, opLoad, natOf, opConvert, opField, cellsP, oneP, Value.oneCell', opStore, toIV, scalT, scalA, scalC, boxesA, boxesC, ↓reduceIte, Nat.reduceSub, Nat.reduceEqDiff, Nat.reduceAdd, Nat.reduceMul, Nat.reduceLT, Nat.reduceLeDiff, Int.reduceToNat, Int.reduceLE, Int.reduceLT, Int.reduceNeg, reduceCtorEq, notIn_cons, notIn_nil]) <;> simp [refsL, refsP, mem_refs_rowP]) (by repeat (first | exact noVar_none _ | refine noVar_row ?_ | refine noVar_rowH ?_ | refine noVar_var ?_ (by simp [refsL, refsP, mem_refs_rowP]))) (fgt_cons (by simp only [Heap.none_at]) (by (simp -dsimp only [zzB, tys, ite_self, opnL, callB, stepOp, ofVal, opBuiltin, opLen, PV.sk, scalBin, scalUn, intBin, opLoad, natOf, opConvert, opField, cellsP, oneP, Value.oneCell', opStore, toIV, scalT, scalA, scalC, boxesA, boxesC, ↓reduceIte, Nat.reduceSub, Nat.reduceEqDiff, Nat.reduceAdd, Nat.reduceMul, Nat.reduceLT, Nat.reduceLeDiff, Int.reduceToNat, Int.reduceLE, Int.reduceLT, Int.reduceNeg, reduceCtorEq, notIn_cons, notIn_nil]) <;> simp [refsL, refsP, mem_refs_rowP]) (by repeat (first | exact noVar_none _ | refine noVar_row ?_ | refine noVar_rowH ?_ | refine noVar_var ?_ (by simp [refsL, refsP, mem_refs_rowP]))) (fgt_cons (by simp only [Heap.none_at]) (by (simp -dsimp only [zzB, tys, ite_self, opnL, callB, stepOp, ofVal, opBuiltin, opLen, PV.sk, scalBin, scalUn, intBin, opLoad, natOf, opConvert, opField, cellsP, oneP, Value.oneCell', opStore, toIV, scalT, scalA, scalC, boxesA, boxesC, ↓reduceIte, Nat.reduceSub, Nat.reduceEqDiff, Nat.reduceAdd, Nat.reduceMul, Nat.reduceLT, Nat.reduceLeDiff, Int.reduceToNat, Int.reduceLE, Int.reduceLT, Int.reduceNeg, reduceCtorEq, notIn_cons, notIn_nil]) <;> simp [refsL, refsP, mem_refs_rowP]) (by repeat (first | exact noVar_none _ | refine noVar_row ?_ | refine noVar_rowH ?_ | refine noVar_var ?_ (by simp [refsL, refsP, mem_refs_rowP]))) (fgt_nil))))), ⟨by rw [nz]; rfl, rfl⟩, ?_⟩
            funext c
            simp (maxSteps := 20000000) only [Heap.drop_at, rowH_app, Heap.put_at, Heap.none_at, List.mem_cons, List.not_mem_nil, or_false]
            by_cases e0 : c = (0, 0) :: base
            · subst e0; simp []
            by_cases e1 : c = (13, 6) :: base
            · subst e1; simp []
            by_cases e2 : c = (14, 6) :: base
            · subst e2; simp []
            by_cases e3 : c = (17, 7) :: base
            · subst e3; simp []
            by_cases e4 : c = (18, 7) :: base
            · subst e4; simp []
            by_cases e5 : c = (19, 6) :: base
            · subst e5; simp []
            by_cases e6 : c = (0, 1) :: base
            · subst e6; simp []
            by_cases e7 : c = (5, 6) :: base
            · subst e7; simp []
            by_cases e8 : c = (15, 6) :: base
            · subst e8; simp []
            by_cases e9 : c = (16, 6) :: base
            · subst e9; simp []
            simp [e0, e1, e2, e3, e4, e5, e6, e7, e8, e9]
        · have hj' : j = l.length := by omega
          rw [hj', List.take_length]
          repeat (first | ((first | refine X_call_fn2 rfl (by simp only [tys]) ?_ | refine X_dcall_fn2 rfl (by simp only [tys]) ?_); apply Exists.intro; apply And.intro; (focus (simp -dsimp only [simx, zzC, zzB, tys, ite_self, opnL, callB, stepOp, ofVal, opBuiltin, opLen, PV.sk, scalBin, scalUn, intBin, opLoad, natOf, opConvert, opField, cellsP, oneP, Value.oneCell', opStore, toIV, scalT, scalA, scalC, boxesA, boxesC, ↓reduceIte, Nat.reduceSub, Nat.reduceEqDiff, Nat.reduceAdd, Nat.reduceMul, Nat.reduceLT, Nat.reduceLeDiff, Int.reduceToNat, Int.reduceLE, Int.reduceLT, Int.reduceNeg, reduceCtorEq, zzL, if_true, if_false] <;> rfl)); apply Exists.intro; apply And.intro; (focus (first | exact ss))) | refine ⟨(by show drawK _ _ = true; kernel_rfl : drawX _ _ _), ?_⟩ | exact (by show drawK _ _ = true; kernel_rfl : drawX _ _ _) | simp -dsimp (maxSteps := 20000000) (disch := omega) only [simx, zzC, zzB, tys, ite_self, opnL, callB, stepOp, ofVal, opBuiltin, opLen, PV.sk, scalBin, scalUn, intBin, opLoad, natOf, opConvert, opField, cellsP, oneP, Value.oneCell', opStore, toIV, scalT, scalA, scalC, boxesA, boxesC, ↓reduceIte, Nat.reduceSub, Nat.reduceEqDiff, Nat.reduceAdd, Nat.reduceMul, Nat.reduceLT, Nat.reduceLeDiff, Int.reduceToNat, Int.reduceLE, Int.reduceLT, Int.reduceNeg, reduceCtorEq, zzR, gos, Int.reduceAdd, Int.reduceSub, Int.reduceMul, Int.reduceEq])
    · rw [h] at sw
      generalize wholeM R C b k v = w at *
      generalize thinB C w R = tB at *
      generalize thinC C w R = tC at *
      refine X_startP (n := 198) (m := 3) (rs := [.tmp 6]) Try.func3 rfl rfl rfl rfl (by decide) fun base => ?_
      repeat (first | ((first | refine X_call_fn2 rfl (by simp only [tys]) ?_ | refine X_dcall_fn2 rfl (by simp only [tys]) ?_); apply Exists.intro; apply And.intro; (focus (simp -dsimp only [simx, zzC, zzB, tys, ite_self, opnL, callB, stepOp, ofVal, opBuiltin, opLen, PV.sk, scalBin, scalUn, intBin, opLoad, natOf, opConvert, opField, cellsP, oneP, Value.oneCell', opStore, toIV, scalT, scalA, scalC, boxesA, boxesC, ↓reduceIte, Nat.reduceSub, Nat.reduceEqDiff, Nat.reduceAdd, Nat.reduceMul, Nat.reduceLT, Nat.reduceLeDiff, Int.reduceToNat, Int.reduceLE, Int.reduceLT, Int.reduceNeg, reduceCtorEq, zzL, if_true, if_false] <;> rfl)); apply Exists.intro; apply And.intro; (focus (first | exact aw | exact sw | exact t1 | exact t2 | exact t3 | exact vv | exact q1 | exact q3 | exact u1 | exact u2 | exact o1 | exact o2 | exact x1 | exact x2 | exact th | exact ss))) | refine ⟨(by show drawK _ _ = true; kernel_rfl : drawX _ _ _), ?_⟩ | exact (by show drawK _ _ = true; kernel_rfl : drawX _ _ _) | simp -dsimp (maxSteps := 20000000) (disch := omega) only [simx, zzC, zzB, tys, ite_self, opnL, callB, stepOp, ofVal, opBuiltin, opLen, PV.sk, scalBin, scalUn, intBin, opLoad, natOf, opConvert, opField, cellsP, oneP, Value.oneCell', opStore, toIV, scalT, scalA, scalC, boxesA, boxesC, ↓reduceIte, Nat.reduceSub, Nat.reduceEqDiff, Nat.reduceAdd, Nat.reduceMul, Nat.reduceLT, Nat.reduceLeDiff, Int.reduceToNat, Int.reduceLE, Int.reduceLT, Int.reduceNeg, reduceCtorEq, gos, Int.reduceAdd, Int.reduceSub, Int.reduceMul, Int.reduceEq, t4, t5])
      refine X_loopH [4, 13, 15, 21, 23, 25, 26, 27, 28] [(0, 1) :: base, (5, 6) :: base, (7, 6) :: base, (8, 6) :: base, (15, 6) :: base, (16, 6) :: base] (0) (l.length) (fun j => True) (fun j => [(27, i64 ((nzV (l.take j)).length : Nat)), (28, i64 j)]) (fun j => (((((Heap.none.put ((0, 0) :: base) (.var [i64 M, i64 N, lu l])).put ((13, 6) :: base) (.var [i64 N, i64 M, lu tm])).put ((14, 6) :: base) (.var [i64 M, i64 N, lu l])).put ((17, 7) :: base) (.var [i64 M, i64 N, lu l])).put ((18, 7) :: base) (.var [i64 M, i64 N, lu l])).put ((19, 6) :: base) (.var [i64 M, i64 N, li lB, li lC, lu (nzV l)])) ?_ ?_ ?_ ?_ ?_ (by decide) ?_
      · exact (fgt_cons (by simp only [Heap.none_at]) (by (simp -dsimp only [zzB, tys, ite_self, opnL, callB, stepOp, ofVal, opBuiltin, opLen, PV.sk, scalBin, scalUn, intBin, opLoad, natOf, opConvert, opField, cellsP, oneP, Value.oneCell', opStore, toIV, scalT, scalA, scalC, boxesA, boxesC, ↓reduceIte, Nat.reduceSub, Nat.reduceEqDiff, Nat.reduceAdd, Nat.reduceMul, Nat.reduceLT, Nat.reduceLeDiff, Int.reduceToNat, Int.reduceLE, Int.reduceLT, Int.reduceNeg, reduceCtorEq, notIn_cons, notIn_nil]) <;> simp [refsL, refsP, mem_refs_rowP]) (by repeat (first | exact noVar_none _ | refine noVar_row ?_ | refine noVar_rowH ?_ | refine noVar_var ?_ (by simp [refsL, refsP, mem_refs_rowP]))) (fgt_cons (by simp only [Heap.none_at]) (by (simp -dsimp only [zzB, tys, ite_self, opnL, callB, stepOp, ofVal, opBuiltin, opLen, PV.sk, scalBin, scalUn, intBin, opLoad, natOf, opConvert, opField, cellsP, oneP, Value.oneCell', opStore, toIV, scalT, scalA, scalC, boxesA, boxesC, ↓reduceIte, Nat.reduceSub, Nat.reduceEqDiff, Nat.reduceAdd, Nat.reduceMul, Nat.reduceLT, Nat.reduceLeDiff, Int.reduceToNat, Int.reduceLE, Int.reduceLT, Int.reduceNeg, reduceCtorEq, notIn_cons, notIn_nil]) <;> simp [refsL, refsP, mem_refs_rowP]) (by repeat (first | exact noVar_none _ | refine noVar_row ?_ | refine noVar_rowH ?_ | refine noVar_var ?_ (by simp [refsL, refsP, mem_refs_rowP]))) (fgt_cons (by simp only [Heap.none_at]) (by (simp -dsimp only [zzB, tys, ite_self, opnL, callB, stepOp, ofVal, opBuiltin, opLen, PV.sk, scalBin, scalUn, intBin, opLoad, natOf, opConvert, opField, cellsP, oneP, Value.oneCell', opStore, toIV, scalT, scalA, scalC, boxesA, boxesC, ↓reduceIte, Nat.reduceSub, Nat.reduceEqDiff, Nat.reduceAdd, Nat.reduceMul, Nat.reduceLT, Nat.reduceLeDiff, Int.reduceToNat, Int.reduceLE, Int.reduceLT, Int.reduceNeg, reduceCtorEq, notIn_cons, notIn_nil]) <;> simp [refsL, refsP, mem_refs_rowP]) (by repeat (first | exact noVar_none _ | refine noVar_row ?_ | refine noVar_rowH ?_ | refine noVar_var ?_ (by simp [refsL, refsP, mem_refs_rowP]))) (fgt_cons (by simp only [Heap.none_at]) (by (simp -dsimp only [zzB, tys, ite_self, opnL, callB, stepOp, ofVal, opBuiltin, opLen, PV.sk, scalBin, scalUn, intBin, opLoad, natOf, opConvert, opField, cellsP, oneP, Value.oneCell', opStore, toIV, scalT, scalA, scalC, boxesA, boxesC, ↓reduceIte, Nat.reduceSub, Nat.reduceEqDiff, Nat.reduceAdd, Nat.reduceMul, Nat.reduceLT, Nat.reduceLeDiff, Int.reduceToNat, Int.reduceLE, Int.reduceLT, Int.reduceNeg, reduceCtorEq, notIn_cons, notIn_nil]) <;> simp [refsL, refsP, mem_refs_rowP]) (by repeat (first | exact noVar_none _ | refine noVar_row ?_ | refine noVar_rowH ?_ | refine noVar_var ?_ (by simp [refsL, refsP, mem_refs_rowP]))) (fgt_cons (by simp only [Heap.none_at]) (by (simp -dsimp only [zzB, tys, ite_self, opnL, callB, stepOp, ofVal, opBuiltin, opLen, PV.sk, scalBin, scalUn, intBin, opLoad, natOf, opConvert, opField, cellsP, oneP, Value.oneCell', opStore, toIV, scalT, scalA, scalC, boxesA, boxesC, ↓reduceIte, Nat.reduceSub, Nat.reduceEqDiff, Nat.reduceAdd, Nat.reduceMul, Nat.reduceLT, Nat.reduceLeDiff, Int.reduceToNat, Int.reduceLE, Int.reduceLT, Int.reduceNeg, reduceCtorEq, notIn_cons, notIn_nil]) <;> simp [refsL, refsP, mem_refs_rowP]) (by repeat (first | exact noVar_none _ | refine noVar_row ?_ | refine noVar_rowH ?_ | refine noVar_var ?_ (by simp [refsL, refsP, mem_refs_rowP]))) (fgt_cons (by simp only [Heap.none_at]) (by (simp -dsimp only [zzB, tys, ite_self, opnL, callB, stepOp, ofVal, opBuiltin, opLen, PV.sk, scalBin, scalUn, intBin, opLoad, natOf, opConvert, opField, cellsP, oneP, Value.oneCell', opStore, toIV, scalT, scalA, scalC, boxesA, boxesC, ↓reduceIte, Nat.reduceSub, Nat.reduceEqDiff, Nat.reduceAdd, Nat.reduceMul, Nat.reduceLT, Nat.reduceLeDiff, Int.reduceToNat, Int.reduceLE, Int.reduceLT, Int.reduceNeg, reduceCtorEq, notIn_cons, notIn_nil]) <;> simp [refsL, refsP, mem_refs_rowP]) (by repeat (first | exact noVar_none _ | refine noVar_row ?_ | refine noVar_rowH ?_ | refine noVar_var ?_ (by simp [refsL, refsP, mem_refs_rowP]))) (fgt_nil)))))))
      · ((simp -dsimp (disch := omega) only [simx, zzB, tys, ite_self, opnL, callB, stepOp, ofVal, opBuiltin, opLen, PV.sk, scalBin, scalUn, intBin, opLoad, natOf, opConvert, opField, cellsP, oneP, Value.oneCell', opStore, toIV, scalT, scalA, scalC, boxesA, boxesC, ↓reduceIte, Nat.reduceSub, Nat.reduceEqDiff, Nat.reduceAdd, Nat.reduceMul, Nat.reduceLT, Nat.reduceLeDiff, Int.reduceToNat, Int.reduceLE, Int.reduceLT, Int.reduceNeg, reduceCtorEq, gos, Int.reduceAdd, Int.reduceSub, Int.reduceMul, Int.reduceEq]) <;> first | rfl | simp [nzV])
      · funext c
        simp (maxSteps := 20000000) only [Heap.drop_at, rowH_app, Heap.put_at, Heap.none_at, List.mem_cons, List.not_mem_nil, or_false]
        by_cases e0 : c = (0, 0) :: base
        · subst e0; simp []
        by_cases e1 : c = (13, 6) :: base
        · subst e1; simp []
        by_cases e2 : c = (14, 6) :: base
        · subst e2; simp []
        by_cases e3 : c = (17, 7) :: base
        · subst e3; simp []
        by_cases e4 : c = (18, 7) :: base
        · subst e4; simp []
        by_cases e5 : c = (19, 6) :: base
        · subst e5; simp []
        by_cases e6 : c = (0, 1) :: base
        · subst e6; simp []
        by_cases e7 : c = (5, 6) :: base
        · subst e7; simp []
        by_cases e8 : c = (7, 6) :: base
        · subst e8; simp []
        by_cases e9 : c = (8, 6) :: base
        · subst e9; simp []
        by_cases e10 : c = (15, 6) :: base
        · subst e10; simp []
        by_cases e11 : c = (16, 6) :: base
        · subst e11; simp []
        simp [e0, e1, e2, e3, e4, e5, e6, e7, e8, e9, e10, e11]
      · omega
      · trivial
      · intro j hj _
        by_cases cj : j < l.length
        · have g1 : l[j]? = some l[j] := List.getElem?_eq_getElem cj
          have nz := nzn j cj
          have nl := nzl j
          rw [List.length_take] at nl
          generalize l[j] = x at g1 nz
          by_cases x0 : x = 0
          · rw [if_pos x0, Nat.add_zero] at nz
            repeat (first | refine ⟨(by show drawK _ _ = true; kernel_rfl : drawX _ _ _), ?_⟩ | exact (by show drawK _ _ = true; kernel_rfl : drawX _ _ _) | simp -dsimp (maxSteps := 20000000) (disch := omega) only [simx, zzC, zzB, tys, ite_self, opnL, callB, stepOp, ofVal, opBuiltin, opLen, PV.sk, scalBin, scalUn, intBin, opLoad, natOf, opConvert, opField, cellsP, oneP, Value.oneCell', opStore, toIV, scalT, scalA, scalC, boxesA, boxesC, ↓reduceIte, Nat.reduceSub, Nat.reduceEqDiff, Nat.reduceAdd, Nat.reduceMul, Nat.reduceLT, Nat.reduceLeDiff, Int.reduceToNat, Int.reduceLE, Int.reduceLT, Int.reduceNeg, reduceCtorEq, gos, Int.reduceAdd, Int.reduceSub, Int.reduceMul, Int.reduceEq, cj, g1])
            refine ⟨cj, (fgt_cons (by simp only [Heap.none_at]) (by (simp -dsimp only [zzB, tys, ite_self, opnL, callB, stepOp, ofVal, opBuiltin, opLen, PV.sk, scalBin, scalUn, intBin, opLoad, natOf, opConvert, opField, cellsP, oneP, Value.oneCell', opStore, toIV, scalT, scalA, scalC, boxesA, boxesC, ↓reduceIte, Nat.reduceSub, Nat.reduceEqDiff, Nat.reduceAdd, Nat.reduceMul, Nat.reduceLT, Nat.reduceLeDiff, Int.reduceToNat, Int.reduceLE, Int.reduceLT, Int.reduceNeg, reduceCtorEq, notIn_cons, notIn_nil]) <;> simp [refsL, refsP, mem_refs_rowP]) (by repeat (first | exact noVar_none _ | refine noVar_row ?_ | refine noVar_rowH ?_ | refine noVar_var ?_ (by simp [refsL, refsP, mem_refs_rowP]))) (fgt_cons (by simp only [Heap.none_at]) (by (simp -dsimp only [zzB, tys, ite_self, opnL, callB, stepOp, ofVal, opBuiltin, opLen, PV.sk, scalBin, scalUn, intBin, opLoad, natOf, opConvert, opField, cellsP, oneP, Value.oneCell', opStore, toIV, scalT, scalA, scalC, boxesA, boxesC, ↓reduceIte, Nat.reduceSub, Nat.reduceEqDiff, Nat.reduceAdd, Nat.reduceMul, Nat.reduceLT, Nat.reduceLeDiff, Int.reduceToNat, Int.reduceLE, Int.reduceLT, Int.reduceNeg, reduceCtorEq, notIn_cons, notIn_nil]) <;> simp [refsL, refsP, mem_refs_rowP]) (by repeat (first | exact noVar_none _ | refine noVar_row ?_ | refine noVar_rowH ?_ | refine noVar_var ?_ (by simp [refsL, refsP, mem_refs_rowP]))) (fgt_cons (by simp only [Heap.none_at]) (by (simp -dsimp only [zzB, tys, ite_self, opnL, callB, stepOp, ofVal, opBuiltin, opLen, PV.sk, scalBin, scalUn, intBin, opLoad, natOf, opConvert, opField, cellsP, oneP, Value.oneCell', opStore, toIV, scalT, scalA, scalC, boxesA, boxesC, ↓reduceIte, Nat.reduceSub, Nat.reduceEqDiff, Nat.reduceAdd, Nat.reduceMul, Nat.reduceLT, Nat.reduceLeDiff, Int.reduceToNat, Int.reduceLE, Int.reduceLT, Int.reduceNeg, reduceCtorEq, notIn_cons, notIn_nil]) <;> simp [refsL, refsP, mem_refs_rowP]) (by repeat (first | exact noVar_none _ | refine noVar_row ?_ | refine noVar_rowH ?_ | refine noVar_var ?_ (by simp [refsL, refsP, mem_refs_rowP]))) (fgt_cons (by simp only [Heap.none_at]) (by (simp -dsimp only [zzB, tys, ite_self, opnL, callB, stepOp, ofVal, opBuiltin, opLen, PV.sk, scalBin, scalUn, intBin, opLoad, natOf, opConvert, opField, cellsP, oneP, Value.oneCell', opStore, toIV, scalT, scalA, scalC, boxesA, boxesC, ↓reduceIte, Nat.reduceSub, Nat.reduceEqDiff, Nat.reduceAdd, Nat.reduceMul, Nat.reduceLT, Nat.reduceLeDiff, Int.reduceToNat, Int.reduceLE, Int.reduceLT, Int.reduceNeg, reduceCtorEq, notIn_cons, notIn_nil]) <;> simp [refsL, refsP, mem_refs_rowP]) (by repeat (first | exact noVar_none _ | refine noVar_row ?_ | refine noVar_rowH ?_ | refine noVar_var ?_ (by simp [refsL, refsP, mem_refs_rowP]))) (fgt_cons (by simp only [Heap.none_at]) (by (simp -dsimp only [zzB, tys, ite_self, opnL, callB, stepOp, ofVal, opBuiltin, opLen, PV.sk, scalBin, scalUn, intBin, opLoad, natOf, opConvert, opField, cellsP, oneP, Value.oneCell', opStore, toIV, scalT, scalA, scalC, boxesA, boxesC, ↓reduceIte, Nat.reduceSub, Nat.reduceEqDiff, Nat.reduceAdd, Nat.reduceMul, Nat.reduceLT, Nat.reduceLeDiff, Int.reduceToNat, Int.reduceLE, Int.reduceLT, Int.reduceNeg, reduceCtorEq, notIn_cons, notIn_nil]) <;> simp [refsL, refsP, mem_refs_rowP]) (by repeat (first | exact noVar_none _ | refine noVar_row ?_ | refine noVar_rowH ?_ | refine noVar_var ?_ (by simp [refsL, refsP, mem_refs_rowP]))) (fgt_cons (by simp only [Heap.none_at]) (by (simp -dsimp only [zzB, tys, ite_self, opnL, callB, stepOp, ofVal, opBuiltin, opLen, PV.sk, scalBin, scalUn, intBin, opLoad, natOf, opConvert, opField, cellsP, oneP, Value.oneCell', opStore, toIV, scalT, scalA, scalC, boxesA, boxesC, ↓reduceIte, Nat.reduceSub, Nat.reduceEqDiff, Nat.reduceAdd, Nat.reduceMul, Nat.reduceLT, Nat.reduceLeDiff, Int.reduceToNat, Int.reduceLE, Int.reduceLT, Int.reduceNeg, reduceCtorEq, notIn_cons, notIn_nil]) <;> simp [refsL, refsP, mem_refs_rowP]) (by repeat (first | exact noVar_none _ | refine noVar_row ?_ | refine noVar_rowH ?_ | refine noVar_var ?_ (by simp [refsL, refsP, mem_refs_rowP]))) (fgt_nil))))))), ⟨by rw [nz]; rfl, rfl⟩, ?_⟩
            funext c
            simp (maxSteps := 20000000) only [Heap.drop_at, rowH_app, Heap.put_at, Heap.none_at, List.mem_cons, List.not_mem_nil, or_false]
            by_cases e0 : c = (0, 0) :: base
            · subst e0; simp []
            by_cases e1 : c = (13, 6) :: base
            · subst e1; simp []
            by_cases e2 : c = (14, 6) :: base
            · subst e2; simp []
            by_cases e3 : c = (17, 7) :: base
            · subst e3; simp []
            by_cases e4 : c = (18, 7) :: base
            · subst e4; simp []
            by_cases e5 : c = (19, 6) :: base
            · subst e5; simp []
            by_cases e6 : c = (0, 1) :: base
            · subst e6; simp []
            by_cases e7 : c = (5, 6) :: base
            · subst e7; simp []
            by_cases e8 : c = (7, 6) :: base
            · subst e8; simp []
            by_cases e9 : c = (8, 6) :: base
            · subst e9; simp []
            by_cases e10 : c = (15, 6) :: base
            · subst e10; simp []
            by_cases e11 : c = (16, 6) :: base
            · subst e11; simp []
            simp [e0, e1, e2, e3, e4, e5, e6, e7, e8, e9, e10, e11]
          · rw [if_neg x0] at nz
            repeat (first | refine ⟨(by show drawK _ _ = true; kernel_rfl : drawX _ _ _), ?_⟩ | exact (by show drawK _ _ = true; kernel_rfl : drawX _ _ _) | simp -dsimp (maxSteps := 20000000) (disch := omega) only [simx, zzC, zzB, tys, ite_self, opnL, callB, stepOp, ofVal, opBuiltin, opLen, PV.sk, scalBin, scalUn, intBin, opLoad, natOf, opConvert, opField, cellsP, oneP, Value.oneCell', opStore, toIV, scalT, scalA, scalC, boxesA, boxesC, ↓reduceIte, Nat.reduceSub, Nat.reduceEqDiff, Nat.reduceAdd, Nat.reduceMul, Nat.reduceLT, Nat.reduceLeDiff, Int.reduceToNat, Int.reduceLE, Int.reduceLT, Int.reduceNeg, reduceCtorEq, gos, Int.reduceAdd, Int.reduceSub, Int.reduceMul, Int.reduceEq, cj, g1])
            refine ⟨cj, (fgt_cons (by simp only [Heap.none_at]) (by (simp -dsimp only [zzB, tys, ite_self, opnL, callB, stepOp, ofVal, opBuiltin, opLen, PV.sk, scalBin, scalUn, intBin, opLoad, natOf, opConvert, opField, cellsP, oneP, Value.oneCell', opStore, toIV, scalT, scalA, scalC, boxesA, boxesC, ↓reduceIte, Nat.reduceSub, Nat.reduceEqDiff, Nat.reduceAdd, Nat.reduceMul, Nat.reduceLT, Nat.reduceLeDiff, Int.reduceToNat, Int.reduceLE, Int.reduceLT, Int.reduceNeg, reduceCtorEq, notIn_cons, notIn_nil]) <;> simp [refsL, refsP, mem_refs_rowP]) (by repeat (first | exact noVar_none _ | refine noVar_row ?_ | refine noVar_rowH ?_ | refine noVar_var ?_ (by simp [refsL, refsP, mem_refs_rowP]))) (fgt_cons (by simp only [Heap.none_at]) (by (simp -dsimp only [zzB, tys, ite_self, opnL, callB, stepOp, ofVal, opBuiltin, opLen, PV.sk, scalBin, scalUn, intBin, opLoad, natOf, opConvert, opField, cellsP, oneP, Value.oneCell', opStore, toIV, scalT, scalA, scalC, boxesA, boxesC, ↓reduceIte, Nat.reduceSub, Nat.reduceEqDiff, Nat.reduceAdd, Nat.reduceMul, Nat.reduceLT, Nat.reduceLeDiff, Int.reduceToNat, Int.reduceLE, Int.reduceLT, Int.reduceNeg, reduceCtorEq, notIn_cons, notIn_nil]) <;> simp [refsL, refsP, mem_refs_rowP]) (by repeat (first | exact noVar_none _ | refine noVar_row ?_ | refine noVar_rowH ?_ | refine noVar_var ?_ (by simp [refsL, refsP, mem_refs_rowP]))) (fgt_cons (by simp only [Heap.none_at]) (by (simp -dsimp only [zzB, tys, ite_self, opnL, callB, stepOp, ofVal, opBuiltin, opLen, PV.sk, scalBin, scalUn, intBin, opLoad, natOf, opConvert, opField, cellsP, oneP, Value.oneCell', opStore, toIV, scalT, scalA, scalC, boxesA, boxesC, ↓reduceIte, Nat.reduceSub, Nat.reduceEqDiff, Nat.reduceAdd, Nat.reduceMul, Nat.reduceLT, Nat.reduceLeDiff, Int.reduceToNat, Int.reduceLE, Int.reduceLT, Int.reduceNeg, reduceCtorEq, notIn_cons, notIn_nil]) <;> simp [refsL, refsP, mem_refs_rowP]) (by repeat (first | exact noVar_none _ | refine noVar_row ?_ | refine noVar_rowH ?_ | refine noVar_var ?_ (by simp [refsL, refsP, mem_refs_rowP]))) (fgt_cons (by simp only [Heap.none_at]) (by (simp -dsimp only [zzB, tys, ite_self, opnL, callB, stepOp, ofVal, opBuiltin, opLen, PV.sk, scalBin, scalUn, intBin, opLoad, natOf, opConvert, opField, cellsP, oneP, Value.oneCell', opStore, toIV, scalT, scalA, scalC, boxesA, boxesC, ↓reduceIte, Nat.reduceSub, Nat.reduceEqDiff, Nat.reduceAdd, Nat.reduceMul, Nat.reduceLT, Nat.reduceLeDiff, Int.reduceToNat, Int.reduceLE, Int.reduceLT, Int.reduceNeg, reduceCtorEq, notIn_cons, notIn_nil]) <;> simp [refsL, refsP, mem_refs_rowP]) (by repeat (first | exact noVar_none _ | refine noVar_row ?_ | refine noVar_rowH ?_ | refine noVar_var ?_ (by simp [refsL, refsP, mem_refs_rowP]))) (fgt_cons (by simp only [Heap.none_at]) (by (simp -dsimp only [zzB, tys, ite_self, opnL, callB, stepOp, ofVal, opBuiltin, opLen, PV.sk, scalBin, scalUn, intBin, opLoad, natOf, opConvert, opField, cellsP, oneP, Value.oneCell', opStore, toIV, scalT, scalA, scalC, boxesA, boxesC, ↓reduceIte, Nat.reduceSub, Nat.reduceEqDiff, Nat.reduceAdd, Nat.reduceMul, Nat.reduceLT, Nat.reduceLeDiff, Int.reduceToNat, Int.reduceLE, Int.reduceLT, Int.reduceNeg, reduceCtorEq, notIn_cons, notIn_nil]) <;> simp [refsL, refsP, mem_refs_rowP]) (by repeat (first | exact noVar_none _ | refine noVar_row ?_ | refine noVar_rowH ?_ | refine noVar_var ?_ (by simp [refsL, refsP, mem_refs_rowP]))) (fgt_cons (by simp only [Heap.none_at]) (by (simp -dsimp only [zzB, tys, ite_self, opnL, callB, stepOp, ofVal, opBuiltin, opLen, PV.sk, scalBin, scalUn, intBin, opLoad, natOf, opConvert, opField, cellsP, oneP, Value.oneCell', opStore, toIV, scalT, scalA, scalC, boxesA, boxesC, ↓reduceIte, Nat.reduceSub, Nat.reduceEqDiff, Nat.reduceAdd, Nat.reduceMul, Nat.reduceLT, Nat.reduceLeDiff, Int.reduceToNat, Int.reduceLE, Int.reduceLT, Int.reduceNeg, reduceCtorEq, notIn_cons, notIn_nil]) <;> simp [refsL, refsP, mem_refs_rowP]) (by repeat (first | exact noVar_none _ | refine noVar_row ?_ | refine noVar_rowH ?_ | refine noVar_var ?_ (by simp [refsL, refsP, mem_refs_rowP]))) (fgt_nil))))))), ⟨by rw [nz]; rfl, rfl⟩, ?_⟩
            funext c
            simp (maxSteps := 20000000) only [Heap.drop_at, rowH_app, Heap.put_at, Heap.none_at, List.mem_cons, List.not_mem_nil, or_false]
            by_cases e0 : c = (0, 0) :: base
            · subst e0; simp []
            by_cases e1 : c = (13, 6) :: base
            · subst e1; simp []
            by_cases e2 : c = (14, 6) :: base
            · subst e2; simp []
            by_cases e3 : c = (17, 7) :: base
            · subst e3; simp []
            by_cases e4 : c = (18, 7) :: base
            · subst e4; simp []
            by_cases e5 : c = (19, 6) :: base
            · subst e5; simp []
            by_cases e6 : c = (0, 1) :: base
            · subst e6; simp []
            by_cases e7 : c = (5, 6) :: base
            · subst e7; simp []
            by_cases e8 : c = (7, 6) :: base
            · subst e8; simp []
            by_cases e9 : c = (8, 6) :: base
            · subst e9; simp []
            by_cases e10 : c = (15, 6) :: base
            · subst e10; simp []
            by_cases e11 : c = (16, 6) :: base
            · subst e11; simp []
            simp [e0, e1, e2, e3, e4, e5, e6, e7, e8, e9, e10, e11]
        · have hj' : j = l.length := by omega
          rw [hj', List.take_length]
          repeat (first | ((first | refine X_call_fn2 rfl (by simp only [tys]) ?_ | refine X_dcall_fn2 rfl (by simp only [tys]) ?_); apply Exists.intro; apply And.intro; (focus (simp -dsimp only [simx, zzC, zzB, tys, ite_self, opnL, callB, stepOp, ofVal, opBuiltin, opLen, PV.sk, scalBin, scalUn, intBin, opLoad, natOf, opConvert, opField, cellsP, oneP, Value.oneCell', opStore, toIV, scalT, scalA, scalC, boxesA, boxesC, ↓reduceIte, Nat.reduceSub, Nat.reduceEqDiff, Nat.reduceAdd, Nat.reduceMul, Nat.reduceLT, Nat.reduceLeDiff, Int.reduceToNat, Int.reduceLE, Int.reduceLT, Int.reduceNeg, reduceCtorEq, zzL, if_true, if_false] <;> rfl)); apply Exists.intro; apply And.intro; (focus (first | exact ss))) | refine ⟨(by show drawK _ _ = true; kernel_rfl : drawX _ _ _), ?_⟩ | exact (by show drawK _ _ = true; kernel_rfl : drawX _ _ _) | simp -dsimp (maxSteps := 20000000) (disch := omega) only [simx, zzC, zzB, tys, ite_self, opnL, callB, stepOp, ofVal, opBuiltin, opLen, PV.sk, scalBin, scalUn, intBin, opLoad, natOf, opConvert, opField, cellsP, oneP, Value.oneCell', opStore, toIV, scalT, scalA, scalC, boxesA, boxesC, ↓reduceIte, Nat.reduceSub, Nat.reduceEqDiff, Nat.reduceAdd, Nat.reduceMul, Nat.reduceLT, Nat.reduceLeDiff, Int.reduceToNat, Int.reduceLE, Int.reduceLT, Int.reduceNeg, reduceCtorEq, zzR, gos, Int.reduceAdd, Int.reduceSub, Int.reduceMul, Int.reduceEq])
end Go.Proofs.Ytnnkoghmglpnmaa.TM
