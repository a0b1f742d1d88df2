/- Layer 5: a vector times a thin matrix; a thin matrix made whole: walked. -/
import Derived.Test.YtnnkoghmglpnmaaWMatM
import Derived.Test.YtnnkoghmglpnmaaWMatC
import Derived.Test.YtnnkoghmglpnmaaWFieldB
namespace Go.Proofs.Ytnnkoghmglpnmaa.TM
open Go Go.RowKit
set_option linter.unusedVariables false
set_option linter.defProp false
set_option linter.unusedSimpArgs false
attribute [local irreducible] K W WOps Effs Xg Xo Xr Xdg Xdo Xdr Xif CallsP CallR

/-- What stands last at a column. -/
def lookC (c : Int) : List Int → List Int → Int → Int
  | q :: ks, u :: vs, x => lookC c ks vs (if q = c then u else x)
  | _, _, x => x
theorem lookC_snoc (c q u : Int) : ∀ (ks vs : List Int) (x : Int), ks.length = vs.length → lookC c (ks ++ [q]) (vs ++ [u]) x = if q = c then u else lookC c ks vs x
  | [], [], x, _ => rfl
  | a :: ks, b :: vs, x, h => by
    simp only [List.cons_append, lookC]
    exact lookC_snoc c q u ks vs _ (by simpa using h)
  | [], _ :: _, _, h => by simp at h
  | _ :: _, [], _, h => by simp at h
theorem lookC_no (c : Int) : ∀ (ks vs : List Int) (x : Int), (∀ q ∈ ks, q ≠ c) → lookC c ks vs x = x
  | [], vs, x, _ => by cases vs <;> rfl
  | q :: ks, [], x, _ => rfl
  | q :: ks, u :: vs, x, h => by
    rw [lookC, if_neg (h q (by simp))]
    exact lookC_no c ks vs x fun q hq => h q (by simp [hq])
/-- A cell of a thin matrix. -/
def whC (b k v : List Int) (i c : Nat) : Int := lookC c (segI b k i) (segI b v i) 0
theorem risF_take {l : List Int} {last most : Int} (h : risF last l most = true) {m : Nat} (hm : m < l.length) : ∀ q ∈ l.take m, q ≠ l[m] := by
  intro q hq e
  obtain ⟨i, hi, rfl⟩ := List.mem_iff_getElem.1 hq
  rw [List.length_take] at hi
  have := risF_drop l last most h i m (by omega) hm
  rw [List.getElem_take] at e
  rw [List.getD_eq_getElem?_getD, List.getD_eq_getElem?_getD, List.getElem?_eq_getElem hm, List.getElem?_eq_getElem (show i < l.length by omega)] at this
  simp only [Option.getD_some] at this
  omega
/-- What is summed up ahead of a row. -/
def slS (b k v x : List Int) (i c : Nat) : Int := sumN i (fun j => x.getD j 0 * whC b k v j c)
def slF (p : Int) (b k v x : List Int) (i e c : Nat) : Int := (slS b k v x i c + x.getD i 0 * lookC c ((segI b k i).take e) ((segI b v i).take e) 0) % p
theorem slF_zero (p : Int) (b k v x : List Int) (i c : Nat) : slF p b k v x i 0 c = slS b k v x i c % p := by
  unfold slF; rw [List.take_zero, List.take_zero, show lookC (c : Int) [] [] 0 = 0 from rfl]; simp
theorem slF_all {p : Int} {b k v x : List Int} {i n : Nat} (h1 : (segI b k i).length = n) (h2 : (segI b v i).length = n) (c : Nat) : slF p b k v x i n c = slF p b k v x (i + 1) 0 c := by
  rw [slF_zero]
  unfold slF slS
  rw [List.take_of_length_le (by omega), List.take_of_length_le (by omega), sumN]; rfl
def slR (p r c : Int) (b k v x : List Int) : List Int × Int := if spB p r c b k v && (HasB p x && decide ((x.length : Int) = r)) then (tbl c.toNat (fun q => slS b k v x r.toNat q % p), 0) else ([], 1)
theorem wr_eq {a y : Nat} {b k v : List Int} {j m : Nat} (sg : segI b k j = (k.drop a).take (y - a)) (lk : (segI b k j).length = y - a) (cm : m < y - a) (yk : y ≤ k.length) : ∃ (h : a + m < k.length) (h2 : m < (segI b k j).length), k[a + m]? = some (segI b k j)[m] := by
  refine ⟨by omega, by omega, ?_⟩
  have h2 : m < (segI b k j).length := by omega
  rw [← List.getElem?_eq_getElem h2, sg, List.getElem?_take, if_pos cm, List.getElem?_drop]
set_option maxHeartbeats 8000000 in
set_option maxRecDepth 100000 in
theorem sleft_walk (p r c : Int) (b k v x : List Int) (hb : b.length ≤ maxLen) (hk : k.length ≤ maxLen) (hv : v.length ≤ maxLen) (hx : x.length ≤ maxLen) (wv : W64s v) (wx : W64s x) :
    CallsP Try.prog 30 [u64 p, lu x, spP r c b k v] (.tup [lu (slR p r c b k v x).1, i64 (slR p r c b k v x).2]) := by
  have q1 := sparse_walk p r c b k v hb hk hv
  have q2 := has_walk p x hx
  unfold slR
  cases h1 : spB p r c b k v with
  | false =>
    rw [h1] at q1
    refine X_startP (n := 90) (m := 3) (rs := [.tmp 6, .tmp 7]) Try.func30 rfl rfl rfl rfl (by decide) fun base => ?_
    repeat (first | ((first | refine X_call_fn2 rfl (by simp only [tys]) ?_ | refine X_dcall_fn2 rfl (by simp only [tys]) ?_); apply Exists.intro; apply And.intro; (focus (simp -dsimp only [simx, zzC, zzB, tys, ite_self, opnL, callB, stepOp, ofVal, opBuiltin, opLen, PV.sk, scalBin, scalUn, intBin, opLoad, natOf, opConvert, opField, cellsP, oneP, Value.oneCell', opStore, toIV, scalT, scalA, scalC, boxesA, boxesC, ↓reduceIte, Nat.reduceSub, Nat.reduceEqDiff, Nat.reduceAdd, Nat.reduceMul, Nat.reduceLT, Nat.reduceLeDiff, Int.reduceToNat, Int.reduceLE, Int.reduceLT, Int.reduceNeg, reduceCtorEq, zzL, if_true, if_false] <;> rfl)); apply Exists.intro; apply And.intro; (focus (first | exact q1))) | refine ⟨(by show drawK _ _ = true; kernel_rfl : drawX _ _ _), ?_⟩ | exact (by show drawK _ _ = true; kernel_rfl : drawX _ _ _) | simp -dsimp (maxSteps := 20000000) (disch := omega) only [simx, zzC, zzB, tys, ite_self, opnL, callB, stepOp, ofVal, opBuiltin, opLen, PV.sk, scalBin, scalUn, intBin, opLoad, natOf, opConvert, opField, cellsP, oneP, Value.oneCell', opStore, toIV, scalT, scalA, scalC, boxesA, boxesC, ↓reduceIte, Nat.reduceSub, Nat.reduceEqDiff, Nat.reduceAdd, Nat.reduceMul, Nat.reduceLT, Nat.reduceLeDiff, Int.reduceToNat, Int.reduceLE, Int.reduceLT, Int.reduceNeg, reduceCtorEq, zzR, gos, Int.reduceAdd, Int.reduceSub, Int.reduceMul, Int.reduceEq])
    rfl
  | true =>
  rw [h1] at q1
  cases h2 : HasB p x with
  | false =>
    rw [h2] at q2
    refine X_startP (n := 90) (m := 3) (rs := [.tmp 6, .tmp 7]) Try.func30 rfl rfl rfl rfl (by decide) fun base => ?_
    repeat (first | ((first | refine X_call_fn2 rfl (by simp only [tys]) ?_ | refine X_dcall_fn2 rfl (by simp only [tys]) ?_); apply Exists.intro; apply And.intro; (focus (simp -dsimp only [simx, zzC, zzB, tys, ite_self, opnL, callB, stepOp, ofVal, opBuiltin, opLen, PV.sk, scalBin, scalUn, intBin, opLoad, natOf, opConvert, opField, cellsP, oneP, Value.oneCell', opStore, toIV, scalT, scalA, scalC, boxesA, boxesC, ↓reduceIte, Nat.reduceSub, Nat.reduceEqDiff, Nat.reduceAdd, Nat.reduceMul, Nat.reduceLT, Nat.reduceLeDiff, Int.reduceToNat, Int.reduceLE, Int.reduceLT, Int.reduceNeg, reduceCtorEq, zzL, if_true, if_false] <;> rfl)); apply Exists.intro; apply And.intro; (focus (first | exact q1 | exact q2))) | refine ⟨(by show drawK _ _ = true; kernel_rfl : drawX _ _ _), ?_⟩ | exact (by show drawK _ _ = true; kernel_rfl : drawX _ _ _) | simp -dsimp (maxSteps := 20000000) (disch := omega) only [simx, zzC, zzB, tys, ite_self, opnL, callB, stepOp, ofVal, opBuiltin, opLen, PV.sk, scalBin, scalUn, intBin, opLoad, natOf, opConvert, opField, cellsP, oneP, Value.oneCell', opStore, toIV, scalT, scalA, scalC, boxesA, boxesC, ↓reduceIte, Nat.reduceSub, Nat.reduceEqDiff, Nat.reduceAdd, Nat.reduceMul, Nat.reduceLT, Nat.reduceLeDiff, Int.reduceToNat, Int.reduceLE, Int.reduceLT, Int.reduceNeg, reduceCtorEq, zzR, gos, Int.reduceAdd, Int.reduceSub, Int.reduceMul, Int.reduceEq])
    rfl
  | true =>
  rw [h2] at q2
  by_cases h3 : (x.length : Int) = r
  case neg =>
    rw [decide_eq_false h3]
    refine X_startP (n := 90) (m := 3) (rs := [.tmp 6, .tmp 7]) Try.func30 rfl rfl rfl rfl (by decide) fun base => ?_
    repeat (first | ((first | refine X_call_fn2 rfl (by simp only [tys]) ?_ | refine X_dcall_fn2 rfl (by simp only [tys]) ?_); apply Exists.intro; apply And.intro; (focus (simp -dsimp only [simx, zzC, zzB, tys, ite_self, opnL, callB, stepOp, ofVal, opBuiltin, opLen, PV.sk, scalBin, scalUn, intBin, opLoad, natOf, opConvert, opField, cellsP, oneP, Value.oneCell', opStore, toIV, scalT, scalA, scalC, boxesA, boxesC, ↓reduceIte, Nat.reduceSub, Nat.reduceEqDiff, Nat.reduceAdd, Nat.reduceMul, Nat.reduceLT, Nat.reduceLeDiff, Int.reduceToNat, Int.reduceLE, Int.reduceLT, Int.reduceNeg, reduceCtorEq, zzL, if_true, if_false] <;> rfl)); apply Exists.intro; apply And.intro; (focus (first | exact q1 | exact q2))) | refine ⟨(by show drawK _ _ = true; kernel_rfl : drawX _ _ _), ?_⟩ | exact (by show drawK _ _ = true; kernel_rfl : drawX _ _ _) | simp -dsimp (maxSteps := 20000000) (disch := omega) only [simx, zzC, zzB, tys, ite_self, opnL, callB, stepOp, ofVal, opBuiltin, opLen, PV.sk, scalBin, scalUn, intBin, opLoad, natOf, opConvert, opField, cellsP, oneP, Value.oneCell', opStore, toIV, scalT, scalA, scalC, boxesA, boxesC, ↓reduceIte, Nat.reduceSub, Nat.reduceEqDiff, Nat.reduceAdd, Nat.reduceMul, Nat.reduceLT, Nat.reduceLeDiff, Int.reduceToNat, Int.reduceLE, Int.reduceLT, Int.reduceNeg, reduceCtorEq, zzR, gos, Int.reduceAdd, Int.reduceSub, Int.reduceMul, Int.reduceEq])
    rfl
  rw [decide_eq_true h3]
  obtain ⟨R, C, rfl, rfl, S⟩ := sp_of h1
  simp only [Bool.and_self, if_true, Int.toNat_natCast]
  have r2 := S.r2
  have c2 := S.c2
  have hp1 := S.hp.1
  have xR : x.length = R := by omega
  have hxp := ((has_iff _ _).1 h2).1
  have f1 : C * 8 ≤ 140737488355328 := by omega
  have f2 : C ≤ 140737488355328 := by omega
  have z1 := zero_tbl C
  have z0 : tbl C (slF p b k v x 0 0) = tbl C (fun _ => 0) := tbl_congr fun q _ => by rw [slF_zero]; simp [slS, sumN]
  rw [← z0] at z1
  have tl := fun i e => tbl_len C (slF p b k v x i e)
  refine X_startP (n := 90) (m := 3) (rs := [.tmp 6, .tmp 7]) Try.func30 rfl rfl rfl rfl (by decide) fun base => ?_
  repeat (first | ((first | refine X_call_fn2 rfl (by simp only [tys]) ?_ | refine X_dcall_fn2 rfl (by simp only [tys]) ?_); apply Exists.intro; apply And.intro; (focus (simp -dsimp only [simx, zzC, zzB, tys, ite_self, opnL, callB, stepOp, ofVal, opBuiltin, opLen, PV.sk, scalBin, scalUn, intBin, opLoad, natOf, opConvert, opField, cellsP, oneP, Value.oneCell', opStore, toIV, scalT, scalA, scalC, boxesA, boxesC, ↓reduceIte, Nat.reduceSub, Nat.reduceEqDiff, Nat.reduceAdd, Nat.reduceMul, Nat.reduceLT, Nat.reduceLeDiff, Int.reduceToNat, Int.reduceLE, Int.reduceLT, Int.reduceNeg, reduceCtorEq, zzL, if_true, if_false] <;> rfl)); apply Exists.intro; apply And.intro; (focus (first | exact q1 | exact q2))) | refine ⟨(by show drawK _ _ = true; kernel_rfl : drawX _ _ _), ?_⟩ | exact (by show drawK _ _ = true; kernel_rfl : drawX _ _ _) | simp -dsimp (maxSteps := 20000000) (disch := omega) only [simx, zzC, zzB, tys, ite_self, opnL, callB, stepOp, ofVal, opBuiltin, opLen, PV.sk, scalBin, scalUn, intBin, opLoad, natOf, opConvert, opField, cellsP, oneP, Value.oneCell', opStore, toIV, scalT, scalA, scalC, boxesA, boxesC, ↓reduceIte, Nat.reduceSub, Nat.reduceEqDiff, Nat.reduceAdd, Nat.reduceMul, Nat.reduceLT, Nat.reduceLeDiff, Int.reduceToNat, Int.reduceLE, Int.reduceLT, Int.reduceNeg, reduceCtorEq, gos, Int.reduceAdd, Int.reduceSub, Int.reduceMul, Int.reduceEq, f1, f2, z1, tl, List.length_map])
  clear q1 q2 h1 h3 z0 z1
  rw [mx_len] at hk
  refine X_loopH [0, 1, 5, 8, 34, 35] [] (0) (R) (fun j => True) (fun j => [(35, i64 j)]) (fun j => (Heap.none.put ((0, 0) :: base) (.var [i64 R, i64 C, li b, li k, lu v])).put ((3, 2) :: base) (.row false ((tbl C (slF p b k v x j 0)).map iu))) ?_ ?_ ?_ ?_ ?_ (by decide) ?_
  · exact (fgt_nil)
  · ((simp -dsimp (disch := omega) only [simx, zzB, tys, ite_self, opnL, callB, stepOp, ofVal, opBuiltin, opLen, PV.sk, scalBin, scalUn, intBin, opLoad, natOf, opConvert, opField, cellsP, oneP, Value.oneCell', opStore, toIV, scalT, scalA, scalC, boxesA, boxesC, ↓reduceIte, Nat.reduceSub, Nat.reduceEqDiff, Nat.reduceAdd, Nat.reduceMul, Nat.reduceLT, Nat.reduceLeDiff, Int.reduceToNat, Int.reduceLE, Int.reduceLT, Int.reduceNeg, reduceCtorEq, gos, Int.reduceAdd, Int.reduceSub, Int.reduceMul, Int.reduceEq]) <;> first | rfl | simp)
  · funext c
    simp (maxSteps := 20000000) only [Heap.drop_at, rowH_app, Heap.put_at, Heap.none_at, List.mem_cons, List.not_mem_nil, or_false]
    by_cases e0 : c = (0, 0) :: base
    · subst e0; simp []
    by_cases e1 : c = (3, 2) :: base
    · subst e1; simp []
    simp [e0, e1]
  · omega
  · trivial
  · intro j hj _
    by_cases cj : j < R
    · obtain ⟨a, y, g1, g2, l1, l2, xy, yk, yv, sg, sv, lk, lv, hc, hn⟩ := S.row cj
      have e6 : (j : Int) + 1 = ((j + 1 : Nat) : Int) := rfl
      have gx : x[j]? = some x[j] := List.getElem?_eq_getElem (by omega)
      have hxj := hxp _ (List.getElem_mem (show j < x.length by omega))
      have wxj := wx _ (List.getElem_mem (show j < x.length by omega))
      have gd : x.getD j 0 = x[j] := by rw [List.getD_eq_getElem?_getD, gx]; rfl
      have xj : j < x.length := by omega
      repeat (first | refine ⟨(by show drawK _ _ = true; kernel_rfl : drawX _ _ _), ?_⟩ | exact (by show drawK _ _ = true; kernel_rfl : drawX _ _ _) | simp -dsimp (maxSteps := 20000000) (disch := omega) only [simx, zzC, zzB, tys, ite_self, opnL, callB, stepOp, ofVal, opBuiltin, opLen, PV.sk, scalBin, scalUn, intBin, opLoad, natOf, opConvert, opField, cellsP, oneP, Value.oneCell', opStore, toIV, scalT, scalA, scalC, boxesA, boxesC, ↓reduceIte, Nat.reduceSub, Nat.reduceEqDiff, Nat.reduceAdd, Nat.reduceMul, Nat.reduceLT, Nat.reduceLeDiff, Int.reduceToNat, Int.reduceLE, Int.reduceLT, Int.reduceNeg, reduceCtorEq, gos, Int.reduceAdd, Int.reduceSub, Int.reduceMul, Int.reduceEq, cj, g1, l1])
      refine X_loopH [0, 1, 5, 8, 9, 10, 34, 35] [] (0) (y - a) (fun j_ => True) (fun j_ => [(10, i64 ((a + j_ : Nat) : Int))]) (fun j_ => (Heap.none.put ((0, 0) :: base) (.var [i64 R, i64 C, li b, li k, lu v])).put ((3, 2) :: base) (.row false ((tbl C (slF p b k v x j j_)).map iu))) ?_ ?_ ?_ ?_ ?_ (by decide) ?_
      · exact (fgt_nil)
      · ((simp -dsimp (disch := omega) only [simx, zzB, tys, ite_self, opnL, callB, stepOp, ofVal, opBuiltin, opLen, PV.sk, scalBin, scalUn, intBin, opLoad, natOf, opConvert, opField, cellsP, oneP, Value.oneCell', opStore, toIV, scalT, scalA, scalC, boxesA, boxesC, ↓reduceIte, Nat.reduceSub, Nat.reduceEqDiff, Nat.reduceAdd, Nat.reduceMul, Nat.reduceLT, Nat.reduceLeDiff, Int.reduceToNat, Int.reduceLE, Int.reduceLT, Int.reduceNeg, reduceCtorEq, gos, Int.reduceAdd, Int.reduceSub, Int.reduceMul, Int.reduceEq]) <;> first | rfl | simp)
      · exact drop_nil _
      · omega
      · trivial
      · intro m hm _
        by_cases cm : m < y - a
        · obtain ⟨m1, m2, gk⟩ := wr_eq (v := v) sg lk cm yk
          obtain ⟨n1, n2, gv⟩ := wr_eq (v := v) sv lv cm yv
          obtain ⟨c0, c1⟩ := hc _ (List.getElem_mem m2)
          have nt := risF_take (S.ris j cj) m2
          have hv1 := S.has _ (segI_mem (List.getElem_mem n2))
          have wv1 := wv _ (segI_mem (List.getElem_mem n2))
          have tk : (segI b k j).take (m + 1) = (segI b k j).take m ++ [(segI b k j)[m]] := List.take_succ_eq_append_getElem m2
          have tv : (segI b v j).take (m + 1) = (segI b v j).take m ++ [(segI b v j)[m]] := List.take_succ_eq_append_getElem n2
          have tll : ((segI b k j).take m).length = ((segI b v j).take m).length := by rw [List.length_take, List.length_take]; omega
          generalize (segI b k j)[m] = q at gk c0 c1 nt tk
          generalize (segI b v j)[m] = u at gv hv1 wv1 tv
          obtain ⟨Q, rfl⟩ := Int.eq_ofNat_of_zero_le c0
          have hQ : Q < C := by omega
          have lo : lookC (Q : Int) ((segI b k j).take m) ((segI b v j).take m) 0 = 0 := lookC_no _ _ _ _ nt
          have w1 := Mul_walk p x[j] u wxj wv1
          rw [show twoR p x[j] u (x[j] * u % p) = (x[j] * u % p, 0) by unfold twoR; rw [show HasB p [x[j], u] = true from (has_iff _ _).2 ⟨by simp; exact ⟨hxj, hv1⟩, S.hp.1, S.hp.2⟩]; rfl] at w1
          have i1 := emod_in (p := p) (x[j] * u) (by omega)
          have i2 := emod_in (p := p) (slS b k v x j Q + x.getD j 0 * lookC Q ((segI b k j).take m) ((segI b v j).take m) 0) (by omega)
          have w2 := Add_walk p (slF p b k v x j m Q) (x[j] * u % p) (i2.w64 (by have := S.hp.2; omega)) (i1.w64 (by have := S.hp.2; omega))
          rw [show twoR p (slF p b k v x j m Q) (x[j] * u % p) ((slF p b k v x j m Q + x[j] * u % p) % p) = (slF p b k v x j (m + 1) Q, 0) by
            unfold twoR
            rw [show HasB p [slF p b k v x j m Q, x[j] * u % p] = true from (has_iff _ _).2 ⟨by simp; exact ⟨i2.2, i1.2⟩, S.hp.1, S.hp.2⟩, if_pos rfl]
            congr 1
            unfold slF
            rw [am_l, am_r, tk, tv, lookC_snoc _ _ _ _ _ _ tll, if_pos rfl, lo, gd]
            congr 1
            omega] at w2
          have nx : (tbl C (fun c => if c = Q then slF p b k v x j (m + 1) Q else slF p b k v x j m c)) = tbl C (slF p b k v x j (m + 1)) := by
            apply tbl_congr
            intro c _
            by_cases e : c = Q
            · rw [if_pos e, e]
            · rw [if_neg e]
              unfold slF
              rw [tk, tv, lookC_snoc _ _ _ _ _ _ tll, if_neg (by omega)]
          have nx2 := tbl_put_iu (slF p b k v x j m) (slF p b k v x j (m + 1) Q) hQ
          rw [nx] at nx2
          have gf : (tbl C (slF p b k v x j m))[Q]? = some (slF p b k v x j m Q) := tbl_get? _ hQ
          have tl1 := tl j m
          have hQ1 : Q + 1 ≤ C := hQ
          have am : ((a + m : Nat) : Int) < (y : Int) := by omega
          generalize slF p b k v x j (m + 1) Q = s2 at w2 nx2
          generalize slF p b k v x j m Q = s1 at w2 gf
          generalize x[j] = xj' at gx w1 w2
          clear tk tv tll lo nx i1 i2 nt
          repeat (first | ((first | refine X_call_fn2 rfl (by simp only [tys]) ?_ | refine X_dcall_fn2 rfl (by simp only [tys]) ?_); apply Exists.intro; apply And.intro; (focus (simp -dsimp only [simx, zzC, zzB, tys, ite_self, opnL, callB, stepOp, ofVal, opBuiltin, opLen, PV.sk, scalBin, scalUn, intBin, opLoad, natOf, opConvert, opField, cellsP, oneP, Value.oneCell', opStore, toIV, scalT, scalA, scalC, boxesA, boxesC, ↓reduceIte, Nat.reduceSub, Nat.reduceEqDiff, Nat.reduceAdd, Nat.reduceMul, Nat.reduceLT, Nat.reduceLeDiff, Int.reduceToNat, Int.reduceLE, Int.reduceLT, Int.reduceNeg, reduceCtorEq, zzL, if_true, if_false] <;> rfl)); apply Exists.intro; apply And.intro; (focus (first | exact w1 | exact w2))) | refine ⟨(by show drawK _ _ = true; kernel_rfl : drawX _ _ _), ?_⟩ | exact (by show drawK _ _ = true; kernel_rfl : drawX _ _ _) | simp -dsimp (maxSteps := 20000000) (disch := omega) only [simx, zzC, zzB, tys, ite_self, opnL, callB, stepOp, ofVal, opBuiltin, opLen, PV.sk, scalBin, scalUn, intBin, opLoad, natOf, opConvert, opField, cellsP, oneP, Value.oneCell', opStore, toIV, scalT, scalA, scalC, boxesA, boxesC, ↓reduceIte, Nat.reduceSub, Nat.reduceEqDiff, Nat.reduceAdd, Nat.reduceMul, Nat.reduceLT, Nat.reduceLeDiff, Int.reduceToNat, Int.reduceLE, Int.reduceLT, Int.reduceNeg, reduceCtorEq, gos, Int.reduceAdd, Int.reduceSub, Int.reduceMul, Int.reduceEq, cj, e6, g2, l2, am, gx, xj, gv, gk, m1, n1, hQ, hQ1, gf, tl1, nx2, List.length_map])
          refine ⟨cm, (fgt_nil), ?_, ?_⟩
          · show i64 (((a + m : Nat) : Int) + 1) = _
            rfl
          · funext c
            simp (maxSteps := 20000000) only [Heap.drop_at, rowH_app, Heap.put_at, Heap.none_at, List.mem_cons, List.not_mem_nil, or_false]
            by_cases e0 : c = (0, 0) :: base
            · subst e0; simp []
            by_cases e1 : c = (3, 2) :: base
            · subst e1; simp []
            simp [e0, e1]
        · have hm' : m = y - a := by omega
          have e7 : tbl C (slF p b k v x j m) = tbl C (slF p b k v x (j + 1) 0) := tbl_congr fun c _ => slF_all (by omega) (by omega) c
          rw [e7]
          have am : ((a + m : Nat) : Int) = (y : Int) := by omega
          rw [am]
          repeat (first | refine ⟨(by show drawK _ _ = true; kernel_rfl : drawX _ _ _), ?_⟩ | exact (by show drawK _ _ = true; kernel_rfl : drawX _ _ _) | simp -dsimp (maxSteps := 20000000) (disch := omega) only [simx, zzC, zzB, tys, ite_self, opnL, callB, stepOp, ofVal, opBuiltin, opLen, PV.sk, scalBin, scalUn, intBin, opLoad, natOf, opConvert, opField, cellsP, oneP, Value.oneCell', opStore, toIV, scalT, scalA, scalC, boxesA, boxesC, ↓reduceIte, Nat.reduceSub, Nat.reduceEqDiff, Nat.reduceAdd, Nat.reduceMul, Nat.reduceLT, Nat.reduceLeDiff, Int.reduceToNat, Int.reduceLE, Int.reduceLT, Int.reduceNeg, reduceCtorEq, gos, Int.reduceAdd, Int.reduceSub, Int.reduceMul, Int.reduceEq, cj, e6, g2, l2])
          exact ⟨cj, (fgt_nil), by first | rfl | exact drop_nil _⟩
    · obtain rfl : R = j := by omega
      have e7 : tbl C (slF p b k v x R 0) = tbl C (fun q => slS b k v x R q % p) := tbl_congr fun c _ => slF_zero ..
      rw [e7]
      have e2 : ((tbl C (fun q => slS b k v x R q % p)).map iu).take C = (tbl C (fun q => slS b k v x R q % p)).map iu := List.take_of_length_le (by rw [List.length_map, tbl_len]; exact Nat.le_refl _)
      repeat (first | refine ⟨(by show drawK _ _ = true; kernel_rfl : drawX _ _ _), ?_⟩ | exact (by show drawK _ _ = true; kernel_rfl : drawX _ _ _) | simp -dsimp (maxSteps := 20000000) (disch := omega) only [simx, zzC, zzB, tys, ite_self, opnL, callB, stepOp, ofVal, opBuiltin, opLen, PV.sk, scalBin, scalUn, intBin, opLoad, natOf, opConvert, opField, cellsP, oneP, Value.oneCell', opStore, toIV, scalT, scalA, scalC, boxesA, boxesC, ↓reduceIte, Nat.reduceSub, Nat.reduceEqDiff, Nat.reduceAdd, Nat.reduceMul, Nat.reduceLT, Nat.reduceLeDiff, Int.reduceToNat, Int.reduceLE, Int.reduceLT, Int.reduceNeg, reduceCtorEq, zzR, gos, Int.reduceAdd, Int.reduceSub, Int.reduceMul, Int.reduceEq, List.length_map, tbl_len, e2, lu])
end Go.Proofs.Ytnnkoghmglpnmaa.TM
