/- What is proved of functions, and plain facts, part 7. Conditions: none. -/
import Derived.Test.YtmalpmnmknpphaaSWitnessShows6
import Derived.Shelf.RegionOpenPlain
import Derived.WalkKit
import Derived.Deep.LoopGhost
import Derived.Lib.Walk
import Derived.Lib.SliceRun
set_option linter.defProp false
set_option linter.unusedSectionVars false
set_option linter.unusedSimpArgs false
set_option linter.unusedVariables false
namespace Go.Proofs.Ytmalpmnmknpphaa.TM
open Go Go.RowKit
attribute [local irreducible] K W WOps Effs Xg Xo Xr Xdg Xdo Xdr Xif CallsP CallR
theorem noVar_drop {b : Name} {h : Heap} {bs : List Name} (h1 : noVar b h) : noVar b (h.drop bs) := fun c cs hc => h1 c cs (drop_some hc)
def padF (r : Nat) (x : List Int) : List Int := x ++ List.replicate (r - x.length) 0
abbrev llP (L : List (List Int)) : PV := .i (.l L.length (L.map fun u => .l u.length (u.map iu)))
abbrev CupT := List Int × List Int × List (List Int) × List (List Int)
abbrev cupQ (c : CupT) : PV := .agg [li c.1, li c.2.1, llP c.2.2.1, llP c.2.2.2]
def tkCup (p : Int) (C R : Nat) (l : List Int) : CupT := ((tkN p C l R).rows, (tkN p C l R).cols, (tkN p C l R).cs.map (padF (tkN p C l R).us.length), (tkN p C l R).us)
def fP (T : Tk) (i d k : Nat) : List Int := if k < i then padF T.us.length (csF T k) else if k = i then csF T k ++ List.replicate d 0 else csF T k
theorem rowsX_zero (b : Name) (f : Nat → List Int) (c : Name) : rowsX b f 0 c = none := by
  unfold rowsX
  split
  · exact if_neg (by omega)
  · rfl
theorem tkH_T (base : Name) (P R C i : Nat) (l : List Int) (T : Tk) (f : Nat → List Int) : tkH base P R C i l T f ((3, 2) :: base) = some (.var [rowP ((16, 11) :: (7, 14) :: base) 1 T.us.length (T.rows.map ii), rowP ((16, 19) :: (7, 14) :: base) 1 T.us.length (T.cols.map ii), clmP ((10, 8) :: (7, 14) :: base) i, rowP ((16, 27) :: (7, 14) :: base) 1 T.us.length (T.us.map (lv C)), u64 P, rowP ((16, 34) :: (7, 14) :: base) 1 T.us.length (T.vs.map iu)]) := by
  have ne1 : ∀ x : Nat × Nat, base ≠ x :: base := base_ne base
  have ne2 : ∀ x : Nat × Nat, x :: base ≠ base := fun x h => base_ne base x h.symm
  simp [tkH, rowH_app, rowsH, rowsX, ne1, ne2]
theorem tkH_0 (base : Name) (P R C i : Nat) (l : List Int) (T : Tk) (f : Nat → List Int) : tkH base P R C i l T f ((0, 0) :: base) = some (.var [i64 R, i64 C, lu l]) := by
  have ne1 : ∀ x : Nat × Nat, base ≠ x :: base := base_ne base
  have ne2 : ∀ x : Nat × Nat, x :: base ≠ base := fun x h => base_ne base x h.symm
  simp [tkH, rowH_app, rowsH, rowsX, ne1, ne2, mtB]
theorem tkH_1 (base : Name) (P R C i : Nat) (l : List Int) (T : Tk) (f : Nat → List Int) : tkH base P R C i l T f ((0, 1) :: base) = some (.var [nilP, nilP, nilP, nilP]) := by
  have ne1 : ∀ x : Nat × Nat, base ≠ x :: base := base_ne base
  have ne2 : ∀ x : Nat × Nat, x :: base ≠ base := fun x h => base_ne base x h.symm
  simp [tkH, rowH_app, rowsH, rowsX, ne1, ne2, mtB]
theorem tkH_C (base : Name) (P R C i : Nat) (l : List Int) (T : Tk) (f : Nat → List Int) : tkH base P R C i l T f ((10, 8) :: (7, 14) :: base) = clmB i (crowsL ((7, 14) :: base) f i) := by
  have ne1 : ∀ x : Nat × Nat, base ≠ x :: base := base_ne base
  have ne2 : ∀ x : Nat × Nat, x :: base ≠ base := fun x h => base_ne base x h.symm
  simp [tkH, rowH_app, rowsH, rowsX, ne1, ne2, mtB]
theorem tkH_upd {base : Name} {P R C i : Nat} {l : List Int} {T : Tk} {f g : Nat → List Int} (hi : i < R) (hg : ∀ m, m ≠ i → g m = f m) (hx : (g i).length ≠ 0) :
    ((tkH base P R C R l T f).put ((900, i) :: (7, 14) :: base) (.row false ((g i).map iu))).put ((10, 8) :: (7, 14) :: base) (.var (crowsL ((7, 14) :: base) g R)) = tkH base P R C R l T g := by
  have ne1 : ∀ x : Nat × Nat, base ≠ x :: base := base_ne base
  have ne2 : ∀ x : Nat × Nat, x :: base ≠ base := fun x h => base_ne base x h.symm
  funext c
  unfold tkH
  simp only [Heap.put_at, rowH_app, rowsH]
  by_cases e1 : c = (10, 8) :: (7, 14) :: base
  · subst e1
    simp [rowsX, clmB, ne1, ne2]; omega
  by_cases e2 : c = (900, i) :: (7, 14) :: base
  · subst e2
    rw [rowsX_at hi hx]
    simp
  simp only [e1, e2, if_false]
  rw [rowsX_ne (i := i) (g := g) (m := R) e2 (fun k hk => (hg k hk).symm) (fun _ _ => Iff.rfl)]
theorem low_row {h : Heap} {s : Name} {n : Nat} {cs : List IV} (hn : cs.length = n) (hs : n ≠ 0 → h s = some (.row false cs)) : lowerCN h (rowP s 1 n cs) = some (.i (.l n cs)) := by
  rw [← lower_row (h := h) (s := s) (z := 1) (n := n) (cs := cs) (by omega) hs]
  unfold rowP
  split
  · rfl
  · rename_i h0
    show (match h s with | some (.var cs) => _ | _ => _) = _
    rw [hs h0]
theorem mapO_list {α β γ : Type} {g : β → α} {f : α → Option γ} {k : β → γ} : ∀ {l : List β}, (∀ x ∈ l, f (g x) = some (k x)) → mapO f (l.map g) = some (l.map k)
  | [], _ => rfl
  | x :: l, h => by
    rw [List.map_cons, mapO, h x (by simp), mapO_list (l := l) fun y hy => h y (by simp [hy])]
    rfl
theorem low_col {h : Heap} {s b : Name} {n : Nat} {f : Nat → List Int} (h0 : 0 < n) (hs : h s = some (.var (crowsL b f n))) (hr : ∀ k, k < n → (f k).length ≠ 0 → h ((900, k) :: b) = some (.row false ((f k).map iu))) :
    lowerCN h (.view s 0 1 n n) = some (.i (.l n ((List.range n).map fun k => .l (f k).length ((f k).map iu)))) := by
  have hm : mapO (lowerJ h) (crowsL b f n) = some ((List.range n).map fun k => IV.l (f k).length ((f k).map iu)) := by
    unfold crowsL
    refine mapO_list fun k hk => ?_
    have hk := List.mem_range.1 hk
    unfold lowerJ rowN
    rw [lower_row (by simp) (fun h1 => hr k hk h1)]
  show (match h s with | some (.var cs) => _ | _ => _) = _
  rw [hs]
  simp only [crowsL_len, Nat.mul_one, Nat.zero_add, Nat.le_refl, and_self, if_true, List.drop_zero]
  rw [List.take_of_length_le (by rw [crowsL_len]; exact Nat.le_refl _), hm]
  rfl
theorem low_cup {h : Heap} {nR nQ nC nU b : Name} {n R C : Nat} {rows cols : List Int} {us : List (List Int)} {f : Nat → List Int} (hr : rows.length = n) (hq : cols.length = n) (hu : us.length = n)
    (h1 : n ≠ 0 → h nR = some (.row false (rows.map ii))) (h2 : n ≠ 0 → h nQ = some (.row false (cols.map ii))) (h3 : n ≠ 0 → h nU = some (.row false (us.map (lv C)))) (h0 : 0 < R) (hs : h nC = some (.var (crowsL b f R)))
    (hf : ∀ k, k < R → (f k).length ≠ 0 → h ((900, k) :: b) = some (.row false ((f k).map iu))) (hul : ∀ u ∈ us, u.length = C) :
    lowerTN h (.tup [.agg [rowP nR 1 n (rows.map ii), rowP nQ 1 n (cols.map ii), .view nC 0 1 R R, rowP nU 1 n (us.map (lv C))], i64 0]) = some (.tup [cupQ (rows, cols, (List.range R).map f, us), i64 0]) := by
  have e1 := low_row (h := h) (s := nR) (n := n) (cs := rows.map ii) (by simp [hr]) h1
  have e2 := low_row (h := h) (s := nQ) (n := n) (cs := cols.map ii) (by simp [hq]) h2
  have e3 := low_row (h := h) (s := nU) (n := n) (cs := us.map (lv C)) (by simp [hu]) h3
  have e4 := low_col h0 hs hf
  have e5 : us.map (lv C) = us.map fun u => IV.l u.length (u.map iu) := List.map_congr_left fun u hm => by rw [hul u hm]
  simp only [lowerTN, lowerAN, mapO, e1, e2, e3, e4, Option.map_some]
  simp [lowerAN, lowerCN, lowerC, cupQ, llP, hr, hq, hu, e5, List.map_map, Function.comp_def]
theorem fP_cs {p : Int} {T : Tk} {C R : Nat} (I : TkI p C R T) : (List.range R).map (fP T R 0) = T.cs.map (padF T.us.length) := by
  apply List.ext_getElem?
  intro k
  rw [List.getElem?_map, List.getElem?_map]
  by_cases h : k < R
  · rw [List.getElem?_range h, List.getElem?_eq_getElem (by rw [I.cl]; exact h)]
    show some (fP T R 0 k) = some _
    unfold fP csF
    rw [if_pos h, List.getD_eq_getElem?_getD, List.getElem?_eq_getElem (by rw [I.cl]; exact h)]; rfl
  · rw [List.getElem?_eq_none (by simp; omega), List.getElem?_eq_none (by rw [I.cl]; omega)]; rfl
theorem fP_zero (T : Tk) : fP T 0 0 = csF T := by
  funext k; unfold fP
  by_cases h : k = 0
  · subst h; simp
  · rw [if_neg (by omega), if_neg h]
theorem fP_full {T : Tk} {i : Nat} : fP T i (T.us.length - (csF T i).length) = fP T (i + 1) 0 := by
  funext k; unfold fP
  by_cases h : k < i
  · rw [if_pos h, if_pos (by omega)]
  · by_cases e : k = i
    · subst e; rw [if_neg (by omega), if_pos rfl, if_pos (by omega)]; rfl
    · by_cases d : k = i + 1
      · subst d; rw [if_neg (by omega), if_neg (by omega), if_neg (by omega), if_pos rfl]; simp
      · rw [if_neg h, if_neg e, if_neg (by omega), if_neg d]
theorem fP_at {T : Tk} {i d : Nat} : fP T i d i = csF T i ++ List.replicate d 0 := by unfold fP; rw [if_neg (by omega), if_pos rfl]
theorem fP_ne {T : Tk} {i d k : Nat} (h : k ≠ i) : fP T i (d + 1) k = fP T i d k := by unfold fP; rw [if_neg h, if_neg h]
structure TkHp (h : Heap) (base : Name) (R C : Nat) (T : Tk) : Prop where
  r : T.us.length ≠ 0 → h ((16, 11) :: (7, 14) :: base) = some (.row false (T.rows.map ii))
  q : T.us.length ≠ 0 → h ((16, 19) :: (7, 14) :: base) = some (.row false (T.cols.map ii))
  u : T.us.length ≠ 0 → h ((16, 27) :: (7, 14) :: base) = some (.row false (T.us.map (lv C)))
  c : h ((10, 8) :: (7, 14) :: base) = some (.var (crowsL ((7, 14) :: base) (fP T R 0) R))
  f : ∀ k, k < R → (fP T R 0 k).length ≠ 0 → h ((900, k) :: (7, 14) :: base) = some (.row false ((fP T R 0 k).map iu))
set_option maxHeartbeats 4000000 in
theorem take_run {P R C : Nat} {l : List Int} (hP : Prm P) (M : Mt P R C l) (hin : ∀ a ∈ l, In P a) (base : Name) {T : Tk} (hT : tkN P C l R = T) : ∃ hu, CallR Try.prog base 47 [u64 P, matP R C l] Heap.none (.tup [.agg [rowP ((16, 11) :: (7, 14) :: base) 1 T.us.length (T.rows.map ii), rowP ((16, 19) :: (7, 14) :: base) 1 T.us.length (T.cols.map ii), clmP ((10, 8) :: (7, 14) :: base) R, rowP ((16, 27) :: (7, 14) :: base) 1 T.us.length (T.us.map (lv C))], i64 0]) hu ∧ TkHp hu base R C T := by
  have q1 := mright_walk P R C l (by have := M.len; have := rc_bd M.r2 M.c2; rw [mx_len]; omega)
  rw [mat_mk M] at q1
  have I := tkN_I hP M hin R (Nat.le_refl R)
  rw [hT] at I
  have r1 := M.r1
  have r2 := M.r2
  have c1 := M.c1
  have c2 := M.c2
  have ne1 : ∀ x : Nat × Nat, base ≠ x :: base := base_ne base
  have ne2 : ∀ x : Nat × Nat, x :: base ≠ base := fun x h => base_ne base x h.symm
  refine X_startE (n := 87) (m := 2) (rs := [.cell 4 55, .tmp 5]) Try.func47 rfl rfl rfl rfl (by decide) ?_
  repeat (first | ((first | refine X_call_fn2 rfl (by simp only [tys]) ?_ | refine X_dcall_fn2 rfl (by simp only [tys]) ?_); apply Exists.intro; apply And.intro; (focus (simp -dsimp only [simx, zzC, zzB, tys, ite_self, opnL, callB, callX, readsB, stepOp, nilCmp, ofVal, opBuiltin, opLen, PV.sk, scalBin, scalUn, intBin, opLoad, natOf, opConvert, opField, cellsP, oneP, Value.oneCell', opStore, toIV, scalT, scalA, scalC, boxesA, boxesC, zipB_none, zipB_mx, isZ, opZip, zeroP, opAppendZ, opMakeMap, opLookup, mboxB, opUpdate, ↓reduceIte, Nat.reduceSub, Nat.reduceEqDiff, Nat.reduceAdd, Nat.reduceMul, Nat.reduceLT, Nat.reduceLeDiff, Int.reduceToNat, Int.reduceLE, Int.reduceLT, Int.reduceNeg, reduceCtorEq, zzL, if_true, if_false] <;> rfl)); apply Exists.intro; apply And.intro; (focus (first | exact q1))) | refine X_opc rfl ?_ | refine X_dopc rfl ?_ | refine ⟨(by show drawK _ _ = true; kernel_rfl : drawX _ _ _), ?_⟩ | exact (by show drawK _ _ = true; kernel_rfl : drawX _ _ _) | simp -dsimp (maxSteps := 20000000) (disch := omega) only [simx, zzC, zzB, tys, ite_self, opnL, callB, callX, readsB, stepOp, nilCmp, ofVal, opBuiltin, opLen, PV.sk, scalBin, scalUn, intBin, opLoad, natOf, opConvert, opField, cellsP, oneP, Value.oneCell', opStore, toIV, scalT, scalA, scalC, boxesA, boxesC, zipB_none, zipB_mx, isZ, opZip, zeroP, opAppendZ, opMakeMap, opLookup, mboxB, opUpdate, ↓reduceIte, Nat.reduceSub, Nat.reduceEqDiff, Nat.reduceAdd, Nat.reduceMul, Nat.reduceLT, Nat.reduceLeDiff, Int.reduceToNat, Int.reduceLE, Int.reduceLT, Int.reduceNeg, reduceCtorEq, gos, Int.reduceAdd, Int.reduceSub, Int.reduceMul, Int.reduceEq])
  refine X_loopH [3, 4, 6, 18, 19] [(1, 1) :: (7, 14) :: base, (8, 2) :: (7, 14) :: base, (10, 7) :: (7, 14) :: base, (15, 7) :: (7, 14) :: base, (16, 10) :: (7, 14) :: base, (16, 18) :: (7, 14) :: base, (16, 26) :: (7, 14) :: base, (16, 33) :: (7, 14) :: base] (0) (R) (fun j => True) (fun j => [(18, i64 R), (19, i64 j)]) (fun j => tkH base P R C j l (tkN P C l j) (csF (tkN P C l j))) ?_ ?_ ?_ ?_ ?_ (by decide) ?_
  · intro b hb
    simp only [List.mem_cons, List.not_mem_nil, or_false] at hb
    rcases hb with rfl | rfl | rfl | rfl | rfl | rfl | rfl | rfl
    all_goals (refine ⟨rfl, ?_, noVar_drop (noVar_var (noVar_var (noVar_var (noVar_none _) (by simp [refsL, refsP])) (by simp [refsL, refsP])) (by simp [refsL, refsP]))⟩; show NotIn _ _ _; simp -dsimp only [zzB, tys, ite_self, opnL, callB, callX, readsB, stepOp, nilCmp, ofVal, opBuiltin, opLen, PV.sk, scalBin, scalUn, intBin, opLoad, natOf, opConvert, opField, cellsP, oneP, Value.oneCell', opStore, toIV, scalT, scalA, scalC, boxesA, boxesC, zipB_none, zipB_mx, isZ, opZip, zeroP, opAppendZ, opMakeMap, opLookup, mboxB, opUpdate, ↓reduceIte, Nat.reduceSub, Nat.reduceEqDiff, Nat.reduceAdd, Nat.reduceMul, Nat.reduceLT, Nat.reduceLeDiff, Int.reduceToNat, Int.reduceLE, Int.reduceLT, Int.reduceNeg, reduceCtorEq, gos, Int.reduceAdd, Int.reduceSub, Int.reduceMul, Int.reduceEq, simx, notIn_cons, notIn_nil]; simp [refsP, ne1, ne2])
  · ((simp -dsimp (disch := omega) only [simx, zzB, tys, ite_self, opnL, callB, callX, readsB, stepOp, nilCmp, ofVal, opBuiltin, opLen, PV.sk, scalBin, scalUn, intBin, opLoad, natOf, opConvert, opField, cellsP, oneP, Value.oneCell', opStore, toIV, scalT, scalA, scalC, boxesA, boxesC, zipB_none, zipB_mx, isZ, opZip, zeroP, opAppendZ, opMakeMap, opLookup, mboxB, opUpdate, ↓reduceIte, Nat.reduceSub, Nat.reduceEqDiff, Nat.reduceAdd, Nat.reduceMul, Nat.reduceLT, Nat.reduceLeDiff, Int.reduceToNat, Int.reduceLE, Int.reduceLT, Int.reduceNeg, reduceCtorEq, gos, Int.reduceAdd, Int.reduceSub, Int.reduceMul, Int.reduceEq]) <;> first | rfl | simp)
  · funext c
    have hz : ∀ c, rowsX ((7, 14) :: base) (csF (tkN P C l 0)) 0 c = none := rowsX_zero _ _
    have hl0 : crowsL ((7, 14) :: base) (csF (tkN P C l 0)) 0 = [] := rfl
    rw [Heap.drop_at]
    unfold tkH
    rw [hl0]
    simp only [tkN, rowH_app, rowsH, List.length_nil, if_true, List.map_nil, rowP_zero, clmP_zero, clmB, mtB]
    simp only [show csF ⟨[], [], [], [], []⟩ = csF (tkN P C l 0) from rfl, hz]
    simp only [Heap.put_at, Heap.none_at]
    by_cases e0 : c = (3, 2) :: base
    · subst e0; simp [ne1, ne2]
    by_cases e1 : c = (0, 1) :: base
    · subst e1; simp [ne1, ne2]
    by_cases e2 : c = (0, 0) :: base
    · subst e2; simp [ne1, ne2]
    simp [e0, e1, e2]
  · omega
  · trivial
  · intro j hj _
    by_cases cj : j < R
    · have b1 := ic_bd (c := C) cj
      have b2 := rc_bd r2 c2
      have rl := rowM_len M.len cj
      have ml := M.len
      have m1 : (j + 1) * C = j * C + C := Nat.succ_mul j C
      have f1 : IntKind.i64.wrap ((j : Int) * (C : Int)) = ((j * C : Nat) : Int) := by rw [← Int.natCast_mul]; exact iw_of (by omega) (by omega)
      have f2 : IntKind.i64.wrap (((j : Int) + 1) * (C : Int)) = ((j * C + C : Nat) : Int) := by
        rw [show ((j : Int) + 1) * (C : Int) = ((j * C + C : Nat) : Int) by rw [← m1]; push_cast; rfl]; exact iw_of (by omega) (by omega)
      have f3 : j * C + C - j * C = C := by omega
      have f4 : ((l.map iu).drop (j * C)).take C = (rowM C l j).map iu := by unfold rowM; rw [List.map_take, List.map_drop]
      have f5 : j * C ≤ j * C + C := by omega
      have f6 : j * C + C ≤ l.length := by omega
      have t0 := tkH_T base P R C j l (tkN P C l j) (csF (tkN P C l j))
      have t1 := tkH_0 base P R C j l (tkN P C l j) (csF (tkN P C l j))
      obtain ⟨h', k1, k2, k3⟩ := row_call (base := base) (R := R) (l := l) hP M.hp (tkN_I hP M hin j (by omega)) (fun a ha => hin a (rowM_mem ha)) rl (by omega) c2 (by omega)
      have tn : tkRow P (tkN P C l j) j (rowM C l j) = tkN P C l (j + 1) := rfl
      rw [tn] at k2
      generalize hh0 : tkH base P R C j l (tkN P C l j) (csF (tkN P C l j)) = h0 at t0 t1 k1
      clear M hin I hT
      repeat (first | refine X_opc rfl ?_ | refine X_dopc rfl ?_ | refine ⟨(by show drawK _ _ = true; kernel_rfl : drawX _ _ _), ?_⟩ | exact (by show drawK _ _ = true; kernel_rfl : drawX _ _ _) | simp -dsimp (maxSteps := 20000000) (disch := omega) only [simx, zzC, zzB, tys, ite_self, opnL, callB, callX, readsB, stepOp, nilCmp, ofVal, opBuiltin, opLen, PV.sk, scalBin, scalUn, intBin, opLoad, natOf, opConvert, opField, cellsP, oneP, Value.oneCell', opStore, toIV, scalT, scalA, scalC, boxesA, boxesC, zipB_none, zipB_mx, isZ, opZip, zeroP, opAppendZ, opMakeMap, opLookup, mboxB, opUpdate, ↓reduceIte, Nat.reduceSub, Nat.reduceEqDiff, Nat.reduceAdd, Nat.reduceMul, Nat.reduceLT, Nat.reduceLeDiff, Int.reduceToNat, Int.reduceLE, Int.reduceLT, Int.reduceNeg, reduceCtorEq, gos, Int.reduceAdd, Int.reduceSub, Int.reduceMul, Int.reduceEq, cj, t0, t1, f1, f2, f3, f4, f5, f6, List.length_map])
      refine X_call_sh rfl (by simp only [tys]) rfl k1 ?_
      repeat (first | refine X_opc rfl ?_ | refine X_dopc rfl ?_ | refine ⟨(by show drawK _ _ = true; kernel_rfl : drawX _ _ _), ?_⟩ | exact (by show drawK _ _ = true; kernel_rfl : drawX _ _ _) | simp -dsimp (maxSteps := 20000000) (disch := omega) only [simx, zzC, zzB, tys, ite_self, opnL, callB, callX, readsB, stepOp, nilCmp, ofVal, opBuiltin, opLen, PV.sk, scalBin, scalUn, intBin, opLoad, natOf, opConvert, opField, cellsP, oneP, Value.oneCell', opStore, toIV, scalT, scalA, scalC, boxesA, boxesC, zipB_none, zipB_mx, isZ, opZip, zeroP, opAppendZ, opMakeMap, opLookup, mboxB, opUpdate, ↓reduceIte, Nat.reduceSub, Nat.reduceEqDiff, Nat.reduceAdd, Nat.reduceMul, Nat.reduceLT, Nat.reduceLeDiff, Int.reduceToNat, Int.reduceLE, Int.reduceLT, Int.reduceNeg, reduceCtorEq, gos, Int.reduceAdd, Int.reduceSub, Int.reduceMul, Int.reduceEq])
      refine ⟨cj, ?_, rfl, k2⟩
      intro b hb
      have nvb := k3 b hb
      clear k1 k2 k3 hh0 t0 t1
      simp only [List.mem_cons, List.not_mem_nil, or_false] at hb
      rcases hb with rfl | rfl | rfl | rfl | rfl | rfl | rfl | rfl
      all_goals (refine ⟨rfl, ?_, noVar_drop nvb⟩; show NotIn _ _ _; simp -dsimp only [zzB, tys, ite_self, opnL, callB, callX, readsB, stepOp, nilCmp, ofVal, opBuiltin, opLen, PV.sk, scalBin, scalUn, intBin, opLoad, natOf, opConvert, opField, cellsP, oneP, Value.oneCell', opStore, toIV, scalT, scalA, scalC, boxesA, boxesC, zipB_none, zipB_mx, isZ, opZip, zeroP, opAppendZ, opMakeMap, opLookup, mboxB, opUpdate, ↓reduceIte, Nat.reduceSub, Nat.reduceEqDiff, Nat.reduceAdd, Nat.reduceMul, Nat.reduceLT, Nat.reduceLeDiff, Int.reduceToNat, Int.reduceLE, Int.reduceLT, Int.reduceNeg, reduceCtorEq, gos, Int.reduceAdd, Int.reduceSub, Int.reduceMul, Int.reduceEq, simx, notIn_cons, notIn_nil]; simp [refsP, ne1, ne2])
    · have ej : R = j := by omega
      subst ej
      rw [hT, ← fP_zero T]
      have t0 := fun i d => tkH_T base P R C R l T (fP T i d)
      have tC := fun i d => tkH_C base P R C R l T (fP T i d)
      have cp : clmP ((10, 8) :: (7, 14) :: base) R = .view ((10, 8) :: (7, 14) :: base) 0 1 R R := if_neg (by omega)
      have cb : ∀ L, clmB R L = some (.var L) := fun L => if_neg (by omega)
      simp only [cp] at t0
      simp only [cb] at tC
      repeat (first | refine X_opc rfl ?_ | refine X_dopc rfl ?_ | refine ⟨(by show drawK _ _ = true; kernel_rfl : drawX _ _ _), ?_⟩ | exact (by show drawK _ _ = true; kernel_rfl : drawX _ _ _) | simp -dsimp (maxSteps := 20000000) (disch := omega) only [simx, zzC, zzB, tys, ite_self, opnL, callB, callX, readsB, stepOp, nilCmp, ofVal, opBuiltin, opLen, PV.sk, scalBin, scalUn, intBin, opLoad, natOf, opConvert, opField, cellsP, oneP, Value.oneCell', opStore, toIV, scalT, scalA, scalC, boxesA, boxesC, zipB_none, zipB_mx, isZ, opZip, zeroP, opAppendZ, opMakeMap, opLookup, mboxB, opUpdate, ↓reduceIte, Nat.reduceSub, Nat.reduceEqDiff, Nat.reduceAdd, Nat.reduceMul, Nat.reduceLT, Nat.reduceLeDiff, Int.reduceToNat, Int.reduceLE, Int.reduceLT, Int.reduceNeg, reduceCtorEq, gos, Int.reduceAdd, Int.reduceSub, Int.reduceMul, Int.reduceEq, t0])
      refine X_loopH [4, 6, 45, 46] [(14, 14) :: base] (0) (R) (fun j => True) (fun j => [(45, i64 R), (46, i64 j)]) (fun j => tkH base P R C R l T (fP T j 0)) ?_ ?_ ?_ ?_ ?_ (by decide) ?_
      · refine fgt_cons rfl (by simp -dsimp only [zzB, tys, ite_self, opnL, callB, callX, readsB, stepOp, nilCmp, ofVal, opBuiltin, opLen, PV.sk, scalBin, scalUn, intBin, opLoad, natOf, opConvert, opField, cellsP, oneP, Value.oneCell', opStore, toIV, scalT, scalA, scalC, boxesA, boxesC, zipB_none, zipB_mx, isZ, opZip, zeroP, opAppendZ, opMakeMap, opLookup, mboxB, opUpdate, ↓reduceIte, Nat.reduceSub, Nat.reduceEqDiff, Nat.reduceAdd, Nat.reduceMul, Nat.reduceLT, Nat.reduceLeDiff, Int.reduceToNat, Int.reduceLE, Int.reduceLT, Int.reduceNeg, reduceCtorEq, gos, Int.reduceAdd, Int.reduceSub, Int.reduceMul, Int.reduceEq, simx, notIn_cons, notIn_nil] <;> simp [refsP]) (nv_tk ?_ ?_ ?_ ?_ ?_ ?_) fgt_nil <;> simp [ne1, ne2]
      · repeat (first | refine X_opc rfl ?_ | refine X_dopc rfl ?_ | refine ⟨(by show drawK _ _ = true; kernel_rfl : drawX _ _ _), ?_⟩ | exact (by show drawK _ _ = true; kernel_rfl : drawX _ _ _) | simp -dsimp (maxSteps := 20000000) (disch := omega) only [simx, zzC, zzB, tys, ite_self, opnL, callB, callX, readsB, stepOp, nilCmp, ofVal, opBuiltin, opLen, PV.sk, scalBin, scalUn, intBin, opLoad, natOf, opConvert, opField, cellsP, oneP, Value.oneCell', opStore, toIV, scalT, scalA, scalC, boxesA, boxesC, zipB_none, zipB_mx, isZ, opZip, zeroP, opAppendZ, opMakeMap, opLookup, mboxB, opUpdate, ↓reduceIte, Nat.reduceSub, Nat.reduceEqDiff, Nat.reduceAdd, Nat.reduceMul, Nat.reduceLT, Nat.reduceLeDiff, Int.reduceToNat, Int.reduceLE, Int.reduceLT, Int.reduceNeg, reduceCtorEq, gos, Int.reduceAdd, Int.reduceSub, Int.reduceMul, Int.reduceEq])
        exact ⟨rfl, rfl⟩
      · funext c
        rw [Heap.drop_at]
        split
        · rename_i e
          rw [List.mem_singleton.1 e]
          simp [tkH, rowH_app, rowsH, rowsX, ne1, ne2]
        · rfl
      · omega
      · trivial
      · intro i hi _
        by_cases ci : i < R
        · repeat (first | refine X_opc rfl ?_ | refine X_dopc rfl ?_ | refine ⟨(by show drawK _ _ = true; kernel_rfl : drawX _ _ _), ?_⟩ | exact (by show drawK _ _ = true; kernel_rfl : drawX _ _ _) | simp -dsimp (maxSteps := 20000000) (disch := omega) only [simx, zzC, zzB, tys, ite_self, opnL, callB, callX, readsB, stepOp, nilCmp, ofVal, opBuiltin, opLen, PV.sk, scalBin, scalUn, intBin, opLoad, natOf, opConvert, opField, cellsP, oneP, Value.oneCell', opStore, toIV, scalT, scalA, scalC, boxesA, boxesC, zipB_none, zipB_mx, isZ, opZip, zeroP, opAppendZ, opMakeMap, opLookup, mboxB, opUpdate, ↓reduceIte, Nat.reduceSub, Nat.reduceEqDiff, Nat.reduceAdd, Nat.reduceMul, Nat.reduceLT, Nat.reduceLeDiff, Int.reduceToNat, Int.reduceLE, Int.reduceLT, Int.reduceNeg, reduceCtorEq, gos, Int.reduceAdd, Int.reduceSub, Int.reduceMul, Int.reduceEq, ci])
          refine X_loopH [4, 6, 8, 45, 46] [(14, 14) :: base] (0) (T.us.length - (csF T i).length) (fun j => True) (fun j => [(8, i64 i)]) (fun j => tkH base P R C R l T (fP T i j)) ?_ ?_ ?_ ?_ ?_ (by decide) ?_
          · refine fgt_cons rfl (by simp -dsimp only [zzB, tys, ite_self, opnL, callB, callX, readsB, stepOp, nilCmp, ofVal, opBuiltin, opLen, PV.sk, scalBin, scalUn, intBin, opLoad, natOf, opConvert, opField, cellsP, oneP, Value.oneCell', opStore, toIV, scalT, scalA, scalC, boxesA, boxesC, zipB_none, zipB_mx, isZ, opZip, zeroP, opAppendZ, opMakeMap, opLookup, mboxB, opUpdate, ↓reduceIte, Nat.reduceSub, Nat.reduceEqDiff, Nat.reduceAdd, Nat.reduceMul, Nat.reduceLT, Nat.reduceLeDiff, Int.reduceToNat, Int.reduceLE, Int.reduceLT, Int.reduceNeg, reduceCtorEq, gos, Int.reduceAdd, Int.reduceSub, Int.reduceMul, Int.reduceEq, simx, notIn_cons, notIn_nil] <;> simp [refsP]) (nv_tk ?_ ?_ ?_ ?_ ?_ ?_) fgt_nil <;> simp [ne1, ne2]
          · ((simp -dsimp (disch := omega) only [simx, zzB, tys, ite_self, opnL, callB, callX, readsB, stepOp, nilCmp, ofVal, opBuiltin, opLen, PV.sk, scalBin, scalUn, intBin, opLoad, natOf, opConvert, opField, cellsP, oneP, Value.oneCell', opStore, toIV, scalT, scalA, scalC, boxesA, boxesC, zipB_none, zipB_mx, isZ, opZip, zeroP, opAppendZ, opMakeMap, opLookup, mboxB, opUpdate, ↓reduceIte, Nat.reduceSub, Nat.reduceEqDiff, Nat.reduceAdd, Nat.reduceMul, Nat.reduceLT, Nat.reduceLeDiff, Int.reduceToNat, Int.reduceLE, Int.reduceLT, Int.reduceNeg, reduceCtorEq, gos, Int.reduceAdd, Int.reduceSub, Int.reduceMul, Int.reduceEq]) <;> first | rfl | simp)
          · funext c
            rw [Heap.drop_at]
            split
            · rename_i e
              rw [List.mem_singleton.1 e]
              simp [tkH, rowH_app, rowsH, rowsX, ne1, ne2]
            · rfl
          · omega
          · trivial
          · intro j hj _
            by_cases cj : j < T.us.length - (csF T i).length
            · have ru : rowP ((16, 27) :: (7, 14) :: base) 1 T.us.length (T.us.map (lv C)) = .view ((16, 27) :: (7, 14) :: base) 0 1 T.us.length T.us.length := by unfold rowP; rw [if_neg (by omega), List.length_map]
              have t1 := t0 i j
              have tc := tC i j
              have g1 := rowsL_get (b := (7, 14) :: base) (f := fP T i j) ci
              have rI := I.ri
              have xl : (fP T i j i).length = (csF T i).length + j := by rw [fP_at]; simp
              have xn : fP T i (j + 1) i = fP T i j i ++ [0] := by rw [fP_at, fP_at, List.replicate_succ', List.append_assoc]
              have rp := rowsL_put (b := (7, 14) :: base) (f := fP T i j) (g := fP T i (j + 1)) ci (fun m hm => fP_ne hm)
              have hu := tkH_upd (base := base) (P := P) (C := C) (l := l) (T := T) (f := fP T i j) (g := fP T i (j + 1)) ci (fun m hm => fP_ne hm) (by rw [xn]; simp)
              unfold rowN at g1 rp
              rw [xn] at rp hu
              have hX : (fP T i j i).length ≠ 0 → tkH base P R C R l T (fP T i j) ((900, i) :: (7, 14) :: base) = some (.row false ((fP T i j i).map iu)) := fun h => by
                unfold tkH
                simp only [rowH_app, rowsH, rowsX_at ci h]
                simp
              have hX0 : (fP T i j i).length = 0 → tkH base P R C R l T (fP T i j) ((900, i) :: (7, 14) :: base) = none := fun h => by
                unfold tkH
                simp only [rowH_app, rowsH, rowsX_nil h]
                simp [ne1, ne2]
              have h14 : tkH base P R C R l T (fP T i j) ((14, 14) :: base) = none := by
                unfold tkH
                simp [rowH_app, rowsH, rowsX, ne1, ne2]
              have cl : ((fP T i j i).length : Int) < (T.us.length : Int) := by omega
              have ile : i + 1 ≤ R := ci
              have ll := crowsL_len ((7, 14) :: base) (fP T i j) R
              have nvh : noVar ((14, 14) :: base) (tkH base P R C R l T (fP T i j)) := nv_tk (by simp [ne1, ne2]) (by simp [ne1, ne2]) (by simp [ne1, ne2]) (by simp [ne1, ne2]) (by simp [ne1, ne2]) (by simp [ne1, ne2])
              have nvl : (14, 14) :: base ∉ refsL (crowsL ((7, 14) :: base) (fP T i (j + 1)) R) := fun h => by
                obtain ⟨k, hk⟩ := mem_rowsL h
                simp at hk
              generalize hh : tkH base P R C R l T (fP T i j) = h0 at t1 tc hu hX hX0 h14 nvh
              generalize fP T i j i = X at g1 rp hu hX hX0 xl cl
              generalize crowsL ((7, 14) :: base) (fP T i j) R = RL at g1 rp tc ll
              generalize T.us.length = r at *
              rcases hn : X.length with _ | m
              · rw [hn] at g1 cl
                have Xe : X = [] := List.eq_nil_of_length_eq_zero hn
                subst Xe
                have hX0 := hX0 rfl
                rw [rowP_zero] at g1
                simp only [List.nil_append, List.length_singleton, List.map_cons, List.map_nil] at rp hu
                rw [show rowP ((900, i) :: (7, 14) :: base) 1 1 [iu 0] = .view ((900, i) :: (7, 14) :: base) 0 1 1 1 from rfl] at rp
                repeat (first | refine ⟨(by show drawK _ _ = true; kernel_rfl : drawX _ _ _), ?_⟩ | exact (by show drawK _ _ = true; kernel_rfl : drawX _ _ _) | simp -dsimp (maxSteps := 20000000) (disch := omega) only [simx, zzC, zzB, tys, ite_self, opnL, callB, callX, readsB, stepOp, nilCmp, ofVal, opBuiltin, opLen, PV.sk, scalBin, scalUn, intBin, opLoad, natOf, opConvert, opField, cellsP, oneP, Value.oneCell', opStore, toIV, scalT, scalA, scalC, boxesA, boxesC, zipB_none, zipB_mx, isZ, opZip, zeroP, opAppendZ, opMakeMap, opLookup, mboxB, opUpdate, ↓reduceIte, Nat.reduceSub, Nat.reduceEqDiff, Nat.reduceAdd, Nat.reduceMul, Nat.reduceLT, Nat.reduceLeDiff, Int.reduceToNat, Int.reduceLE, Int.reduceLT, Int.reduceNeg, reduceCtorEq, gos, Int.reduceAdd, Int.reduceSub, Int.reduceMul, Int.reduceEq, t1, tc, g1, ci, ru, cl, ll, SK.len])
                refine X_dopc rfl ?_
                repeat (first | refine ⟨(by show drawK _ _ = true; kernel_rfl : drawX _ _ _), ?_⟩ | exact (by show drawK _ _ = true; kernel_rfl : drawX _ _ _) | simp -dsimp (maxSteps := 20000000) (disch := omega) only [simx, zzC, zzB, tys, ite_self, opnL, callB, callX, readsB, stepOp, nilCmp, ofVal, opBuiltin, opLen, PV.sk, scalBin, scalUn, intBin, opLoad, natOf, opConvert, opField, cellsP, oneP, Value.oneCell', opStore, toIV, scalT, scalA, scalC, boxesA, boxesC, zipB_none, zipB_mx, isZ, opZip, zeroP, opAppendZ, opMakeMap, opLookup, mboxB, opUpdate, ↓reduceIte, Nat.reduceSub, Nat.reduceEqDiff, Nat.reduceAdd, Nat.reduceMul, Nat.reduceLT, Nat.reduceLeDiff, Int.reduceToNat, Int.reduceLE, Int.reduceLT, Int.reduceNeg, reduceCtorEq, gos, Int.reduceAdd, Int.reduceSub, Int.reduceMul, Int.reduceEq, h14])
                refine X_dopn ((900, i) :: (7, 14) :: base) rfl ?_
                repeat (first | refine ⟨(by show drawK _ _ = true; kernel_rfl : drawX _ _ _), ?_⟩ | exact (by show drawK _ _ = true; kernel_rfl : drawX _ _ _) | simp -dsimp (maxSteps := 20000000) (disch := omega) only [simx, zzC, zzB, tys, ite_self, opnL, callB, callX, readsB, stepOp, nilCmp, ofVal, opBuiltin, opLen, PV.sk, scalBin, scalUn, intBin, opLoad, natOf, opConvert, opField, cellsP, oneP, Value.oneCell', opStore, toIV, scalT, scalA, scalC, boxesA, boxesC, zipB_none, zipB_mx, isZ, opZip, zeroP, opAppendZ, opMakeMap, opLookup, mboxB, opUpdate, ↓reduceIte, Nat.reduceSub, Nat.reduceEqDiff, Nat.reduceAdd, Nat.reduceMul, Nat.reduceLT, Nat.reduceLeDiff, Int.reduceToNat, Int.reduceLE, Int.reduceLT, Int.reduceNeg, reduceCtorEq, gos, Int.reduceAdd, Int.reduceSub, Int.reduceMul, Int.reduceEq])
                refine X_dappend_one (s := (900, i) :: (7, 14) :: base) (n := 0) (z := 1) (cs := []) 22 [.int .u64 0] [iu 0] (by simp only [tys]) (by simp only [tys]) rfl (by decide) rfl (by simp [Heap.put_at]; exact hX0) (by simp [Heap.put_at]; rfl) rfl (by simp only [tys]; omega) (by rw [mx_len]; omega) ?_
                rw [rowP_succ]
                repeat (first | refine ⟨(by show drawK _ _ = true; kernel_rfl : drawX _ _ _), ?_⟩ | exact (by show drawK _ _ = true; kernel_rfl : drawX _ _ _) | simp -dsimp (maxSteps := 20000000) (disch := omega) only [simx, zzC, zzB, tys, ite_self, opnL, callB, callX, readsB, stepOp, nilCmp, ofVal, opBuiltin, opLen, PV.sk, scalBin, scalUn, intBin, opLoad, natOf, opConvert, opField, cellsP, oneP, Value.oneCell', opStore, toIV, scalT, scalA, scalC, boxesA, boxesC, zipB_none, zipB_mx, isZ, opZip, zeroP, opAppendZ, opMakeMap, opLookup, mboxB, opUpdate, ↓reduceIte, Nat.reduceSub, Nat.reduceEqDiff, Nat.reduceAdd, Nat.reduceMul, Nat.reduceLT, Nat.reduceLeDiff, Int.reduceToNat, Int.reduceLE, Int.reduceLT, Int.reduceNeg, reduceCtorEq, gos, Int.reduceAdd, Int.reduceSub, Int.reduceMul, Int.reduceEq, t1, tc, ci, ile, ll, rp, List.nil_append])
                refine ⟨cj, fgt_cons rfl (by simp -dsimp only [zzB, tys, ite_self, opnL, callB, callX, readsB, stepOp, nilCmp, ofVal, opBuiltin, opLen, PV.sk, scalBin, scalUn, intBin, opLoad, natOf, opConvert, opField, cellsP, oneP, Value.oneCell', opStore, toIV, scalT, scalA, scalC, boxesA, boxesC, zipB_none, zipB_mx, isZ, opZip, zeroP, opAppendZ, opMakeMap, opLookup, mboxB, opUpdate, ↓reduceIte, Nat.reduceSub, Nat.reduceEqDiff, Nat.reduceAdd, Nat.reduceMul, Nat.reduceLT, Nat.reduceLeDiff, Int.reduceToNat, Int.reduceLE, Int.reduceLT, Int.reduceNeg, reduceCtorEq, gos, Int.reduceAdd, Int.reduceSub, Int.reduceMul, Int.reduceEq, simx, notIn_cons, notIn_nil] <;> simp [refsP]) (noVar_var (noVar_row (noVar_row nvh)) nvl) fgt_nil, ?_⟩
                rw [← hu]
                funext c
                simp (maxSteps := 20000000) only [Heap.drop_at, rowH_app, Heap.put_at, Heap.none_at, List.mem_cons, List.not_mem_nil, or_false]
                by_cases e0 : c = (14, 14) :: base
                · subst e0; simp [h14]
                by_cases e1 : c = (900, i) :: (7, 14) :: base
                · subst e1; simp [h14]
                by_cases e2 : c = (10, 8) :: (7, 14) :: base
                · subst e2; simp [h14]
                simp [e0, e1, e2, h14]
              · rw [hn] at g1 cl
                have hX := hX (by omega)
                rw [rowP_succ, List.length_map, hn] at g1
                rw [List.length_append, hn, List.length_singleton, rowP_succ, List.length_map, List.length_append, hn, List.length_singleton] at rp
                repeat (first | refine ⟨(by show drawK _ _ = true; kernel_rfl : drawX _ _ _), ?_⟩ | exact (by show drawK _ _ = true; kernel_rfl : drawX _ _ _) | simp -dsimp (maxSteps := 20000000) (disch := omega) only [simx, zzC, zzB, tys, ite_self, opnL, callB, callX, readsB, stepOp, nilCmp, ofVal, opBuiltin, opLen, PV.sk, scalBin, scalUn, intBin, opLoad, natOf, opConvert, opField, cellsP, oneP, Value.oneCell', opStore, toIV, scalT, scalA, scalC, boxesA, boxesC, zipB_none, zipB_mx, isZ, opZip, zeroP, opAppendZ, opMakeMap, opLookup, mboxB, opUpdate, ↓reduceIte, Nat.reduceSub, Nat.reduceEqDiff, Nat.reduceAdd, Nat.reduceMul, Nat.reduceLT, Nat.reduceLeDiff, Int.reduceToNat, Int.reduceLE, Int.reduceLT, Int.reduceNeg, reduceCtorEq, gos, Int.reduceAdd, Int.reduceSub, Int.reduceMul, Int.reduceEq, t1, tc, g1, ci, ru, cl, ll, SK.len])
                refine X_dopc rfl ?_
                repeat (first | refine ⟨(by show drawK _ _ = true; kernel_rfl : drawX _ _ _), ?_⟩ | exact (by show drawK _ _ = true; kernel_rfl : drawX _ _ _) | simp -dsimp (maxSteps := 20000000) (disch := omega) only [simx, zzC, zzB, tys, ite_self, opnL, callB, callX, readsB, stepOp, nilCmp, ofVal, opBuiltin, opLen, PV.sk, scalBin, scalUn, intBin, opLoad, natOf, opConvert, opField, cellsP, oneP, Value.oneCell', opStore, toIV, scalT, scalA, scalC, boxesA, boxesC, zipB_none, zipB_mx, isZ, opZip, zeroP, opAppendZ, opMakeMap, opLookup, mboxB, opUpdate, ↓reduceIte, Nat.reduceSub, Nat.reduceEqDiff, Nat.reduceAdd, Nat.reduceMul, Nat.reduceLT, Nat.reduceLeDiff, Int.reduceToNat, Int.reduceLE, Int.reduceLT, Int.reduceNeg, reduceCtorEq, gos, Int.reduceAdd, Int.reduceSub, Int.reduceMul, Int.reduceEq, h14])
                refine X_dopc rfl ?_
                repeat (first | refine ⟨(by show drawK _ _ = true; kernel_rfl : drawX _ _ _), ?_⟩ | exact (by show drawK _ _ = true; kernel_rfl : drawX _ _ _) | simp -dsimp (maxSteps := 20000000) (disch := omega) only [simx, zzC, zzB, tys, ite_self, opnL, callB, callX, readsB, stepOp, nilCmp, ofVal, opBuiltin, opLen, PV.sk, scalBin, scalUn, intBin, opLoad, natOf, opConvert, opField, cellsP, oneP, Value.oneCell', opStore, toIV, scalT, scalA, scalC, boxesA, boxesC, zipB_none, zipB_mx, isZ, opZip, zeroP, opAppendZ, opMakeMap, opLookup, mboxB, opUpdate, ↓reduceIte, Nat.reduceSub, Nat.reduceEqDiff, Nat.reduceAdd, Nat.reduceMul, Nat.reduceLT, Nat.reduceLeDiff, Int.reduceToNat, Int.reduceLE, Int.reduceLT, Int.reduceNeg, reduceCtorEq, gos, Int.reduceAdd, Int.reduceSub, Int.reduceMul, Int.reduceEq])
                refine X_dappend_own (z := 1) (cs := X.map iu) 22 [.int .u64 0] [iu 0] (by simp only [tys]) (by simp only [tys]) rfl (by decide) (by simp [Heap.put_at]; exact hX) (by simp [hn]) (by simp [hn]) (by simp [Heap.put_at]; rfl) rfl (by simp only [tys]; omega) (by rw [mx_len]; omega) ?_
                have la : (X.map iu ++ [iu 0]).length = m + 1 + 1 := by simp [hn]
                have lm : X.map iu ++ [iu 0] = (X ++ [0]).map iu := by simp
                rw [la, lm]
                repeat (first | refine ⟨(by show drawK _ _ = true; kernel_rfl : drawX _ _ _), ?_⟩ | exact (by show drawK _ _ = true; kernel_rfl : drawX _ _ _) | simp -dsimp (maxSteps := 20000000) (disch := omega) only [simx, zzC, zzB, tys, ite_self, opnL, callB, callX, readsB, stepOp, nilCmp, ofVal, opBuiltin, opLen, PV.sk, scalBin, scalUn, intBin, opLoad, natOf, opConvert, opField, cellsP, oneP, Value.oneCell', opStore, toIV, scalT, scalA, scalC, boxesA, boxesC, zipB_none, zipB_mx, isZ, opZip, zeroP, opAppendZ, opMakeMap, opLookup, mboxB, opUpdate, ↓reduceIte, Nat.reduceSub, Nat.reduceEqDiff, Nat.reduceAdd, Nat.reduceMul, Nat.reduceLT, Nat.reduceLeDiff, Int.reduceToNat, Int.reduceLE, Int.reduceLT, Int.reduceNeg, reduceCtorEq, gos, Int.reduceAdd, Int.reduceSub, Int.reduceMul, Int.reduceEq, t1, tc, ci, ile, ll, rp])
                refine ⟨cj, fgt_cons rfl (by simp -dsimp only [zzB, tys, ite_self, opnL, callB, callX, readsB, stepOp, nilCmp, ofVal, opBuiltin, opLen, PV.sk, scalBin, scalUn, intBin, opLoad, natOf, opConvert, opField, cellsP, oneP, Value.oneCell', opStore, toIV, scalT, scalA, scalC, boxesA, boxesC, zipB_none, zipB_mx, isZ, opZip, zeroP, opAppendZ, opMakeMap, opLookup, mboxB, opUpdate, ↓reduceIte, Nat.reduceSub, Nat.reduceEqDiff, Nat.reduceAdd, Nat.reduceMul, Nat.reduceLT, Nat.reduceLeDiff, Int.reduceToNat, Int.reduceLE, Int.reduceLT, Int.reduceNeg, reduceCtorEq, gos, Int.reduceAdd, Int.reduceSub, Int.reduceMul, Int.reduceEq, simx, notIn_cons, notIn_nil] <;> simp [refsP]) (noVar_var (noVar_row (noVar_row nvh)) nvl) fgt_nil, ?_⟩
                rw [← hu]
                funext c
                simp (maxSteps := 20000000) only [Heap.drop_at, rowH_app, Heap.put_at, Heap.none_at, List.mem_cons, List.not_mem_nil, or_false]
                by_cases e0 : c = (14, 14) :: base
                · subst e0; simp [h14]
                by_cases e1 : c = (900, i) :: (7, 14) :: base
                · subst e1; simp [h14]
                by_cases e2 : c = (10, 8) :: (7, 14) :: base
                · subst e2; simp [h14]
                simp [e0, e1, e2, h14]
            · have ej : j = T.us.length - (csF T i).length := by omega
              have ic := (I.cb (csF T i) (by unfold csF; rw [List.getD_eq_getElem?_getD, List.getElem?_eq_getElem (by rw [I.cl]; exact ci)]; exact List.getElem_mem _)).1
              have xl : (fP T i j i).length = T.us.length := by rw [fP_at]; simp; omega
              have t1 := t0 i j
              have tc := tC i j
              have g1 := rowsL_get (b := (7, 14) :: base) (f := fP T i j) ci
              unfold rowN at g1
              rw [xl] at g1
              have hend : tkH base P R C R l T (fP T i j) = tkH base P R C R l T (fP T (i + 1) 0) := by rw [ej, fP_full]
              have h14 : tkH base P R C R l T (fP T i j) ((14, 14) :: base) = none := by
                unfold tkH
                simp [rowH_app, rowsH, rowsX, ne1, ne2]
              have nvh : noVar ((14, 14) :: base) (tkH base P R C R l T (fP T i j)) := nv_tk (by simp [ne1, ne2]) (by simp [ne1, ne2]) (by simp [ne1, ne2]) (by simp [ne1, ne2]) (by simp [ne1, ne2]) (by simp [ne1, ne2])
              have ll := crowsL_len ((7, 14) :: base) (fP T i j) R
              generalize tkH base P R C R l T (fP T i j) = h0 at t1 tc h14 nvh hend ⊢
              rcases hr : T.us.length with _ | r
              · rw [hr] at t1 g1
                have nlt : ¬ (((0 : Nat) : Int) < ((0 : Nat) : Int)) := by omega
                repeat (first | refine X_opc rfl ?_ | refine X_dopc rfl ?_ | refine ⟨(by show drawK _ _ = true; kernel_rfl : drawX _ _ _), ?_⟩ | exact (by show drawK _ _ = true; kernel_rfl : drawX _ _ _) | simp -dsimp (maxSteps := 20000000) (disch := omega) only [simx, zzC, zzB, tys, ite_self, opnL, callB, callX, readsB, stepOp, nilCmp, ofVal, opBuiltin, opLen, PV.sk, scalBin, scalUn, intBin, opLoad, natOf, opConvert, opField, cellsP, oneP, Value.oneCell', opStore, toIV, scalT, scalA, scalC, boxesA, boxesC, zipB_none, zipB_mx, isZ, opZip, zeroP, opAppendZ, opMakeMap, opLookup, mboxB, opUpdate, ↓reduceIte, Nat.reduceSub, Nat.reduceEqDiff, Nat.reduceAdd, Nat.reduceMul, Nat.reduceLT, Nat.reduceLeDiff, Int.reduceToNat, Int.reduceLE, Int.reduceLT, Int.reduceNeg, reduceCtorEq, gos, Int.reduceAdd, Int.reduceSub, Int.reduceMul, Int.reduceEq, t1, tc, g1, ci, ll, rowP_zero, SK.len, nlt])
                refine ⟨ci, fgt_cons rfl (by simp -dsimp only [zzB, tys, ite_self, opnL, callB, callX, readsB, stepOp, nilCmp, ofVal, opBuiltin, opLen, PV.sk, scalBin, scalUn, intBin, opLoad, natOf, opConvert, opField, cellsP, oneP, Value.oneCell', opStore, toIV, scalT, scalA, scalC, boxesA, boxesC, zipB_none, zipB_mx, isZ, opZip, zeroP, opAppendZ, opMakeMap, opLookup, mboxB, opUpdate, ↓reduceIte, Nat.reduceSub, Nat.reduceEqDiff, Nat.reduceAdd, Nat.reduceMul, Nat.reduceLT, Nat.reduceLeDiff, Int.reduceToNat, Int.reduceLE, Int.reduceLT, Int.reduceNeg, reduceCtorEq, gos, Int.reduceAdd, Int.reduceSub, Int.reduceMul, Int.reduceEq, simx, notIn_cons, notIn_nil] <;> simp [refsP]) nvh fgt_nil, rfl, ?_⟩
                rw [← hend]
                funext c
                rw [Heap.drop_at]
                split
                · rename_i e
                  rw [List.mem_singleton.1 e, h14]
                · rfl
              · rw [hr] at t1 g1
                have nlt : ¬ (((r + 1 : Nat) : Int) < ((r + 1 : Nat) : Int)) := by omega
                repeat (first | refine X_opc rfl ?_ | refine X_dopc rfl ?_ | refine ⟨(by show drawK _ _ = true; kernel_rfl : drawX _ _ _), ?_⟩ | exact (by show drawK _ _ = true; kernel_rfl : drawX _ _ _) | simp -dsimp (maxSteps := 20000000) (disch := omega) only [simx, zzC, zzB, tys, ite_self, opnL, callB, callX, readsB, stepOp, nilCmp, ofVal, opBuiltin, opLen, PV.sk, scalBin, scalUn, intBin, opLoad, natOf, opConvert, opField, cellsP, oneP, Value.oneCell', opStore, toIV, scalT, scalA, scalC, boxesA, boxesC, zipB_none, zipB_mx, isZ, opZip, zeroP, opAppendZ, opMakeMap, opLookup, mboxB, opUpdate, ↓reduceIte, Nat.reduceSub, Nat.reduceEqDiff, Nat.reduceAdd, Nat.reduceMul, Nat.reduceLT, Nat.reduceLeDiff, Int.reduceToNat, Int.reduceLE, Int.reduceLT, Int.reduceNeg, reduceCtorEq, gos, Int.reduceAdd, Int.reduceSub, Int.reduceMul, Int.reduceEq, t1, tc, g1, ci, ll, rowP_succ, SK.len, nlt])
                refine ⟨ci, fgt_cons rfl (by simp -dsimp only [zzB, tys, ite_self, opnL, callB, callX, readsB, stepOp, nilCmp, ofVal, opBuiltin, opLen, PV.sk, scalBin, scalUn, intBin, opLoad, natOf, opConvert, opField, cellsP, oneP, Value.oneCell', opStore, toIV, scalT, scalA, scalC, boxesA, boxesC, zipB_none, zipB_mx, isZ, opZip, zeroP, opAppendZ, opMakeMap, opLookup, mboxB, opUpdate, ↓reduceIte, Nat.reduceSub, Nat.reduceEqDiff, Nat.reduceAdd, Nat.reduceMul, Nat.reduceLT, Nat.reduceLeDiff, Int.reduceToNat, Int.reduceLE, Int.reduceLT, Int.reduceNeg, reduceCtorEq, gos, Int.reduceAdd, Int.reduceSub, Int.reduceMul, Int.reduceEq, simx, notIn_cons, notIn_nil] <;> simp [refsP]) nvh fgt_nil, rfl, ?_⟩
                rw [← hend]
                funext c
                rw [Heap.drop_at]
                split
                · rename_i e
                  rw [List.mem_singleton.1 e, h14]
                · rfl
        · have ej : R = i := by omega
          subst ej
          have t1 := t0 R 0
          have t2 := tkH_1 base P R C R l T (fP T R 0)
          have fin : ∀ (x : Box), TkHp ((tkH base P R C R l T (fP T R 0)).put ((0, 1) :: base) x) base R C T := by
            intro x
            refine ⟨fun h => ?_, fun h => ?_, fun h => ?_, ?_, fun k hk h => ?_⟩
            · simp [tkH, Heap.put_at, rowH_app, rowsH, rowsX, ne1, ne2]; intro h2; exact absurd (by rw [h2]; rfl) h
            · simp [tkH, Heap.put_at, rowH_app, rowsH, rowsX, ne1, ne2]; intro h2; exact absurd (by rw [h2]; rfl) h
            · simp [tkH, Heap.put_at, rowH_app, rowsH, rowsX, ne1, ne2]; intro h2; exact absurd (by rw [h2]; rfl) h
            · simp only [Heap.put_at]; rw [if_neg (by simp)]; exact tC R 0
            · simp only [Heap.put_at]; rw [if_neg (by simp)]
              unfold tkH
              simp only [rowH_app, rowsH, rowsX_at hk h]
              simp
          rcases hr : T.us.length with _ | r
          · rw [hr] at t1
            repeat (first | refine X_opc rfl ?_ | refine X_dopc rfl ?_ | refine ⟨(by show drawK _ _ = true; kernel_rfl : drawX _ _ _), ?_⟩ | exact (by show drawK _ _ = true; kernel_rfl : drawX _ _ _) | simp -dsimp (maxSteps := 20000000) (disch := omega) only [simx, zzC, zzB, tys, ite_self, opnL, callB, callX, readsB, stepOp, nilCmp, ofVal, opBuiltin, opLen, PV.sk, scalBin, scalUn, intBin, opLoad, natOf, opConvert, opField, cellsP, oneP, Value.oneCell', opStore, toIV, scalT, scalA, scalC, boxesA, boxesC, zipB_none, zipB_mx, isZ, opZip, zeroP, opAppendZ, opMakeMap, opLookup, mboxB, opUpdate, ↓reduceIte, Nat.reduceSub, Nat.reduceEqDiff, Nat.reduceAdd, Nat.reduceMul, Nat.reduceLT, Nat.reduceLeDiff, Int.reduceToNat, Int.reduceLE, Int.reduceLT, Int.reduceNeg, reduceCtorEq, zzR, gos, Int.reduceAdd, Int.reduceSub, Int.reduceMul, Int.reduceEq, t1, t2, rowP_zero])
            rw [cp]
            exact ⟨rfl, fin _⟩
          · rw [hr] at t1
            repeat (first | refine X_opc rfl ?_ | refine X_dopc rfl ?_ | refine ⟨(by show drawK _ _ = true; kernel_rfl : drawX _ _ _), ?_⟩ | exact (by show drawK _ _ = true; kernel_rfl : drawX _ _ _) | simp -dsimp (maxSteps := 20000000) (disch := omega) only [simx, zzC, zzB, tys, ite_self, opnL, callB, callX, readsB, stepOp, nilCmp, ofVal, opBuiltin, opLen, PV.sk, scalBin, scalUn, intBin, opLoad, natOf, opConvert, opField, cellsP, oneP, Value.oneCell', opStore, toIV, scalT, scalA, scalC, boxesA, boxesC, zipB_none, zipB_mx, isZ, opZip, zeroP, opAppendZ, opMakeMap, opLookup, mboxB, opUpdate, ↓reduceIte, Nat.reduceSub, Nat.reduceEqDiff, Nat.reduceAdd, Nat.reduceMul, Nat.reduceLT, Nat.reduceLeDiff, Int.reduceToNat, Int.reduceLE, Int.reduceLT, Int.reduceNeg, reduceCtorEq, zzR, gos, Int.reduceAdd, Int.reduceSub, Int.reduceMul, Int.reduceEq, t1, t2, rowP_succ])
            rw [cp]
            exact ⟨rfl, fin _⟩
theorem take_yes {P R C : Nat} {l : List Int} (hP : Prm P) (M : Mt P R C l) (hin : ∀ a ∈ l, In P a) : CallsP Try.prog 47 [u64 P, matP R C l] (.tup [cupQ (tkCup P C R l), i64 0]) := by
  refine CallsP.of_low mixed rfl fun base => ?_
  have I := tkN_I hP M hin R (Nat.le_refl R)
  have r1 := M.r1
  generalize hT : tkN P C l R = T at I
  obtain ⟨hu, h1, H⟩ := take_run hP M hin base hT
  refine ⟨_, hu, h1, ?_⟩
  have e : tkCup P C R l = (T.rows, T.cols, (List.range R).map (fP T R 0), T.us) := by unfold tkCup; rw [hT, fP_cs I]
  have cp : clmP ((10, 8) :: (7, 14) :: base) R = .view ((10, 8) :: (7, 14) :: base) 0 1 R R := if_neg (by omega)
  rw [e, cp]
  exact low_cup (b := (7, 14) :: base) I.rl I.ql rfl H.r H.q H.u (by omega) H.c H.f (fun u hu => (I.ul u hu).1)
end Go.Proofs.Ytmalpmnmknpphaa.TM
namespace Go.Proofs.Ytmalpmnmknpphaa.TM
open Go Go.RowKit
attribute [local irreducible] K W WOps Effs Xg Xo Xr Xdg Xdo Xdr Xif CallsP CallR
structure CupW (p : Int) (R C : Nat) (c : CupT) : Prop where
  ql : c.2.1.length = c.1.length
  ul : c.2.2.2.length = c.1.length
  cl : c.2.2.1.length = R
  rb : ∀ a ∈ c.1, 0 ≤ a ∧ a < R
  qb : ∀ a ∈ c.2.1, 0 ≤ a ∧ a < C
  ur : ∀ u ∈ c.2.2.2, u.length = C ∧ ∀ a ∈ u, In p a
  cr : ∀ x ∈ c.2.2.1, x.length = c.1.length ∧ ∀ a ∈ x, In p a
  nz : ∀ k, k < c.1.length → (c.2.2.2.getD k []).getD (c.2.1.getD k 0).toNat 0 ≠ 0
  rle : c.1.length ≤ R
theorem getD_mm {α : Type} {l : List α} {d : α} {i : Nat} (h : i < l.length) : l.getD i d ∈ l := by
  rw [List.getD_eq_getElem?_getD, List.getElem?_eq_getElem h]; exact List.getElem_mem h
theorem getD_at' {α : Type} {l : List α} {d : α} {i : Nat} (h : i < l.length) : l[i]? = some (l.getD i d) := by
  rw [List.getD_eq_getElem?_getD, List.getElem?_eq_getElem h]; rfl
def invsT (p : Int) (c : CupT) : List Int := tbl c.2.2.2.length (fun k => finvC p ((c.2.2.2.getD k []).getD (c.2.1.getD k 0).toNat 0))
abbrev takenP (p r c : Int) (l : List Int) (t : CupT) (vs : List Int) : PV := .agg [li t.1, li t.2.1, llP t.2.2.1, llP t.2.2.2, u64 p, i64 r, i64 c, lu l, lu vs]
theorem tsub_walk {p a b : Int} (r c : Int) (l : List Int) (t : CupT) (vs : List Int) (hp : Md p) (ha : In p a) (hb : In p b) : CallsP Try.prog 110 [takenP p r c l t vs, u64 a, u64 b] (u64 ((a - b) % p)) := by
  have q := Sub_in hp ha hb
  refine X_startP (n := 18) (m := 3) (rs := [.tmp 6]) Try.func110 rfl rfl rfl rfl (by decide) fun base => ?_
  repeat (first | ((first | refine X_call_fn2 rfl (by simp only [tys]) ?_ | refine X_dcall_fn2 rfl (by simp only [tys]) ?_); apply Exists.intro; apply And.intro; (focus (simp -dsimp only [simx, zzC, zzB, tys, ite_self, opnL, callB, callX, readsB, stepOp, nilCmp, ofVal, opBuiltin, opLen, PV.sk, scalBin, scalUn, intBin, opLoad, natOf, opConvert, opField, cellsP, oneP, Value.oneCell', opStore, toIV, scalT, scalA, scalC, boxesA, boxesC, zipB_none, zipB_mx, isZ, opZip, zeroP, opAppendZ, opMakeMap, opLookup, mboxB, opUpdate, ↓reduceIte, Nat.reduceSub, Nat.reduceEqDiff, Nat.reduceAdd, Nat.reduceMul, Nat.reduceLT, Nat.reduceLeDiff, Int.reduceToNat, Int.reduceLE, Int.reduceLT, Int.reduceNeg, reduceCtorEq, zzL, if_true, if_false] <;> rfl)); apply Exists.intro; apply And.intro; (focus (first | exact q))) | refine X_opc rfl ?_ | refine X_dopc rfl ?_ | refine ⟨(by show drawK _ _ = true; kernel_rfl : drawX _ _ _), ?_⟩ | exact (by show drawK _ _ = true; kernel_rfl : drawX _ _ _) | simp -dsimp (maxSteps := 20000000) (disch := omega) only [simx, zzC, zzB, tys, ite_self, opnL, callB, callX, readsB, stepOp, nilCmp, ofVal, opBuiltin, opLen, PV.sk, scalBin, scalUn, intBin, opLoad, natOf, opConvert, opField, cellsP, oneP, Value.oneCell', opStore, toIV, scalT, scalA, scalC, boxesA, boxesC, zipB_none, zipB_mx, isZ, opZip, zeroP, opAppendZ, opMakeMap, opLookup, mboxB, opUpdate, ↓reduceIte, Nat.reduceSub, Nat.reduceEqDiff, Nat.reduceAdd, Nat.reduceMul, Nat.reduceLT, Nat.reduceLeDiff, Int.reduceToNat, Int.reduceLE, Int.reduceLT, Int.reduceNeg, reduceCtorEq, zzR, gos, Int.reduceAdd, Int.reduceSub, Int.reduceMul, Int.reduceEq])
theorem tmul_walk {p a b : Int} (r c : Int) (l : List Int) (t : CupT) (vs : List Int) (hp : Md p) (ha : In p a) (hb : In p b) : CallsP Try.prog 111 [takenP p r c l t vs, u64 a, u64 b] (u64 (a * b % p)) := by
  have q := Mul_in hp ha hb
  refine X_startP (n := 18) (m := 3) (rs := [.tmp 6]) Try.func111 rfl rfl rfl rfl (by decide) fun base => ?_
  repeat (first | ((first | refine X_call_fn2 rfl (by simp only [tys]) ?_ | refine X_dcall_fn2 rfl (by simp only [tys]) ?_); apply Exists.intro; apply And.intro; (focus (simp -dsimp only [simx, zzC, zzB, tys, ite_self, opnL, callB, callX, readsB, stepOp, nilCmp, ofVal, opBuiltin, opLen, PV.sk, scalBin, scalUn, intBin, opLoad, natOf, opConvert, opField, cellsP, oneP, Value.oneCell', opStore, toIV, scalT, scalA, scalC, boxesA, boxesC, zipB_none, zipB_mx, isZ, opZip, zeroP, opAppendZ, opMakeMap, opLookup, mboxB, opUpdate, ↓reduceIte, Nat.reduceSub, Nat.reduceEqDiff, Nat.reduceAdd, Nat.reduceMul, Nat.reduceLT, Nat.reduceLeDiff, Int.reduceToNat, Int.reduceLE, Int.reduceLT, Int.reduceNeg, reduceCtorEq, zzL, if_true, if_false] <;> rfl)); apply Exists.intro; apply And.intro; (focus (first | exact q))) | refine X_opc rfl ?_ | refine X_dopc rfl ?_ | refine ⟨(by show drawK _ _ = true; kernel_rfl : drawX _ _ _), ?_⟩ | exact (by show drawK _ _ = true; kernel_rfl : drawX _ _ _) | simp -dsimp (maxSteps := 20000000) (disch := omega) only [simx, zzC, zzB, tys, ite_self, opnL, callB, callX, readsB, stepOp, nilCmp, ofVal, opBuiltin, opLen, PV.sk, scalBin, scalUn, intBin, opLoad, natOf, opConvert, opField, cellsP, oneP, Value.oneCell', opStore, toIV, scalT, scalA, scalC, boxesA, boxesC, zipB_none, zipB_mx, isZ, opZip, zeroP, opAppendZ, opMakeMap, opLookup, mboxB, opUpdate, ↓reduceIte, Nat.reduceSub, Nat.reduceEqDiff, Nat.reduceAdd, Nat.reduceMul, Nat.reduceLT, Nat.reduceLeDiff, Int.reduceToNat, Int.reduceLE, Int.reduceLT, Int.reduceNeg, reduceCtorEq, zzR, gos, Int.reduceAdd, Int.reduceSub, Int.reduceMul, Int.reduceEq])
theorem vector_walk (p : Int) (b : List Int) (n : Int) (hb : b.length ≤ maxLen) : CallsP Try.prog 67 [u64 p, lu b, i64 n] (bl (HasB p b && decide ((b.length : Int) = n))) := by
  have q := has_walk p b hb
  cases h : HasB p b with
  | false =>
    rw [h] at q
    refine X_startP (n := 16) (m := 3) (rs := [.tmp 6]) Try.func67 rfl rfl rfl rfl (by decide) fun base => ?_
    repeat (first | ((first | refine X_call_fn2 rfl (by simp only [tys]) ?_ | refine X_dcall_fn2 rfl (by simp only [tys]) ?_); apply Exists.intro; apply And.intro; (focus (simp -dsimp only [simx, zzC, zzB, tys, ite_self, opnL, callB, callX, readsB, stepOp, nilCmp, ofVal, opBuiltin, opLen, PV.sk, scalBin, scalUn, intBin, opLoad, natOf, opConvert, opField, cellsP, oneP, Value.oneCell', opStore, toIV, scalT, scalA, scalC, boxesA, boxesC, zipB_none, zipB_mx, isZ, opZip, zeroP, opAppendZ, opMakeMap, opLookup, mboxB, opUpdate, ↓reduceIte, Nat.reduceSub, Nat.reduceEqDiff, Nat.reduceAdd, Nat.reduceMul, Nat.reduceLT, Nat.reduceLeDiff, Int.reduceToNat, Int.reduceLE, Int.reduceLT, Int.reduceNeg, reduceCtorEq, zzL, if_true, if_false] <;> rfl)); apply Exists.intro; apply And.intro; (focus (first | exact q))) | refine X_opc rfl ?_ | refine X_dopc rfl ?_ | refine ⟨(by show drawK _ _ = true; kernel_rfl : drawX _ _ _), ?_⟩ | exact (by show drawK _ _ = true; kernel_rfl : drawX _ _ _) | simp -dsimp (maxSteps := 20000000) (disch := omega) only [simx, zzC, zzB, tys, ite_self, opnL, callB, callX, readsB, stepOp, nilCmp, ofVal, opBuiltin, opLen, PV.sk, scalBin, scalUn, intBin, opLoad, natOf, opConvert, opField, cellsP, oneP, Value.oneCell', opStore, toIV, scalT, scalA, scalC, boxesA, boxesC, zipB_none, zipB_mx, isZ, opZip, zeroP, opAppendZ, opMakeMap, opLookup, mboxB, opUpdate, ↓reduceIte, Nat.reduceSub, Nat.reduceEqDiff, Nat.reduceAdd, Nat.reduceMul, Nat.reduceLT, Nat.reduceLeDiff, Int.reduceToNat, Int.reduceLE, Int.reduceLT, Int.reduceNeg, reduceCtorEq, zzR, gos, Int.reduceAdd, Int.reduceSub, Int.reduceMul, Int.reduceEq])
  | true =>
    rw [h] at q
    refine X_startP (n := 16) (m := 3) (rs := [.tmp 6]) Try.func67 rfl rfl rfl rfl (by decide) fun base => ?_
    repeat (first | ((first | refine X_call_fn2 rfl (by simp only [tys]) ?_ | refine X_dcall_fn2 rfl (by simp only [tys]) ?_); apply Exists.intro; apply And.intro; (focus (simp -dsimp only [simx, zzC, zzB, tys, ite_self, opnL, callB, callX, readsB, stepOp, nilCmp, ofVal, opBuiltin, opLen, PV.sk, scalBin, scalUn, intBin, opLoad, natOf, opConvert, opField, cellsP, oneP, Value.oneCell', opStore, toIV, scalT, scalA, scalC, boxesA, boxesC, zipB_none, zipB_mx, isZ, opZip, zeroP, opAppendZ, opMakeMap, opLookup, mboxB, opUpdate, ↓reduceIte, Nat.reduceSub, Nat.reduceEqDiff, Nat.reduceAdd, Nat.reduceMul, Nat.reduceLT, Nat.reduceLeDiff, Int.reduceToNat, Int.reduceLE, Int.reduceLT, Int.reduceNeg, reduceCtorEq, zzL, if_true, if_false] <;> rfl)); apply Exists.intro; apply And.intro; (focus (first | exact q))) | refine X_opc rfl ?_ | refine X_dopc rfl ?_ | refine ⟨(by show drawK _ _ = true; kernel_rfl : drawX _ _ _), ?_⟩ | exact (by show drawK _ _ = true; kernel_rfl : drawX _ _ _) | simp -dsimp (maxSteps := 20000000) (disch := omega) only [simx, zzC, zzB, tys, ite_self, opnL, callB, callX, readsB, stepOp, nilCmp, ofVal, opBuiltin, opLen, PV.sk, scalBin, scalUn, intBin, opLoad, natOf, opConvert, opField, cellsP, oneP, Value.oneCell', opStore, toIV, scalT, scalA, scalC, boxesA, boxesC, zipB_none, zipB_mx, isZ, opZip, zeroP, opAppendZ, opMakeMap, opLookup, mboxB, opUpdate, ↓reduceIte, Nat.reduceSub, Nat.reduceEqDiff, Nat.reduceAdd, Nat.reduceMul, Nat.reduceLT, Nat.reduceLeDiff, Int.reduceToNat, Int.reduceLE, Int.reduceLT, Int.reduceNeg, reduceCtorEq, zzR, gos, Int.reduceAdd, Int.reduceSub, Int.reduceMul, Int.reduceEq])
    by_cases e : (b.length : Int) = n <;> simp [e]
def idxJ (a : Int) : List Int → Nat → Int
  | [], _ => -1
  | x :: l, k => if a = x then k else idxJ a l (k + 1)
theorem idxJ_iff (a : Int) : ∀ (l : List Int) (k : Nat), 0 ≤ idxJ a l k ↔ a ∈ l
  | [], k => by simp [idxJ]
  | x :: l, k => by
    rw [idxJ]
    by_cases h : a = x
    · rw [if_pos h]; simp [h]
    · rw [if_neg h, idxJ_iff a l (k + 1)]; simp [h]
theorem idxI_walk (l : List Int) (a : Int) (hl : l.length ≤ maxLen) : CallsP Try.prog 115 [li l, i64 a] (i64 (idxJ a l 0)) := by
  rw [mx_len] at hl
  refine X_startP (n := 19) (m := 2) (rs := [.tmp 4]) Try.func115 rfl rfl rfl rfl (by decide) fun base => ?_
  repeat (first | refine X_opc rfl ?_ | refine X_dopc rfl ?_ | refine ⟨(by show drawK _ _ = true; kernel_rfl : drawX _ _ _), ?_⟩ | exact (by show drawK _ _ = true; kernel_rfl : drawX _ _ _) | simp -dsimp (maxSteps := 20000000) (disch := omega) only [simx, zzC, zzB, tys, ite_self, opnL, callB, callX, readsB, stepOp, nilCmp, ofVal, opBuiltin, opLen, PV.sk, scalBin, scalUn, intBin, opLoad, natOf, opConvert, opField, cellsP, oneP, Value.oneCell', opStore, toIV, scalT, scalA, scalC, boxesA, boxesC, zipB_none, zipB_mx, isZ, opZip, zeroP, opAppendZ, opMakeMap, opLookup, mboxB, opUpdate, ↓reduceIte, Nat.reduceSub, Nat.reduceEqDiff, Nat.reduceAdd, Nat.reduceMul, Nat.reduceLT, Nat.reduceLeDiff, Int.reduceToNat, Int.reduceLE, Int.reduceLT, Int.reduceNeg, reduceCtorEq, gos, Int.reduceAdd, Int.reduceSub, Int.reduceMul, Int.reduceEq])
  refine X_loopH [0, 1, 7, 8] [] (0) (l.length) (fun j => idxJ a (l.drop j) j = idxJ a l 0) (fun j => [(8, i64 j)]) (fun j => Heap.none) ?_ ?_ ?_ ?_ ?_ (by decide) ?_
  · exact (fgt_nil)
  · ((simp -dsimp (disch := omega) only [simx, zzB, tys, ite_self, opnL, callB, callX, readsB, stepOp, nilCmp, ofVal, opBuiltin, opLen, PV.sk, scalBin, scalUn, intBin, opLoad, natOf, opConvert, opField, cellsP, oneP, Value.oneCell', opStore, toIV, scalT, scalA, scalC, boxesA, boxesC, zipB_none, zipB_mx, isZ, opZip, zeroP, opAppendZ, opMakeMap, opLookup, mboxB, opUpdate, ↓reduceIte, Nat.reduceSub, Nat.reduceEqDiff, Nat.reduceAdd, Nat.reduceMul, Nat.reduceLT, Nat.reduceLeDiff, Int.reduceToNat, Int.reduceLE, Int.reduceLT, Int.reduceNeg, reduceCtorEq, gos, Int.reduceAdd, Int.reduceSub, Int.reduceMul, Int.reduceEq]) <;> first | rfl | simp)
  · exact drop_nil _
  · omega
  · rfl
  · intro j hj hf
    by_cases c : j < l.length
    · have g1 : l[j]? = some l[j] := List.getElem?_eq_getElem c
      rw [List.drop_eq_getElem_cons c, idxJ] at hf
      generalize l[j] = x at g1 hf
      by_cases e : a = x
      · rw [if_pos e] at hf
        subst e
        rw [← hf]
        repeat (first | refine X_opc rfl ?_ | refine X_dopc rfl ?_ | refine ⟨(by show drawK _ _ = true; kernel_rfl : drawX _ _ _), ?_⟩ | exact (by show drawK _ _ = true; kernel_rfl : drawX _ _ _) | simp -dsimp (maxSteps := 20000000) (disch := omega) only [simx, zzC, zzB, tys, ite_self, opnL, callB, callX, readsB, stepOp, nilCmp, ofVal, opBuiltin, opLen, PV.sk, scalBin, scalUn, intBin, opLoad, natOf, opConvert, opField, cellsP, oneP, Value.oneCell', opStore, toIV, scalT, scalA, scalC, boxesA, boxesC, zipB_none, zipB_mx, isZ, opZip, zeroP, opAppendZ, opMakeMap, opLookup, mboxB, opUpdate, ↓reduceIte, Nat.reduceSub, Nat.reduceEqDiff, Nat.reduceAdd, Nat.reduceMul, Nat.reduceLT, Nat.reduceLeDiff, Int.reduceToNat, Int.reduceLE, Int.reduceLT, Int.reduceNeg, reduceCtorEq, zzR, gos, Int.reduceAdd, Int.reduceSub, Int.reduceMul, Int.reduceEq, c, g1])
      · rw [if_neg e] at hf
        repeat (first | refine X_opc rfl ?_ | refine X_dopc rfl ?_ | refine ⟨(by show drawK _ _ = true; kernel_rfl : drawX _ _ _), ?_⟩ | exact (by show drawK _ _ = true; kernel_rfl : drawX _ _ _) | simp -dsimp (maxSteps := 20000000) (disch := omega) only [simx, zzC, zzB, tys, ite_self, opnL, callB, callX, readsB, stepOp, nilCmp, ofVal, opBuiltin, opLen, PV.sk, scalBin, scalUn, intBin, opLoad, natOf, opConvert, opField, cellsP, oneP, Value.oneCell', opStore, toIV, scalT, scalA, scalC, boxesA, boxesC, zipB_none, zipB_mx, isZ, opZip, zeroP, opAppendZ, opMakeMap, opLookup, mboxB, opUpdate, ↓reduceIte, Nat.reduceSub, Nat.reduceEqDiff, Nat.reduceAdd, Nat.reduceMul, Nat.reduceLT, Nat.reduceLeDiff, Int.reduceToNat, Int.reduceLE, Int.reduceLT, Int.reduceNeg, reduceCtorEq, gos, Int.reduceAdd, Int.reduceSub, Int.reduceMul, Int.reduceEq, c, g1, e])
        exact ⟨c, (fgt_nil), hf, rfl, drop_nil _⟩
    · have hj : j = l.length := by omega
      subst hj
      rw [List.drop_length, idxJ] at hf
      rw [← hf]
      repeat (first | refine X_opc rfl ?_ | refine X_dopc rfl ?_ | refine ⟨(by show drawK _ _ = true; kernel_rfl : drawX _ _ _), ?_⟩ | exact (by show drawK _ _ = true; kernel_rfl : drawX _ _ _) | simp -dsimp (maxSteps := 20000000) (disch := omega) only [simx, zzC, zzB, tys, ite_self, opnL, callB, callX, readsB, stepOp, nilCmp, ofVal, opBuiltin, opLen, PV.sk, scalBin, scalUn, intBin, opLoad, natOf, opConvert, opField, cellsP, oneP, Value.oneCell', opStore, toIV, scalT, scalA, scalC, boxesA, boxesC, zipB_none, zipB_mx, isZ, opZip, zeroP, opAppendZ, opMakeMap, opLookup, mboxB, opUpdate, ↓reduceIte, Nat.reduceSub, Nat.reduceEqDiff, Nat.reduceAdd, Nat.reduceMul, Nat.reduceLT, Nat.reduceLeDiff, Int.reduceToNat, Int.reduceLE, Int.reduceLT, Int.reduceNeg, reduceCtorEq, zzR, gos, Int.reduceAdd, Int.reduceSub, Int.reduceMul, Int.reduceEq])
theorem containsI_walk (l : List Int) (a : Int) (hl : l.length ≤ maxLen) : CallsP Try.prog 76 [li l, i64 a] (bl (decide (a ∈ l))) := by
  have q := idxI_walk l a hl
  have e := idxJ_iff a l 0
  by_cases h : a ∈ l
  · have h1 := e.2 h
    rw [decide_eq_true h]
    generalize idxJ a l 0 = x at q h1
    refine X_startP (n := 9) (m := 2) (rs := [.tmp 4]) Try.func76 rfl rfl rfl rfl (by decide) fun base => ?_
    repeat (first | ((first | refine X_call_fn2 rfl (by simp only [tys]) ?_ | refine X_dcall_fn2 rfl (by simp only [tys]) ?_); apply Exists.intro; apply And.intro; (focus (simp -dsimp only [simx, zzC, zzB, tys, ite_self, opnL, callB, callX, readsB, stepOp, nilCmp, ofVal, opBuiltin, opLen, PV.sk, scalBin, scalUn, intBin, opLoad, natOf, opConvert, opField, cellsP, oneP, Value.oneCell', opStore, toIV, scalT, scalA, scalC, boxesA, boxesC, zipB_none, zipB_mx, isZ, opZip, zeroP, opAppendZ, opMakeMap, opLookup, mboxB, opUpdate, ↓reduceIte, Nat.reduceSub, Nat.reduceEqDiff, Nat.reduceAdd, Nat.reduceMul, Nat.reduceLT, Nat.reduceLeDiff, Int.reduceToNat, Int.reduceLE, Int.reduceLT, Int.reduceNeg, reduceCtorEq, zzL, if_true, if_false] <;> rfl)); apply Exists.intro; apply And.intro; (focus (first | exact q))) | refine X_opc rfl ?_ | refine X_dopc rfl ?_ | refine ⟨(by show drawK _ _ = true; kernel_rfl : drawX _ _ _), ?_⟩ | exact (by show drawK _ _ = true; kernel_rfl : drawX _ _ _) | simp -dsimp (maxSteps := 20000000) (disch := omega) only [simx, zzC, zzB, tys, ite_self, opnL, callB, callX, readsB, stepOp, nilCmp, ofVal, opBuiltin, opLen, PV.sk, scalBin, scalUn, intBin, opLoad, natOf, opConvert, opField, cellsP, oneP, Value.oneCell', opStore, toIV, scalT, scalA, scalC, boxesA, boxesC, zipB_none, zipB_mx, isZ, opZip, zeroP, opAppendZ, opMakeMap, opLookup, mboxB, opUpdate, ↓reduceIte, Nat.reduceSub, Nat.reduceEqDiff, Nat.reduceAdd, Nat.reduceMul, Nat.reduceLT, Nat.reduceLeDiff, Int.reduceToNat, Int.reduceLE, Int.reduceLT, Int.reduceNeg, reduceCtorEq, zzR, gos, Int.reduceAdd, Int.reduceSub, Int.reduceMul, Int.reduceEq, h1])
  · have h1 : ¬ 0 ≤ idxJ a l 0 := fun h2 => h (e.1 h2)
    rw [decide_eq_false h]
    generalize idxJ a l 0 = x at q h1
    refine X_startP (n := 9) (m := 2) (rs := [.tmp 4]) Try.func76 rfl rfl rfl rfl (by decide) fun base => ?_
    repeat (first | ((first | refine X_call_fn2 rfl (by simp only [tys]) ?_ | refine X_dcall_fn2 rfl (by simp only [tys]) ?_); apply Exists.intro; apply And.intro; (focus (simp -dsimp only [simx, zzC, zzB, tys, ite_self, opnL, callB, callX, readsB, stepOp, nilCmp, ofVal, opBuiltin, opLen, PV.sk, scalBin, scalUn, intBin, opLoad, natOf, opConvert, opField, cellsP, oneP, Value.oneCell', opStore, toIV, scalT, scalA, scalC, boxesA, boxesC, zipB_none, zipB_mx, isZ, opZip, zeroP, opAppendZ, opMakeMap, opLookup, mboxB, opUpdate, ↓reduceIte, Nat.reduceSub, Nat.reduceEqDiff, Nat.reduceAdd, Nat.reduceMul, Nat.reduceLT, Nat.reduceLeDiff, Int.reduceToNat, Int.reduceLE, Int.reduceLT, Int.reduceNeg, reduceCtorEq, zzL, if_true, if_false] <;> rfl)); apply Exists.intro; apply And.intro; (focus (first | exact q))) | refine X_opc rfl ?_ | refine X_dopc rfl ?_ | refine ⟨(by show drawK _ _ = true; kernel_rfl : drawX _ _ _), ?_⟩ | exact (by show drawK _ _ = true; kernel_rfl : drawX _ _ _) | simp -dsimp (maxSteps := 20000000) (disch := omega) only [simx, zzC, zzB, tys, ite_self, opnL, callB, callX, readsB, stepOp, nilCmp, ofVal, opBuiltin, opLen, PV.sk, scalBin, scalUn, intBin, opLoad, natOf, opConvert, opField, cellsP, oneP, Value.oneCell', opStore, toIV, scalT, scalA, scalC, boxesA, boxesC, zipB_none, zipB_mx, isZ, opZip, zeroP, opAppendZ, opMakeMap, opLookup, mboxB, opUpdate, ↓reduceIte, Nat.reduceSub, Nat.reduceEqDiff, Nat.reduceAdd, Nat.reduceMul, Nat.reduceLT, Nat.reduceLeDiff, Int.reduceToNat, Int.reduceLE, Int.reduceLT, Int.reduceNeg, reduceCtorEq, zzR, gos, Int.reduceAdd, Int.reduceSub, Int.reduceMul, Int.reduceEq, h1])
theorem tkCup_W {P R C : Nat} {l : List Int} (hP : Prm P) (M : Mt P R C l) (hin : ∀ a ∈ l, In P a) : CupW P R C (tkCup P C R l) := by
  have I := tkN_I hP M hin R (Nat.le_refl R)
  unfold tkCup
  generalize hT : tkN P C l R = T at I
  have one : In (P : Int) 0 := ⟨by decide, by have := M.hp.1; omega⟩
  refine ⟨by simp only; rw [I.ql, I.rl], by simp only; rw [I.rl], by simp [I.cl], I.rb, I.qb, I.ul, fun x hx => ?_, ?_, by simp only; rw [I.rl]; exact I.ri⟩
  · obtain ⟨c, hc, rfl⟩ := List.mem_map.1 hx
    obtain ⟨h1, h2⟩ := I.cb c hc
    refine ⟨by unfold padF; simp [I.rl]; omega, fun a ha => ?_⟩
    unfold padF at ha
    rcases List.mem_append.1 ha with ha | ha
    · exact h2 a ha
    · rw [List.eq_of_mem_replicate ha]; exact one
  · intro k hk
    have hk2 : k < T.us.length := by rw [← I.rl]; exact hk
    have : ∀ i, i ≤ R → ∀ k, k < (tkN P C l i).us.length → ((tkN P C l i).us.getD k []).getD ((tkN P C l i).cols.getD k 0).toNat 0 ≠ 0 := by
      intro i
      induction i with
      | zero => intro _ k hk; exact absurd hk (Nat.not_lt_zero k)
      | succ i ih =>
        intro hi k hk
        have J := tkN_I hP M hin i (by omega)
        have ih := ih (by omega)
        have e : tkN P C l (i + 1) = tkRow P (tkN P C l i) i (rowM C l i) := rfl
        rw [e] at hk ⊢
        generalize tkN P C l i = T at J ih hk
        rcases nzA_spec (rstT P T (rowM C l i)) 0 with ⟨z1, _⟩ | ⟨n, z1, z2, z3, _⟩
        · obtain ⟨_, t2, t3, _⟩ := tk_no (p := P) (T := T) (row := rowM C l i) (x := i) (by rw [z1]; decide)
          rw [t3] at hk
          rw [t2, t3]; exact ih k hk
        · obtain ⟨_, t2, t3, _⟩ := tk_yes (p := P) (T := T) (row := rowM C l i) (x := i) (by rw [z1]; omega)
          rw [t3, List.length_append, List.length_singleton] at hk
          rw [t2, t3, z1]
          have ql := J.ql
          by_cases c : k < T.us.length
          · have e1 : (T.us ++ [rstT P T (rowM C l i)]).getD k [] = T.us.getD k [] := by rw [List.getD_eq_getElem?_getD, List.getElem?_append_left c, List.getD_eq_getElem?_getD]
            have e2 : (T.cols ++ [((0 + n : Nat) : Int)]).getD k 0 = T.cols.getD k 0 := by rw [List.getD_eq_getElem?_getD, List.getElem?_append_left (by omega), List.getD_eq_getElem?_getD]
            rw [e1, e2]; exact ih k c
          · have ek : k = T.us.length := by omega
            have e1 : (T.us ++ [rstT P T (rowM C l i)]).getD k [] = rstT P T (rowM C l i) := by rw [List.getD_eq_getElem?_getD, List.getElem?_append_right (by omega), ek]; simp
            have e2 : (T.cols ++ [((0 + n : Nat) : Int)]).getD k 0 = ((0 + n : Nat) : Int) := by rw [List.getD_eq_getElem?_getD, List.getElem?_append_right (by omega), ek, ql]; simp
            rw [e1, e2, show (((0 + n : Nat) : Int)).toNat = n by omega]; exact z3
    have := this R (Nat.le_refl R) k (by rw [hT]; exact hk2)
    rw [hT] at this
    exact this
set_option maxHeartbeats 2000000 in
theorem take8_yes {P R C : Nat} {l : List Int} (hP : Prm P) (M : Mt P R C l) (hin : ∀ a ∈ l, In P a) : CallsP Try.prog 68 [u64 P, matP R C l] (.tup [takenP P R C l (tkCup P C R l) (invsT P (tkCup P C R l)), i64 0]) := by
  have q1 := take_yes hP M hin
  have hw := tkCup_W hP M hin
  have r2 := M.r2
  have c1 := M.c1
  have c2 := M.c2
  generalize tkCup P C R l = c at q1 hw
  obtain ⟨rw0, cw, cc, uu⟩ := c
  have rle := hw.rle
  have ul := hw.ul
  have ql := hw.ql
  simp only at rle ul ql
  refine X_startP (n := 53) (m := 2) (rs := [.cell 4 87, .tmp 5]) Try.func68 rfl rfl rfl rfl (by decide) fun base => ?_
  repeat (first | ((first | refine X_call_fn2 rfl (by simp only [tys]) ?_ | refine X_dcall_fn2 rfl (by simp only [tys]) ?_); apply Exists.intro; apply And.intro; (focus (simp -dsimp only [simx, zzC, zzB, tys, ite_self, opnL, callB, callX, readsB, stepOp, nilCmp, ofVal, opBuiltin, opLen, PV.sk, scalBin, scalUn, intBin, opLoad, natOf, opConvert, opField, cellsP, oneP, Value.oneCell', opStore, toIV, scalT, scalA, scalC, boxesA, boxesC, zipB_none, zipB_mx, isZ, opZip, zeroP, opAppendZ, opMakeMap, opLookup, mboxB, opUpdate, ↓reduceIte, Nat.reduceSub, Nat.reduceEqDiff, Nat.reduceAdd, Nat.reduceMul, Nat.reduceLT, Nat.reduceLeDiff, Int.reduceToNat, Int.reduceLE, Int.reduceLT, Int.reduceNeg, reduceCtorEq, zzL, if_true, if_false] <;> rfl)); apply Exists.intro; apply And.intro; (focus (first | exact q1))) | refine X_opc rfl ?_ | refine X_dopc rfl ?_ | refine ⟨(by show drawK _ _ = true; kernel_rfl : drawX _ _ _), ?_⟩ | exact (by show drawK _ _ = true; kernel_rfl : drawX _ _ _) | simp -dsimp (maxSteps := 20000000) (disch := omega) only [simx, zzC, zzB, tys, ite_self, opnL, callB, callX, readsB, stepOp, nilCmp, ofVal, opBuiltin, opLen, PV.sk, scalBin, scalUn, intBin, opLoad, natOf, opConvert, opField, cellsP, oneP, Value.oneCell', opStore, toIV, scalT, scalA, scalC, boxesA, boxesC, zipB_none, zipB_mx, isZ, opZip, zeroP, opAppendZ, opMakeMap, opLookup, mboxB, opUpdate, ↓reduceIte, Nat.reduceSub, Nat.reduceEqDiff, Nat.reduceAdd, Nat.reduceMul, Nat.reduceLT, Nat.reduceLeDiff, Int.reduceToNat, Int.reduceLE, Int.reduceLT, Int.reduceNeg, reduceCtorEq, gos, Int.reduceAdd, Int.reduceSub, Int.reduceMul, Int.reduceEq, SK.len])
  refine X_loopH [0, 4, 6, 7, 8, 24, 25, 26] [(7, 3) :: base] (0) (rw0.length) (fun j => True) (fun j => [(25, i64 rw0.length), (26, i64 j)]) (fun j => rowH ((((Heap.none.put ((0, 0) :: base) (.var [i64 R, i64 C, lu l])).put ((0, 1) :: base) (.var [nilP, nilP, nilP, nilP, u64 0, i64 0, i64 0, nilP, nilP])).put ((1, 6) :: base) (.var [li rw0, li cw, llP cc, llP uu])).put ((2, 4) :: base) (.var [li rw0, li cw, llP cc, llP uu, u64 P, i64 R, i64 C, lu l, rowP ((7, 4) :: base) 1 j ((tbl j (fun k => finvC P ((uu.getD k []).getD (cw.getD k 0).toNat 0))).map iu)])) ((7, 4) :: base) j ((tbl j (fun k => finvC P ((uu.getD k []).getD (cw.getD k 0).toNat 0))).map iu)) ?_ ?_ ?_ ?_ ?_ (by decide) ?_
  · exact (fgt_cons (by simp only [Heap.none_at]) (by (simp -dsimp only [zzB, tys, ite_self, opnL, callB, callX, readsB, stepOp, nilCmp, ofVal, opBuiltin, opLen, PV.sk, scalBin, scalUn, intBin, opLoad, natOf, opConvert, opField, cellsP, oneP, Value.oneCell', opStore, toIV, scalT, scalA, scalC, boxesA, boxesC, zipB_none, zipB_mx, isZ, opZip, zeroP, opAppendZ, opMakeMap, opLookup, mboxB, opUpdate, ↓reduceIte, Nat.reduceSub, Nat.reduceEqDiff, Nat.reduceAdd, Nat.reduceMul, Nat.reduceLT, Nat.reduceLeDiff, Int.reduceToNat, Int.reduceLE, Int.reduceLT, Int.reduceNeg, reduceCtorEq, notIn_cons, notIn_nil]) <;> simp [refsL, refsP, mem_refs_rowP]) (by repeat (first | exact noVar_none _ | refine noVar_row ?_ | refine noVar_map ?_ | refine noVar_rowH ?_ | refine noVar_var ?_ (by simp [refsL, refsP, mem_refs_rowP]))) (fgt_nil))
  · repeat (first | refine X_opc rfl ?_ | refine X_dopc rfl ?_ | refine ⟨(by show drawK _ _ = true; kernel_rfl : drawX _ _ _), ?_⟩ | exact (by show drawK _ _ = true; kernel_rfl : drawX _ _ _) | simp -dsimp (maxSteps := 20000000) (disch := omega) only [simx, zzC, zzB, tys, ite_self, opnL, callB, callX, readsB, stepOp, nilCmp, ofVal, opBuiltin, opLen, PV.sk, scalBin, scalUn, intBin, opLoad, natOf, opConvert, opField, cellsP, oneP, Value.oneCell', opStore, toIV, scalT, scalA, scalC, boxesA, boxesC, zipB_none, zipB_mx, isZ, opZip, zeroP, opAppendZ, opMakeMap, opLookup, mboxB, opUpdate, ↓reduceIte, Nat.reduceSub, Nat.reduceEqDiff, Nat.reduceAdd, Nat.reduceMul, Nat.reduceLT, Nat.reduceLeDiff, Int.reduceToNat, Int.reduceLE, Int.reduceLT, Int.reduceNeg, reduceCtorEq, gos, Int.reduceAdd, Int.reduceSub, Int.reduceMul, Int.reduceEq, rowP_zero, ul])
    rfl
  · funext c
    simp (maxSteps := 20000000) only [Heap.drop_at, rowH_app, Heap.put_at, Heap.none_at, List.mem_cons, List.not_mem_nil, or_false]
    by_cases e0 : c = (0, 0) :: base
    · subst e0; simp [rowP_zero, rowH_zero]
    by_cases e1 : c = (0, 1) :: base
    · subst e1; simp [rowP_zero, rowH_zero]
    by_cases e2 : c = (1, 6) :: base
    · subst e2; simp [rowP_zero, rowH_zero]
    by_cases e3 : c = (2, 4) :: base
    · subst e3; simp [rowP_zero, rowH_zero]
    by_cases e4 : c = (7, 3) :: base
    · subst e4; simp [rowP_zero, rowH_zero]
    simp [e0, e1, e2, e3, e4, rowP_zero, rowH_zero]
  · omega
  · trivial
  · intro j hj _
    by_cases cj : j < rw0.length
    · have hk := hw.nz j cj
      have hq := hw.qb (cw.getD j 0) (getD_mm (by simp only; omega))
      simp only at hk hq
      obtain ⟨q, hqe⟩ : ∃ q : Nat, cw.getD j 0 = q := ⟨(cw.getD j 0).toNat, by omega⟩
      obtain ⟨u1, u2⟩ := hw.ur (uu.getD j []) (getD_mm (by simp only; omega))
      have tn := tbl_succ j (fun k => finvC P ((uu.getD k []).getD (cw.getD k 0).toNat 0))
      have tl := tbl_len j (fun k => finvC P ((uu.getD k []).getD (cw.getD k 0).toNat 0))
      simp only [hqe, Int.toNat_natCast] at hk tn
      have qC : q < C := by omega
      have g1 : (uu.map fun u => IV.l u.length (u.map iu))[j]? = some (.l C ((uu.getD j []).map iu)) := by rw [List.getElem?_map, getD_at' (d := []) (by omega), Option.map_some, u1]
      have g2 : (cw.map ii)[j]? = some (ii (q : Int)) := by rw [List.getElem?_map, getD_at' (d := 0) (by omega), Option.map_some, hqe]
      have g3 : ((uu.getD j []).map iu)[q]? = some (iu ((uu.getD j []).getD q 0)) := by rw [List.getElem?_map, getD_some u1 qC]; rfl
      have m1 := Inv_in hP M.hp (getD_of u2 (i := q) (by omega)) hk
      generalize tbl j (fun k => finvC P ((uu.getD k []).getD (cw.getD k 0).toNat 0)) = TJ at tn tl ⊢
      obtain ⟨U, hU⟩ : ∃ U, uu.getD j [] = U := ⟨_, rfl⟩
      rw [hU] at g1 g3 m1 tn
      generalize U.getD q 0 = x at g3 m1 tn
      repeat (first | ((first | refine X_call_fn2 rfl (by simp only [tys]) ?_ | refine X_dcall_fn2 rfl (by simp only [tys]) ?_); apply Exists.intro; apply And.intro; (focus (simp -dsimp only [simx, zzC, zzB, tys, ite_self, opnL, callB, callX, readsB, stepOp, nilCmp, ofVal, opBuiltin, opLen, PV.sk, scalBin, scalUn, intBin, opLoad, natOf, opConvert, opField, cellsP, oneP, Value.oneCell', opStore, toIV, scalT, scalA, scalC, boxesA, boxesC, zipB_none, zipB_mx, isZ, opZip, zeroP, opAppendZ, opMakeMap, opLookup, mboxB, opUpdate, ↓reduceIte, Nat.reduceSub, Nat.reduceEqDiff, Nat.reduceAdd, Nat.reduceMul, Nat.reduceLT, Nat.reduceLeDiff, Int.reduceToNat, Int.reduceLE, Int.reduceLT, Int.reduceNeg, reduceCtorEq, zzL, if_true, if_false] <;> rfl)); apply Exists.intro; apply And.intro; (focus (first | exact m1))) | refine X_opc rfl ?_ | refine X_dopc rfl ?_ | refine ⟨(by show drawK _ _ = true; kernel_rfl : drawX _ _ _), ?_⟩ | exact (by show drawK _ _ = true; kernel_rfl : drawX _ _ _) | simp -dsimp (maxSteps := 20000000) (disch := omega) only [simx, zzC, zzB, tys, ite_self, opnL, callB, callX, readsB, stepOp, nilCmp, ofVal, opBuiltin, opLen, PV.sk, scalBin, scalUn, intBin, opLoad, natOf, opConvert, opField, cellsP, oneP, Value.oneCell', opStore, toIV, scalT, scalA, scalC, boxesA, boxesC, zipB_none, zipB_mx, isZ, opZip, zeroP, opAppendZ, opMakeMap, opLookup, mboxB, opUpdate, ↓reduceIte, Nat.reduceSub, Nat.reduceEqDiff, Nat.reduceAdd, Nat.reduceMul, Nat.reduceLT, Nat.reduceLeDiff, Int.reduceToNat, Int.reduceLE, Int.reduceLT, Int.reduceNeg, reduceCtorEq, gos, Int.reduceAdd, Int.reduceSub, Int.reduceMul, Int.reduceEq, cj, ul, ql, List.length_map, g1, g2, g3, qC])
      refine X_append_one (s := (7, 4) :: base) (n := j) (z := 1) (cs := TJ.map iu) 22 [.int .u64 0] [iu (finvC P x)] (by simp only [tys]) (by simp only [tys]) rfl (by decide) (by simp [tl]) (by simp [rowH_app, Heap.put_at, Heap.none_at]) (by simp [Heap.put_at]; rfl) rfl (by simp only [tys]; omega) (by rw [mx_len]; omega) ?_
      rw [rowP_succ]
      repeat (first | refine X_opc rfl ?_ | refine X_dopc rfl ?_ | refine ⟨(by show drawK _ _ = true; kernel_rfl : drawX _ _ _), ?_⟩ | exact (by show drawK _ _ = true; kernel_rfl : drawX _ _ _) | simp -dsimp (maxSteps := 20000000) (disch := omega) only [simx, zzC, zzB, tys, ite_self, opnL, callB, callX, readsB, stepOp, nilCmp, ofVal, opBuiltin, opLen, PV.sk, scalBin, scalUn, intBin, opLoad, natOf, opConvert, opField, cellsP, oneP, Value.oneCell', opStore, toIV, scalT, scalA, scalC, boxesA, boxesC, zipB_none, zipB_mx, isZ, opZip, zeroP, opAppendZ, opMakeMap, opLookup, mboxB, opUpdate, ↓reduceIte, Nat.reduceSub, Nat.reduceEqDiff, Nat.reduceAdd, Nat.reduceMul, Nat.reduceLT, Nat.reduceLeDiff, Int.reduceToNat, Int.reduceLE, Int.reduceLT, Int.reduceNeg, reduceCtorEq, gos, Int.reduceAdd, Int.reduceSub, Int.reduceMul, Int.reduceEq])
      refine ⟨cj, (fgt_cons (by simp only [Heap.none_at]) (by (simp -dsimp only [zzB, tys, ite_self, opnL, callB, callX, readsB, stepOp, nilCmp, ofVal, opBuiltin, opLen, PV.sk, scalBin, scalUn, intBin, opLoad, natOf, opConvert, opField, cellsP, oneP, Value.oneCell', opStore, toIV, scalT, scalA, scalC, boxesA, boxesC, zipB_none, zipB_mx, isZ, opZip, zeroP, opAppendZ, opMakeMap, opLookup, mboxB, opUpdate, ↓reduceIte, Nat.reduceSub, Nat.reduceEqDiff, Nat.reduceAdd, Nat.reduceMul, Nat.reduceLT, Nat.reduceLeDiff, Int.reduceToNat, Int.reduceLE, Int.reduceLT, Int.reduceNeg, reduceCtorEq, notIn_cons, notIn_nil]) <;> simp [refsL, refsP, mem_refs_rowP]) (by repeat (first | exact noVar_none _ | refine noVar_row ?_ | refine noVar_map ?_ | refine noVar_rowH ?_ | refine noVar_var ?_ (by simp [refsL, refsP, mem_refs_rowP]))) (fgt_nil)), rfl, ?_⟩
      rw [tn, List.map_append]
      funext c
      simp (maxSteps := 20000000) only [Heap.drop_at, rowH_app, Heap.put_at, Heap.none_at, List.mem_cons, List.not_mem_nil, or_false]
      by_cases e0 : c = (0, 0) :: base
      · subst e0; simp [rowP_succ, rowH_succ]
      by_cases e1 : c = (0, 1) :: base
      · subst e1; simp [rowP_succ, rowH_succ]
      by_cases e2 : c = (1, 6) :: base
      · subst e2; simp [rowP_succ, rowH_succ]
      by_cases e3 : c = (2, 4) :: base
      · subst e3; simp [rowP_succ, rowH_succ]
      by_cases e4 : c = (7, 3) :: base
      · subst e4; simp [rowP_succ, rowH_succ]
      by_cases e5 : c = (7, 4) :: base
      · subst e5; simp [rowP_succ, rowH_succ]
      simp [e0, e1, e2, e3, e4, e5, rowP_succ, rowH_succ]
    · have ej : rw0.length = j := by omega
      have tl := tbl_len rw0.length (fun k => finvC P ((uu.getD k []).getD (cw.getD k 0).toNat 0))
      have iv : invsT P (rw0, cw, cc, uu) = tbl rw0.length (fun k => finvC P ((uu.getD k []).getD (cw.getD k 0).toNat 0)) := by unfold invsT; simp only; rw [ul]
      rw [iv]
      subst ej
      generalize tbl rw0.length (fun k => finvC P ((uu.getD k []).getD (cw.getD k 0).toNat 0)) = TJ at tl ⊢
      rcases hr : rw0.length with _ | r
      · rw [hr] at tl
        have e0 : TJ = [] := List.eq_nil_of_length_eq_zero tl
        subst e0
        repeat (first | refine X_opc rfl ?_ | refine X_dopc rfl ?_ | refine ⟨(by show drawK _ _ = true; kernel_rfl : drawX _ _ _), ?_⟩ | exact (by show drawK _ _ = true; kernel_rfl : drawX _ _ _) | simp -dsimp (maxSteps := 20000000) (disch := omega) only [simx, zzC, zzB, tys, ite_self, opnL, callB, callX, readsB, stepOp, nilCmp, ofVal, opBuiltin, opLen, PV.sk, scalBin, scalUn, intBin, opLoad, natOf, opConvert, opField, cellsP, oneP, Value.oneCell', opStore, toIV, scalT, scalA, scalC, boxesA, boxesC, zipB_none, zipB_mx, isZ, opZip, zeroP, opAppendZ, opMakeMap, opLookup, mboxB, opUpdate, ↓reduceIte, Nat.reduceSub, Nat.reduceEqDiff, Nat.reduceAdd, Nat.reduceMul, Nat.reduceLT, Nat.reduceLeDiff, Int.reduceToNat, Int.reduceLE, Int.reduceLT, Int.reduceNeg, reduceCtorEq, zzR, gos, Int.reduceAdd, Int.reduceSub, Int.reduceMul, Int.reduceEq, hr, rowP_zero, rowH_zero])
        simp [hr]
      · rw [hr] at tl
        have nt : (TJ.map iu).take (r + 1) = TJ.map iu := List.take_of_length_le (by simp [tl])
        repeat (first | refine X_opc rfl ?_ | refine X_dopc rfl ?_ | refine ⟨(by show drawK _ _ = true; kernel_rfl : drawX _ _ _), ?_⟩ | exact (by show drawK _ _ = true; kernel_rfl : drawX _ _ _) | simp -dsimp (maxSteps := 20000000) (disch := omega) only [simx, zzC, zzB, tys, ite_self, opnL, callB, callX, readsB, stepOp, nilCmp, ofVal, opBuiltin, opLen, PV.sk, scalBin, scalUn, intBin, opLoad, natOf, opConvert, opField, cellsP, oneP, Value.oneCell', opStore, toIV, scalT, scalA, scalC, boxesA, boxesC, zipB_none, zipB_mx, isZ, opZip, zeroP, opAppendZ, opMakeMap, opLookup, mboxB, opUpdate, ↓reduceIte, Nat.reduceSub, Nat.reduceEqDiff, Nat.reduceAdd, Nat.reduceMul, Nat.reduceLT, Nat.reduceLeDiff, Int.reduceToNat, Int.reduceLE, Int.reduceLT, Int.reduceNeg, reduceCtorEq, zzR, gos, Int.reduceAdd, Int.reduceSub, Int.reduceMul, Int.reduceEq, hr, rowP_succ, rowH_succ, List.length_map, tl, nt])
        simp [hr, tl]
end Go.Proofs.Ytmalpmnmknpphaa.TM
namespace Go.Proofs.Ytmalpmnmknpphaa.TM
open Go Go.RowKit
attribute [local irreducible] K W WOps Effs Xg Xo Xr Xdg Xdo Xdr Xif CallsP CallR
def hlX (p : Int) (c : CupT) (b z : List Int) (i : Nat) : Nat → Int
  | 0 => b.getD i 0
  | j + 1 => (hlX p c b z i j - (c.2.2.1.getD i []).getD j 0 * z.getD j 0 % p) % p
def hlL (p : Int) (c : CupT) (b : List Int) : Nat → List Int
  | 0 => []
  | k + 1 => hlL p c b k ++ [hlX p c b (hlL p c b k) (c.1.getD k 0).toNat k]
theorem hlL_len (p : Int) (c : CupT) (b : List Int) : ∀ k, (hlL p c b k).length = k
  | 0 => rfl
  | k + 1 => by rw [hlL, List.length_append, hlL_len p c b k]; rfl
theorem hlX_in {p : Int} (hp : Md p) (c : CupT) {b : List Int} (hb : ∀ a ∈ b, In p a) (z : List Int) {i : Nat} (hi : i < b.length) : ∀ j, In p (hlX p c b z i j)
  | 0 => getD_of hb hi
  | j + 1 => in_emod hp _
theorem hlL_in {p : Int} {R C : Nat} (hp : Md p) {c : CupT} (hw : CupW p R C c) {b : List Int} (hb : ∀ a ∈ b, In p a) (hl : b.length = R) : ∀ k, k ≤ c.1.length → ∀ a ∈ hlL p c b k, In p a
  | 0, _, a, ha => by simp [hlL] at ha
  | k + 1, hk, a, ha => by
    rw [hlL] at ha
    rcases List.mem_append.1 ha with ha | ha
    · exact hlL_in hp hw hb hl k (by omega) a ha
    · rw [List.mem_singleton.1 ha]
      have := hw.rb (c.1.getD k 0) (getD_mm (by omega))
      exact hlX_in hp c hb _ (by omega) k
set_option maxHeartbeats 4000000 in
theorem halves_walk {p : Int} {R C : Nat} {l : List Int} {c : CupT} {vs b : List Int} (hp : Md p) (hw : CupW p R C c) (hR : R ≤ 64) (hb : ∀ a ∈ b, In p a) (hl : b.length = R) :
    CallsP Try.prog 70 [takenP p R C l c vs, .i (.l R (b.map iu))] (lu (hlL p c b c.1.length)) := by
  obtain ⟨rw0, cw, cc, uu⟩ := c
  have rle := hw.rle
  have ql := hw.ql
  have ccl := hw.cl
  simp only at rle ql ccl
  refine X_startP (n := 52) (m := 2) (rs := [.tmp 4]) Try.func70 rfl rfl rfl rfl (by decide) fun base => ?_
  repeat (first | refine X_opc rfl ?_ | refine X_dopc rfl ?_ | refine ⟨(by show drawK _ _ = true; kernel_rfl : drawX _ _ _), ?_⟩ | exact (by show drawK _ _ = true; kernel_rfl : drawX _ _ _) | simp -dsimp (maxSteps := 20000000) (disch := omega) only [simx, zzC, zzB, tys, ite_self, opnL, callB, callX, readsB, stepOp, nilCmp, ofVal, opBuiltin, opLen, PV.sk, scalBin, scalUn, intBin, opLoad, natOf, opConvert, opField, cellsP, oneP, Value.oneCell', opStore, toIV, scalT, scalA, scalC, boxesA, boxesC, zipB_none, zipB_mx, isZ, opZip, zeroP, opAppendZ, opMakeMap, opLookup, mboxB, opUpdate, ↓reduceIte, Nat.reduceSub, Nat.reduceEqDiff, Nat.reduceAdd, Nat.reduceMul, Nat.reduceLT, Nat.reduceLeDiff, Int.reduceToNat, Int.reduceLE, Int.reduceLT, Int.reduceNeg, reduceCtorEq, gos, Int.reduceAdd, Int.reduceSub, Int.reduceMul, Int.reduceEq])
  refine X_loopH [1, 2, 5, 12, 13, 14] [(11, 2) :: base] (0) (rw0.length) (fun j => True) (fun j => [(5, rowP ((11, 3) :: base) 1 j ((hlL p (rw0, cw, cc, uu) b j).map iu)), (14, i64 j)]) (fun j => rowH (Heap.none.put ((0, 0) :: base) (.var [li rw0, li cw, llP cc, llP uu, u64 p, i64 R, i64 C, lu l, lu vs])) ((11, 3) :: base) j ((hlL p (rw0, cw, cc, uu) b j).map iu)) ?_ ?_ ?_ ?_ ?_ (by decide) ?_
  · exact (fgt_cons (by simp only [Heap.none_at]) (by (simp -dsimp only [zzB, tys, ite_self, opnL, callB, callX, readsB, stepOp, nilCmp, ofVal, opBuiltin, opLen, PV.sk, scalBin, scalUn, intBin, opLoad, natOf, opConvert, opField, cellsP, oneP, Value.oneCell', opStore, toIV, scalT, scalA, scalC, boxesA, boxesC, zipB_none, zipB_mx, isZ, opZip, zeroP, opAppendZ, opMakeMap, opLookup, mboxB, opUpdate, ↓reduceIte, Nat.reduceSub, Nat.reduceEqDiff, Nat.reduceAdd, Nat.reduceMul, Nat.reduceLT, Nat.reduceLeDiff, Int.reduceToNat, Int.reduceLE, Int.reduceLT, Int.reduceNeg, reduceCtorEq, notIn_cons, notIn_nil]) <;> simp [refsL, refsP, mem_refs_rowP]) (by repeat (first | exact noVar_none _ | refine noVar_row ?_ | refine noVar_map ?_ | refine noVar_rowH ?_ | refine noVar_var ?_ (by simp [refsL, refsP, mem_refs_rowP]))) (fgt_nil))
  · repeat (first | refine X_opc rfl ?_ | refine X_dopc rfl ?_ | refine ⟨(by show drawK _ _ = true; kernel_rfl : drawX _ _ _), ?_⟩ | exact (by show drawK _ _ = true; kernel_rfl : drawX _ _ _) | simp -dsimp (maxSteps := 20000000) (disch := omega) only [simx, zzC, zzB, tys, ite_self, opnL, callB, callX, readsB, stepOp, nilCmp, ofVal, opBuiltin, opLen, PV.sk, scalBin, scalUn, intBin, opLoad, natOf, opConvert, opField, cellsP, oneP, Value.oneCell', opStore, toIV, scalT, scalA, scalC, boxesA, boxesC, zipB_none, zipB_mx, isZ, opZip, zeroP, opAppendZ, opMakeMap, opLookup, mboxB, opUpdate, ↓reduceIte, Nat.reduceSub, Nat.reduceEqDiff, Nat.reduceAdd, Nat.reduceMul, Nat.reduceLT, Nat.reduceLeDiff, Int.reduceToNat, Int.reduceLE, Int.reduceLT, Int.reduceNeg, reduceCtorEq, gos, Int.reduceAdd, Int.reduceSub, Int.reduceMul, Int.reduceEq, rowP_zero])
    rfl
  · funext c
    simp (maxSteps := 20000000) only [Heap.drop_at, rowH_app, Heap.put_at, Heap.none_at, List.mem_cons, List.not_mem_nil, or_false]
    by_cases e0 : c = (0, 0) :: base
    · subst e0; simp [rowH_zero]
    by_cases e1 : c = (11, 2) :: base
    · subst e1; simp [rowH_zero]
    simp [e0, e1, rowH_zero]
  · omega
  · trivial
  · intro k hk _
    by_cases ck : k < rw0.length
    · obtain ⟨i0, i1⟩ := hw.rb (rw0.getD k 0) (getD_mm ck)
      obtain ⟨i, hi⟩ : ∃ i : Nat, rw0.getD k 0 = i := ⟨(rw0.getD k 0).toNat, by omega⟩
      have iR : i < R := by omega
      have g1 : (rw0.map ii)[k]? = some (ii (i : Int)) := by rw [List.getElem?_map, getD_at' (d := 0) ck, Option.map_some, hi]
      have g2 : (b.map iu)[i]? = some (iu (b.getD i 0)) := by rw [List.getElem?_map, getD_some hl iR]; rfl
      obtain ⟨x1, x2⟩ := hw.cr (cc.getD i []) (getD_mm (by simp only; omega))
      simp only at x1
      have g3 : (cc.map fun u => IV.l u.length (u.map iu))[i]? = some (.l rw0.length ((cc.getD i []).map iu)) := by rw [List.getElem?_map, getD_at' (d := []) (by omega), Option.map_some, x1]
      have zl := hlL_len p (rw0, cw, cc, uu) b k
      have zi := hlL_in hp hw hb hl k (by simp only; omega)
      have hx := fun j => hlX_in hp (rw0, cw, cc, uu) hb (hlL p (rw0, cw, cc, uu) b k) (i := i) (by omega) j
      have hx0 : b.getD i 0 = hlX p (rw0, cw, cc, uu) b (hlL p (rw0, cw, cc, uu) b k) i 0 := rfl
      have hxs : ∀ j, hlX p (rw0, cw, cc, uu) b (hlL p (rw0, cw, cc, uu) b k) i (j + 1) = (hlX p (rw0, cw, cc, uu) b (hlL p (rw0, cw, cc, uu) b k) i j - (cc.getD i []).getD j 0 * (hlL p (rw0, cw, cc, uu) b k).getD j 0 % p) % p := fun j => rfl
      have hn : hlL p (rw0, cw, cc, uu) b (k + 1) = hlL p (rw0, cw, cc, uu) b k ++ [hlX p (rw0, cw, cc, uu) b (hlL p (rw0, cw, cc, uu) b k) i k] := by rw [hlL]; simp only [hi, Int.toNat_natCast]
      rw [hx0] at g2
      generalize hlX p (rw0, cw, cc, uu) b (hlL p (rw0, cw, cc, uu) b k) i = X at g2 hx hxs hn
      generalize hZ : hlL p (rw0, cw, cc, uu) b k = Z at zl zi hxs hn ⊢
      generalize cc.getD i [] = D at g3 x1 x2 hxs
      repeat (first | refine X_opc rfl ?_ | refine X_dopc rfl ?_ | refine ⟨(by show drawK _ _ = true; kernel_rfl : drawX _ _ _), ?_⟩ | exact (by show drawK _ _ = true; kernel_rfl : drawX _ _ _) | simp -dsimp (maxSteps := 20000000) (disch := omega) only [simx, zzC, zzB, tys, ite_self, opnL, callB, callX, readsB, stepOp, nilCmp, ofVal, opBuiltin, opLen, PV.sk, scalBin, scalUn, intBin, opLoad, natOf, opConvert, opField, cellsP, oneP, Value.oneCell', opStore, toIV, scalT, scalA, scalC, boxesA, boxesC, zipB_none, zipB_mx, isZ, opZip, zeroP, opAppendZ, opMakeMap, opLookup, mboxB, opUpdate, ↓reduceIte, Nat.reduceSub, Nat.reduceEqDiff, Nat.reduceAdd, Nat.reduceMul, Nat.reduceLT, Nat.reduceLeDiff, Int.reduceToNat, Int.reduceLE, Int.reduceLT, Int.reduceNeg, reduceCtorEq, gos, Int.reduceAdd, Int.reduceSub, Int.reduceMul, Int.reduceEq, ck, List.length_map, g1, g2, iR])
      refine X_loopH [1, 2, 5, 7, 8, 12, 13, 14, 23, 24] [] (0) (k) (fun j => True) (fun j => [(8, u64 (X j)), (24, i64 j)]) (fun j => rowH (Heap.none.put ((0, 0) :: base) (.var [li rw0, li cw, llP cc, llP uu, u64 p, i64 R, i64 C, lu l, lu vs])) ((11, 3) :: base) k (Z.map iu)) ?_ ?_ ?_ ?_ ?_ (by decide) ?_
      · exact (fgt_nil)
      · ((simp -dsimp (disch := omega) only [simx, zzB, tys, ite_self, opnL, callB, callX, readsB, stepOp, nilCmp, ofVal, opBuiltin, opLen, PV.sk, scalBin, scalUn, intBin, opLoad, natOf, opConvert, opField, cellsP, oneP, Value.oneCell', opStore, toIV, scalT, scalA, scalC, boxesA, boxesC, zipB_none, zipB_mx, isZ, opZip, zeroP, opAppendZ, opMakeMap, opLookup, mboxB, opUpdate, ↓reduceIte, Nat.reduceSub, Nat.reduceEqDiff, Nat.reduceAdd, Nat.reduceMul, Nat.reduceLT, Nat.reduceLeDiff, Int.reduceToNat, Int.reduceLE, Int.reduceLT, Int.reduceNeg, reduceCtorEq, gos, Int.reduceAdd, Int.reduceSub, Int.reduceMul, Int.reduceEq]) <;> first | rfl | simp)
      · exact drop_nil _
      · omega
      · trivial
      · intro j hj _
        by_cases cj : j < k
        · have jr : j < rw0.length := by omega
          have rp : rowP ((11, 3) :: base) 1 k (Z.map iu) = .view ((11, 3) :: base) 0 1 k k := by unfold rowP; rw [if_neg (by omega), List.length_map, zl]
          have rh : rowH (Heap.none.put ((0, 0) :: base) (.var [li rw0, li cw, llP cc, llP uu, u64 p, i64 R, i64 C, lu l, lu vs])) ((11, 3) :: base) k (Z.map iu) = (Heap.none.put ((0, 0) :: base) (.var [li rw0, li cw, llP cc, llP uu, u64 p, i64 R, i64 C, lu l, lu vs])).put ((11, 3) :: base) (.row false (Z.map iu)) := if_neg (by omega)
          have g4 : (D.map iu)[j]? = some (iu (D.getD j 0)) := by rw [List.getElem?_map, getD_some x1 jr]; rfl
          have g5 : (Z.map iu)[j]? = some (iu (Z.getD j 0)) := by rw [List.getElem?_map, getD_some zl cj]; rfl
          have m1 := tmul_walk R C l (rw0, cw, cc, uu) vs hp (getD_of x2 (i := j) (by omega)) (getD_of zi (i := j) (by omega))
          have m2 := tsub_walk R C l (rw0, cw, cc, uu) vs hp (hx j) (in_emod hp (D.getD j 0 * Z.getD j 0))
          have hs := hxs j
          rw [← hs] at m2
          rw [rp, rh]
          repeat (first | ((first | refine X_call_fn2 rfl (by simp only [tys]) ?_ | refine X_dcall_fn2 rfl (by simp only [tys]) ?_); apply Exists.intro; apply And.intro; (focus (simp -dsimp only [simx, zzC, zzB, tys, ite_self, opnL, callB, callX, readsB, stepOp, nilCmp, ofVal, opBuiltin, opLen, PV.sk, scalBin, scalUn, intBin, opLoad, natOf, opConvert, opField, cellsP, oneP, Value.oneCell', opStore, toIV, scalT, scalA, scalC, boxesA, boxesC, zipB_none, zipB_mx, isZ, opZip, zeroP, opAppendZ, opMakeMap, opLookup, mboxB, opUpdate, ↓reduceIte, Nat.reduceSub, Nat.reduceEqDiff, Nat.reduceAdd, Nat.reduceMul, Nat.reduceLT, Nat.reduceLeDiff, Int.reduceToNat, Int.reduceLE, Int.reduceLT, Int.reduceNeg, reduceCtorEq, zzL, if_true, if_false] <;> rfl)); apply Exists.intro; apply And.intro; (focus (first | exact m1 | exact m2))) | refine X_opc rfl ?_ | refine X_dopc rfl ?_ | refine ⟨(by show drawK _ _ = true; kernel_rfl : drawX _ _ _), ?_⟩ | exact (by show drawK _ _ = true; kernel_rfl : drawX _ _ _) | simp -dsimp (maxSteps := 20000000) (disch := omega) only [simx, zzC, zzB, tys, ite_self, opnL, callB, callX, readsB, stepOp, nilCmp, ofVal, opBuiltin, opLen, PV.sk, scalBin, scalUn, intBin, opLoad, natOf, opConvert, opField, cellsP, oneP, Value.oneCell', opStore, toIV, scalT, scalA, scalC, boxesA, boxesC, zipB_none, zipB_mx, isZ, opZip, zeroP, opAppendZ, opMakeMap, opLookup, mboxB, opUpdate, ↓reduceIte, Nat.reduceSub, Nat.reduceEqDiff, Nat.reduceAdd, Nat.reduceMul, Nat.reduceLT, Nat.reduceLeDiff, Int.reduceToNat, Int.reduceLE, Int.reduceLT, Int.reduceNeg, reduceCtorEq, gos, Int.reduceAdd, Int.reduceSub, Int.reduceMul, Int.reduceEq, cj, jr, ccl, iR, List.length_map, g3, g4, g5, zl])
          refine ⟨cj, (fgt_nil), rfl, ?_⟩
          exact drop_nil _
        · have ej : k = j := by omega
          subst ej
          repeat (first | refine X_opc rfl ?_ | refine X_dopc rfl ?_ | refine ⟨(by show drawK _ _ = true; kernel_rfl : drawX _ _ _), ?_⟩ | exact (by show drawK _ _ = true; kernel_rfl : drawX _ _ _) | simp -dsimp (maxSteps := 20000000) (disch := omega) only [simx, zzC, zzB, tys, ite_self, opnL, callB, callX, readsB, stepOp, nilCmp, ofVal, opBuiltin, opLen, PV.sk, scalBin, scalUn, intBin, opLoad, natOf, opConvert, opField, cellsP, oneP, Value.oneCell', opStore, toIV, scalT, scalA, scalC, boxesA, boxesC, zipB_none, zipB_mx, isZ, opZip, zeroP, opAppendZ, opMakeMap, opLookup, mboxB, opUpdate, ↓reduceIte, Nat.reduceSub, Nat.reduceEqDiff, Nat.reduceAdd, Nat.reduceMul, Nat.reduceLT, Nat.reduceLeDiff, Int.reduceToNat, Int.reduceLE, Int.reduceLT, Int.reduceNeg, reduceCtorEq, gos, Int.reduceAdd, Int.reduceSub, Int.reduceMul, Int.reduceEq])
          refine X_append_one (s := (11, 3) :: base) (n := k) (z := 1) (cs := Z.map iu) 22 [.int .u64 0] [iu (X k)] (by simp only [tys]) (by simp only [tys]) rfl (by decide) (by simp [zl]) (by simp [rowH_app, Heap.put_at, Heap.none_at]) (by simp [Heap.put_at]; rfl) rfl (by simp only [tys]; omega) (by rw [mx_len]; omega) ?_
          repeat (first | refine X_opc rfl ?_ | refine X_dopc rfl ?_ | refine ⟨(by show drawK _ _ = true; kernel_rfl : drawX _ _ _), ?_⟩ | exact (by show drawK _ _ = true; kernel_rfl : drawX _ _ _) | simp -dsimp (maxSteps := 20000000) (disch := omega) only [simx, zzC, zzB, tys, ite_self, opnL, callB, callX, readsB, stepOp, nilCmp, ofVal, opBuiltin, opLen, PV.sk, scalBin, scalUn, intBin, opLoad, natOf, opConvert, opField, cellsP, oneP, Value.oneCell', opStore, toIV, scalT, scalA, scalC, boxesA, boxesC, zipB_none, zipB_mx, isZ, opZip, zeroP, opAppendZ, opMakeMap, opLookup, mboxB, opUpdate, ↓reduceIte, Nat.reduceSub, Nat.reduceEqDiff, Nat.reduceAdd, Nat.reduceMul, Nat.reduceLT, Nat.reduceLeDiff, Int.reduceToNat, Int.reduceLE, Int.reduceLT, Int.reduceNeg, reduceCtorEq, gos, Int.reduceAdd, Int.reduceSub, Int.reduceMul, Int.reduceEq])
          refine ⟨ck, (fgt_cons (by simp only [Heap.none_at]) (by (simp -dsimp only [zzB, tys, ite_self, opnL, callB, callX, readsB, stepOp, nilCmp, ofVal, opBuiltin, opLen, PV.sk, scalBin, scalUn, intBin, opLoad, natOf, opConvert, opField, cellsP, oneP, Value.oneCell', opStore, toIV, scalT, scalA, scalC, boxesA, boxesC, zipB_none, zipB_mx, isZ, opZip, zeroP, opAppendZ, opMakeMap, opLookup, mboxB, opUpdate, ↓reduceIte, Nat.reduceSub, Nat.reduceEqDiff, Nat.reduceAdd, Nat.reduceMul, Nat.reduceLT, Nat.reduceLeDiff, Int.reduceToNat, Int.reduceLE, Int.reduceLT, Int.reduceNeg, reduceCtorEq, notIn_cons, notIn_nil]) <;> simp [refsL, refsP, mem_refs_rowP]) (by repeat (first | exact noVar_none _ | refine noVar_row ?_ | refine noVar_map ?_ | refine noVar_rowH ?_ | refine noVar_var ?_ (by simp [refsL, refsP, mem_refs_rowP]))) (fgt_nil)), ?_, ?_⟩
          · rw [hn, List.map_append]; exact ⟨rfl, rfl⟩
          · rw [hn, List.map_append, rowH_succ]
            funext c
            simp (maxSteps := 20000000) only [Heap.drop_at, rowH_app, Heap.put_at, Heap.none_at, List.mem_cons, List.not_mem_nil, or_false]
            by_cases e0 : c = (0, 0) :: base
            · subst e0; simp []
            by_cases e1 : c = (11, 2) :: base
            · subst e1; simp []
            by_cases e2 : c = (11, 3) :: base
            · subst e2; simp []
            simp [e0, e1, e2]
    · have ek : rw0.length = k := by omega
      have zl := hlL_len p (rw0, cw, cc, uu) b rw0.length
      subst ek
      simp only
      generalize hlL p (rw0, cw, cc, uu) b rw0.length = Z at zl ⊢
      rcases hr : rw0.length with _ | r
      · rw [hr] at zl
        have e0 : Z = [] := List.eq_nil_of_length_eq_zero zl
        subst e0
        repeat (first | refine X_opc rfl ?_ | refine X_dopc rfl ?_ | refine ⟨(by show drawK _ _ = true; kernel_rfl : drawX _ _ _), ?_⟩ | exact (by show drawK _ _ = true; kernel_rfl : drawX _ _ _) | simp -dsimp (maxSteps := 20000000) (disch := omega) only [simx, zzC, zzB, tys, ite_self, opnL, callB, callX, readsB, stepOp, nilCmp, ofVal, opBuiltin, opLen, PV.sk, scalBin, scalUn, intBin, opLoad, natOf, opConvert, opField, cellsP, oneP, Value.oneCell', opStore, toIV, scalT, scalA, scalC, boxesA, boxesC, zipB_none, zipB_mx, isZ, opZip, zeroP, opAppendZ, opMakeMap, opLookup, mboxB, opUpdate, ↓reduceIte, Nat.reduceSub, Nat.reduceEqDiff, Nat.reduceAdd, Nat.reduceMul, Nat.reduceLT, Nat.reduceLeDiff, Int.reduceToNat, Int.reduceLE, Int.reduceLT, Int.reduceNeg, reduceCtorEq, zzR, gos, Int.reduceAdd, Int.reduceSub, Int.reduceMul, Int.reduceEq, hr, rowP_zero, rowH_zero])
        rfl
      · rw [hr] at zl
        have nt : (Z.map iu).take (r + 1) = Z.map iu := List.take_of_length_le (by simp [zl])
        repeat (first | refine X_opc rfl ?_ | refine X_dopc rfl ?_ | refine ⟨(by show drawK _ _ = true; kernel_rfl : drawX _ _ _), ?_⟩ | exact (by show drawK _ _ = true; kernel_rfl : drawX _ _ _) | simp -dsimp (maxSteps := 20000000) (disch := omega) only [simx, zzC, zzB, tys, ite_self, opnL, callB, callX, readsB, stepOp, nilCmp, ofVal, opBuiltin, opLen, PV.sk, scalBin, scalUn, intBin, opLoad, natOf, opConvert, opField, cellsP, oneP, Value.oneCell', opStore, toIV, scalT, scalA, scalC, boxesA, boxesC, zipB_none, zipB_mx, isZ, opZip, zeroP, opAppendZ, opMakeMap, opLookup, mboxB, opUpdate, ↓reduceIte, Nat.reduceSub, Nat.reduceEqDiff, Nat.reduceAdd, Nat.reduceMul, Nat.reduceLT, Nat.reduceLeDiff, Int.reduceToNat, Int.reduceLE, Int.reduceLT, Int.reduceNeg, reduceCtorEq, zzR, gos, Int.reduceAdd, Int.reduceSub, Int.reduceMul, Int.reduceEq, hr, rowP_succ, rowH_succ, List.length_map, zl, nt])
        simp [zl]
end Go.Proofs.Ytmalpmnmknpphaa.TM
namespace Go.Proofs.Ytmalpmnmknpphaa.TM
open Go Go.RowKit
attribute [local irreducible] K W WOps Effs Xg Xo Xr Xdg Xdo Xdr Xif CallsP CallR
def svN (p : Int) (c : CupT) (z : List Int) (k : Nat) (x : List Int) : Nat → Int
  | 0 => z.getD k 0
  | q + 1 => if (q : Int) = c.2.1.getD k 0 then svN p c z k x q else (svN p c z k x q - (c.2.2.2.getD k []).getD q 0 * x.getD q 0 % p) % p
def svS (p : Int) (C : Nat) (c : CupT) (vs z x : List Int) (k : Nat) : List Int := tbl C (fun j => if j = (c.2.1.getD k 0).toNat then svN p c z k x C * vs.getD k 0 % p else x.getD j 0)
def svL (p : Int) (C : Nat) (c : CupT) (vs z x : List Int) : Nat → List Int
  | 0 => x
  | d + 1 => svS p C c vs z (svL p C c vs z x d) (c.1.length - 1 - d)
theorem svL_len {p : Int} {C : Nat} {c : CupT} {vs z x : List Int} (hx : x.length = C) : ∀ d, (svL p C c vs z x d).length = C
  | 0 => hx
  | d + 1 => tbl_len ..
theorem svN_in {p : Int} (hp : Md p) {c : CupT} {z : List Int} (hz : ∀ a ∈ z, In p a) {k : Nat} (hk : k < z.length) (x : List Int) : ∀ q, In p (svN p c z k x q)
  | 0 => getD_of hz hk
  | q + 1 => by
    rw [svN]; split
    · exact svN_in hp hz hk x q
    · exact in_emod hp _
theorem svL_in {p : Int} {C : Nat} (hp : Md p) {c : CupT} {vs z x : List Int} (hx : ∀ a ∈ x, In p a) (hxl : x.length = C) : ∀ d, ∀ a ∈ svL p C c vs z x d, In p a
  | 0 => hx
  | d + 1 => fun a ha => by
    obtain ⟨j, hj, rfl⟩ := tbl_mem ha
    (try simp only)
    split
    · exact in_emod hp _
    · exact getD_of (svL_in hp hx hxl d) (by rw [svL_len hxl]; exact hj)
set_option maxHeartbeats 4000000 in
theorem solved_walk {p : Int} {R C : Nat} {l : List Int} {c : CupT} {vs z x : List Int} (hp : Md p) (hw : CupW p R C c) (hR : R ≤ 64) (hC : C ≤ 64) (hx : ∀ a ∈ x, In p a) (hxl : x.length = C) (hz : ∀ a ∈ z, In p a) (hzl : z.length = c.1.length) (hv : ∀ a ∈ vs, In p a) (hvl : vs.length = c.1.length) :
    CallsW Try.prog 69 [takenP p R C l c vs, .view wN 0 1 C C, .i (.l c.1.length (z.map iu))] (.tup []) (x.map iu) ((svL p C c vs z x c.1.length).map iu) := by
  obtain ⟨rw0, cw, cc, uu⟩ := c
  have rle := hw.rle
  have ql := hw.ql
  have ul := hw.ul
  simp only at rle ql ul hzl hvl ⊢
  intro base
  show ∃ hu, CallR Try.prog base 69 [takenP p R C l (rw0, cw, cc, uu) vs, .view [(950, 0)] 0 1 C C, .i (.l rw0.length (z.map iu))] (Heap.none.put [(950, 0)] (.row false (x.map iu))) (.tup []) hu ∧ hu [(950, 0)] = _
  refine X_startE (n := 70) (m := 3) (rs := []) Try.func69 rfl rfl rfl rfl (by decide) ?_
  repeat (first | refine X_opc rfl ?_ | refine X_dopc rfl ?_ | refine ⟨(by show drawK _ _ = true; kernel_rfl : drawX _ _ _), ?_⟩ | exact (by show drawK _ _ = true; kernel_rfl : drawX _ _ _) | simp -dsimp (maxSteps := 20000000) (disch := omega) only [simx, zzC, zzB, tys, ite_self, opnL, callB, callX, readsB, stepOp, nilCmp, ofVal, opBuiltin, opLen, PV.sk, scalBin, scalUn, intBin, opLoad, natOf, opConvert, opField, cellsP, oneP, Value.oneCell', opStore, toIV, scalT, scalA, scalC, boxesA, boxesC, zipB_none, zipB_mx, isZ, opZip, zeroP, opAppendZ, opMakeMap, opLookup, mboxB, opUpdate, ↓reduceIte, Nat.reduceSub, Nat.reduceEqDiff, Nat.reduceAdd, Nat.reduceMul, Nat.reduceLT, Nat.reduceLeDiff, Int.reduceToNat, Int.reduceLE, Int.reduceLT, Int.reduceNeg, reduceCtorEq, gos, Int.reduceAdd, Int.reduceSub, Int.reduceMul, Int.reduceEq])
  refine X_loopH [1, 2, 3, 6] [] (0) (rw0.length) (fun j => True) (fun j => [(6, i64 ((rw0.length : Int) - 1 - (j : Int)))]) (fun j => (Heap.none.put [(950, 0)] (.row false ((svL p C (rw0, cw, cc, uu) vs z x j).map iu))).put ((0, 0) :: base) (.var [li rw0, li cw, llP cc, llP uu, u64 p, i64 R, i64 C, lu l, lu vs])) ?_ ?_ ?_ ?_ ?_ (by decide) ?_
  · exact (fgt_nil)
  · repeat (first | refine X_opc rfl ?_ | refine X_dopc rfl ?_ | refine ⟨(by show drawK _ _ = true; kernel_rfl : drawX _ _ _), ?_⟩ | exact (by show drawK _ _ = true; kernel_rfl : drawX _ _ _) | simp -dsimp (maxSteps := 20000000) (disch := omega) only [simx, zzC, zzB, tys, ite_self, opnL, callB, callX, readsB, stepOp, nilCmp, ofVal, opBuiltin, opLen, PV.sk, scalBin, scalUn, intBin, opLoad, natOf, opConvert, opField, cellsP, oneP, Value.oneCell', opStore, toIV, scalT, scalA, scalC, boxesA, boxesC, zipB_none, zipB_mx, isZ, opZip, zeroP, opAppendZ, opMakeMap, opLookup, mboxB, opUpdate, ↓reduceIte, Nat.reduceSub, Nat.reduceEqDiff, Nat.reduceAdd, Nat.reduceMul, Nat.reduceLT, Nat.reduceLeDiff, Int.reduceToNat, Int.reduceLE, Int.reduceLT, Int.reduceNeg, reduceCtorEq, gos, Int.reduceAdd, Int.reduceSub, Int.reduceMul, Int.reduceEq, ul])
    rw [show ((rw0.length : Int) - 1 - ((0 : Nat) : Int)) = (rw0.length : Int) - 1 by omega]
  · rw [drop_nil]; rfl
  · omega
  · trivial
  · intro d hd _
    by_cases cd : d < rw0.length
    · obtain ⟨k, hk⟩ : ∃ k, rw0.length = d + k + 1 := ⟨rw0.length - d - 1, by omega⟩
      have ek : (rw0.length : Int) - 1 - (d : Int) = (k : Int) := by omega
      have kr : k < rw0.length := by omega
      have k0 : (0 : Int) ≤ (k : Int) := by omega
      obtain ⟨q0, q1⟩ := hw.qb (cw.getD k 0) (getD_mm (by simp only; omega))
      (try simp only at q0 q1)
      obtain ⟨q, hq⟩ : ∃ q : Nat, cw.getD k 0 = q := ⟨(cw.getD k 0).toNat, by omega⟩
      have qC : q < C := by omega
      obtain ⟨u1, u2⟩ := hw.ur (uu.getD k []) (getD_mm (by simp only; omega))
      have xl := svL_len (p := p) (c := (rw0, cw, cc, uu)) (vs := vs) (z := z) hxl d
      have xi := svL_in hp (c := (rw0, cw, cc, uu)) (vs := vs) (z := z) hx hxl d
      have sn := fun j => svN_in hp (c := (rw0, cw, cc, uu)) hz (k := k) (by omega) (svL p C (rw0, cw, cc, uu) vs z x d) j
      have s0 : svN p (rw0, cw, cc, uu) z k (svL p C (rw0, cw, cc, uu) vs z x d) 0 = z.getD k 0 := rfl
      have ss : ∀ j, svN p (rw0, cw, cc, uu) z k (svL p C (rw0, cw, cc, uu) vs z x d) (j + 1) = if (j : Int) = (q : Int) then svN p (rw0, cw, cc, uu) z k (svL p C (rw0, cw, cc, uu) vs z x d) j else (svN p (rw0, cw, cc, uu) z k (svL p C (rw0, cw, cc, uu) vs z x d) j - (uu.getD k []).getD j 0 * (svL p C (rw0, cw, cc, uu) vs z x d).getD j 0 % p) % p := fun j => by rw [svN]; simp only [hq]
      have sl : svL p C (rw0, cw, cc, uu) vs z x (d + 1) = tbl C (fun j => if j = q then svN p (rw0, cw, cc, uu) z k (svL p C (rw0, cw, cc, uu) vs z x d) C * vs.getD k 0 % p else (svL p C (rw0, cw, cc, uu) vs z x d).getD j 0) := by
        rw [svL, svS]; simp only [show rw0.length - 1 - d = k by omega, hq, Int.toNat_natCast]
      have g1 : (z.map iu)[k]? = some (iu (z.getD k 0)) := by rw [List.getElem?_map, getD_some hzl kr]; rfl
      have g2 : (uu.map fun u => IV.l u.length (u.map iu))[k]? = some (.l C ((uu.getD k []).map iu)) := by rw [List.getElem?_map, getD_at' (d := []) (by omega), Option.map_some, u1]
      have g3 : (cw.map ii)[k]? = some (ii (q : Int)) := by rw [List.getElem?_map, getD_at' (d := 0) (by omega), Option.map_some, hq]
      have g4 : (vs.map iu)[k]? = some (iu (vs.getD k 0)) := by rw [List.getElem?_map, getD_some hvl kr]; rfl
      have xt := tbl_of xl
      have vi := getD_of hv (i := k) (by omega)
      rw [← s0] at g1
      generalize svN p (rw0, cw, cc, uu) z k (svL p C (rw0, cw, cc, uu) vs z x d) = S at sn ss sl g1
      generalize hX : svL p C (rw0, cw, cc, uu) vs z x d = X at xl xi ss sl xt ⊢
      generalize uu.getD k [] = U at u1 u2 g2 ss
      generalize vs.getD k 0 = V at g4 sl vi
      clear s0
      repeat (first | refine X_opc rfl ?_ | refine X_dopc rfl ?_ | refine ⟨(by show drawK _ _ = true; kernel_rfl : drawX _ _ _), ?_⟩ | exact (by show drawK _ _ = true; kernel_rfl : drawX _ _ _) | simp -dsimp (maxSteps := 20000000) (disch := omega) only [simx, zzC, zzB, tys, ite_self, opnL, callB, callX, readsB, stepOp, nilCmp, ofVal, opBuiltin, opLen, PV.sk, scalBin, scalUn, intBin, opLoad, natOf, opConvert, opField, cellsP, oneP, Value.oneCell', opStore, toIV, scalT, scalA, scalC, boxesA, boxesC, zipB_none, zipB_mx, isZ, opZip, zeroP, opAppendZ, opMakeMap, opLookup, mboxB, opUpdate, ↓reduceIte, Nat.reduceSub, Nat.reduceEqDiff, Nat.reduceAdd, Nat.reduceMul, Nat.reduceLT, Nat.reduceLeDiff, Int.reduceToNat, Int.reduceLE, Int.reduceLT, Int.reduceNeg, reduceCtorEq, gos, Int.reduceAdd, Int.reduceSub, Int.reduceMul, Int.reduceEq, ek, k0, kr, g1, g2, hzl, List.length_map, ul])
      refine X_loopH [1, 2, 3, 6, 7, 28, 29, 30] [] (0) (C) (fun j => True) (fun j => [(7, u64 (S j)), (30, i64 j)]) (fun j => (Heap.none.put [(950, 0)] (.row false (X.map iu))).put ((0, 0) :: base) (.var [li rw0, li cw, llP cc, llP uu, u64 p, i64 R, i64 C, lu l, lu vs])) ?_ ?_ ?_ ?_ ?_ (by decide) ?_
      · exact (fgt_nil)
      · ((simp -dsimp (disch := omega) only [simx, zzB, tys, ite_self, opnL, callB, callX, readsB, stepOp, nilCmp, ofVal, opBuiltin, opLen, PV.sk, scalBin, scalUn, intBin, opLoad, natOf, opConvert, opField, cellsP, oneP, Value.oneCell', opStore, toIV, scalT, scalA, scalC, boxesA, boxesC, zipB_none, zipB_mx, isZ, opZip, zeroP, opAppendZ, opMakeMap, opLookup, mboxB, opUpdate, ↓reduceIte, Nat.reduceSub, Nat.reduceEqDiff, Nat.reduceAdd, Nat.reduceMul, Nat.reduceLT, Nat.reduceLeDiff, Int.reduceToNat, Int.reduceLE, Int.reduceLT, Int.reduceNeg, reduceCtorEq, gos, Int.reduceAdd, Int.reduceSub, Int.reduceMul, Int.reduceEq]) <;> first | rfl | simp)
      · exact drop_nil _
      · omega
      · trivial
      · intro j hj _
        by_cases cj : j < C
        · have g5 : (U.map iu)[j]? = some (iu (U.getD j 0)) := by rw [List.getElem?_map, getD_some u1 cj]; rfl
          have g6 : (X.map iu)[j]? = some (iu (X.getD j 0)) := by rw [List.getElem?_map, getD_some xl cj]; rfl
          have m1 := tmul_walk R C l (rw0, cw, cc, uu) vs hp (getD_of u2 (i := j) (by omega)) (getD_of xi (i := j) (by omega))
          have m2 := tsub_walk R C l (rw0, cw, cc, uu) vs hp (sn j) (in_emod hp (U.getD j 0 * X.getD j 0))
          have s1 := ss j
          by_cases e : (j : Int) = (q : Int)
          · rw [if_pos e] at s1
            rw [← s1]
            have ejq : j = q := by omega
            subst ejq
            repeat (first | refine X_opc rfl ?_ | refine X_dopc rfl ?_ | refine ⟨(by show drawK _ _ = true; kernel_rfl : drawX _ _ _), ?_⟩ | exact (by show drawK _ _ = true; kernel_rfl : drawX _ _ _) | simp -dsimp (maxSteps := 20000000) (disch := omega) only [simx, zzC, zzB, tys, ite_self, opnL, callB, callX, readsB, stepOp, nilCmp, ofVal, opBuiltin, opLen, PV.sk, scalBin, scalUn, intBin, opLoad, natOf, opConvert, opField, cellsP, oneP, Value.oneCell', opStore, toIV, scalT, scalA, scalC, boxesA, boxesC, zipB_none, zipB_mx, isZ, opZip, zeroP, opAppendZ, opMakeMap, opLookup, mboxB, opUpdate, ↓reduceIte, Nat.reduceSub, Nat.reduceEqDiff, Nat.reduceAdd, Nat.reduceMul, Nat.reduceLT, Nat.reduceLeDiff, Int.reduceToNat, Int.reduceLE, Int.reduceLT, Int.reduceNeg, reduceCtorEq, gos, Int.reduceAdd, Int.reduceSub, Int.reduceMul, Int.reduceEq, cj, g5, g3, ek, k0, kr, ql, List.length_map])
            refine ⟨cj, (fgt_nil), rfl, drop_nil _⟩
          · rw [if_neg e] at s1
            rw [← s1] at m2
            repeat (first | ((first | refine X_call_fn2 rfl (by simp only [tys]) ?_ | refine X_dcall_fn2 rfl (by simp only [tys]) ?_); apply Exists.intro; apply And.intro; (focus (simp -dsimp only [simx, zzC, zzB, tys, ite_self, opnL, callB, callX, readsB, stepOp, nilCmp, ofVal, opBuiltin, opLen, PV.sk, scalBin, scalUn, intBin, opLoad, natOf, opConvert, opField, cellsP, oneP, Value.oneCell', opStore, toIV, scalT, scalA, scalC, boxesA, boxesC, zipB_none, zipB_mx, isZ, opZip, zeroP, opAppendZ, opMakeMap, opLookup, mboxB, opUpdate, ↓reduceIte, Nat.reduceSub, Nat.reduceEqDiff, Nat.reduceAdd, Nat.reduceMul, Nat.reduceLT, Nat.reduceLeDiff, Int.reduceToNat, Int.reduceLE, Int.reduceLT, Int.reduceNeg, reduceCtorEq, zzL, if_true, if_false] <;> rfl)); apply Exists.intro; apply And.intro; (focus (first | exact m1 | exact m2))) | refine X_opc rfl ?_ | refine X_dopc rfl ?_ | refine ⟨(by show drawK _ _ = true; kernel_rfl : drawX _ _ _), ?_⟩ | exact (by show drawK _ _ = true; kernel_rfl : drawX _ _ _) | simp -dsimp (maxSteps := 20000000) (disch := omega) only [simx, zzC, zzB, tys, ite_self, opnL, callB, callX, readsB, stepOp, nilCmp, ofVal, opBuiltin, opLen, PV.sk, scalBin, scalUn, intBin, opLoad, natOf, opConvert, opField, cellsP, oneP, Value.oneCell', opStore, toIV, scalT, scalA, scalC, boxesA, boxesC, zipB_none, zipB_mx, isZ, opZip, zeroP, opAppendZ, opMakeMap, opLookup, mboxB, opUpdate, ↓reduceIte, Nat.reduceSub, Nat.reduceEqDiff, Nat.reduceAdd, Nat.reduceMul, Nat.reduceLT, Nat.reduceLeDiff, Int.reduceToNat, Int.reduceLE, Int.reduceLT, Int.reduceNeg, reduceCtorEq, gos, Int.reduceAdd, Int.reduceSub, Int.reduceMul, Int.reduceEq, cj, g5, g6, g3, ek, k0, kr, ql, List.length_map, e, xl])
            refine ⟨cj, (fgt_nil), rfl, drop_nil _⟩
        · have ej : C = j := by omega
          subst ej
          have m1 := tmul_walk R C l (rw0, cw, cc, uu) vs hp (sn C) vi
          have q1' : q + 1 ≤ C := qC
          have px := tbl_put_iu (fun i => X.getD i 0) (S C * V % p) qC
          rw [← xt] at px
          repeat (first | ((first | refine X_call_fn2 rfl (by simp only [tys]) ?_ | refine X_dcall_fn2 rfl (by simp only [tys]) ?_); apply Exists.intro; apply And.intro; (focus (simp -dsimp only [simx, zzC, zzB, tys, ite_self, opnL, callB, callX, readsB, stepOp, nilCmp, ofVal, opBuiltin, opLen, PV.sk, scalBin, scalUn, intBin, opLoad, natOf, opConvert, opField, cellsP, oneP, Value.oneCell', opStore, toIV, scalT, scalA, scalC, boxesA, boxesC, zipB_none, zipB_mx, isZ, opZip, zeroP, opAppendZ, opMakeMap, opLookup, mboxB, opUpdate, ↓reduceIte, Nat.reduceSub, Nat.reduceEqDiff, Nat.reduceAdd, Nat.reduceMul, Nat.reduceLT, Nat.reduceLeDiff, Int.reduceToNat, Int.reduceLE, Int.reduceLT, Int.reduceNeg, reduceCtorEq, zzL, if_true, if_false] <;> rfl)); apply Exists.intro; apply And.intro; (focus (first | exact m1))) | refine X_opc rfl ?_ | refine X_dopc rfl ?_ | refine ⟨(by show drawK _ _ = true; kernel_rfl : drawX _ _ _), ?_⟩ | exact (by show drawK _ _ = true; kernel_rfl : drawX _ _ _) | simp -dsimp (maxSteps := 20000000) (disch := omega) only [simx, zzC, zzB, tys, ite_self, opnL, callB, callX, readsB, stepOp, nilCmp, ofVal, opBuiltin, opLen, PV.sk, scalBin, scalUn, intBin, opLoad, natOf, opConvert, opField, cellsP, oneP, Value.oneCell', opStore, toIV, scalT, scalA, scalC, boxesA, boxesC, zipB_none, zipB_mx, isZ, opZip, zeroP, opAppendZ, opMakeMap, opLookup, mboxB, opUpdate, ↓reduceIte, Nat.reduceSub, Nat.reduceEqDiff, Nat.reduceAdd, Nat.reduceMul, Nat.reduceLT, Nat.reduceLeDiff, Int.reduceToNat, Int.reduceLE, Int.reduceLT, Int.reduceNeg, reduceCtorEq, gos, Int.reduceAdd, Int.reduceSub, Int.reduceMul, Int.reduceEq, g3, g4, ek, k0, kr, ql, hvl, List.length_map, qC, q1', xl])
          refine ⟨cd, (fgt_nil), ?_, ?_⟩
          · rw [show ((rw0.length : Int) - 1 - ((d + 1 : Nat) : Int)) = (k : Int) - 1 by omega]
          · rw [drop_nil, px, sl]
            funext c
            simp (maxSteps := 20000000) only [Heap.drop_at, rowH_app, Heap.put_at, Heap.none_at, List.mem_cons, List.not_mem_nil, or_false]
            by_cases e0 : c = [(950, 0)]
            · subst e0; simp []
            by_cases e1 : c = (0, 0) :: base
            · subst e1; simp []
            simp [e0, e1]
    · have ed : rw0.length = d := by omega
      subst ed
      have e1 : (rw0.length : Int) - 1 - (rw0.length : Int) = -1 := by omega
      repeat (first | refine X_opc rfl ?_ | refine X_dopc rfl ?_ | refine ⟨(by show drawK _ _ = true; kernel_rfl : drawX _ _ _), ?_⟩ | exact (by show drawK _ _ = true; kernel_rfl : drawX _ _ _) | simp -dsimp (maxSteps := 20000000) (disch := omega) only [simx, zzC, zzB, tys, ite_self, opnL, callB, callX, readsB, stepOp, nilCmp, ofVal, opBuiltin, opLen, PV.sk, scalBin, scalUn, intBin, opLoad, natOf, opConvert, opField, cellsP, oneP, Value.oneCell', opStore, toIV, scalT, scalA, scalC, boxesA, boxesC, zipB_none, zipB_mx, isZ, opZip, zeroP, opAppendZ, opMakeMap, opLookup, mboxB, opUpdate, ↓reduceIte, Nat.reduceSub, Nat.reduceEqDiff, Nat.reduceAdd, Nat.reduceMul, Nat.reduceLT, Nat.reduceLeDiff, Int.reduceToNat, Int.reduceLE, Int.reduceLT, Int.reduceNeg, reduceCtorEq, zzR, gos, Int.reduceAdd, Int.reduceSub, Int.reduceMul, Int.reduceEq, e1])
      rfl
end Go.Proofs.Ytmalpmnmknpphaa.TM
namespace Go.Proofs.Ytmalpmnmknpphaa.TM
open Go Go.RowKit Go.Shelf Go.Lib
set_option maxHeartbeats 2000000 in
set_option maxRecDepth 100000 in
theorem cloneE_walk : CallsP Try.prog 127 [.i (.l 0 [])] (.i (.l 0 [])) := by
  intro base
  refine ⟨.i (.l 0 []), Heap.none, CallR.of_sound ?_, rfl⟩
  intro β w rargs H Hr
  obtain ⟨h1, h2⟩ := Hr
  have h3 := h2 0 _ rfl
  obtain ⟨x, rfl⟩ : ∃ x, rargs = #[x] := by
    obtain ⟨l⟩ := rargs
    match l, h1 with
    | [x], _ => exact ⟨x, rfl⟩
  have h3 : Rep β Heap.none w (.i (.l 0 [])) x := h3
  have t23 : Try.prog.underlying 23 = some (.slice 22) := tk_sl (by simp only [tys])
  have q22 : ∀ (w : World) (a : Option Addr) (n c n' c' : Nat), (binOp .eql 23 (.slice a n c) (.slice none n' c')).run Try.prog w = .ok (.bool a.isNone) w := fun w a n c n' c' => Lib.run_eql_slice_nil w _ _ a n c n' c' t23
  have u22 : ∀ w, Sem.run Try.prog (underlying 23) w = .ok (TypeDesc.slice 22) w := run_underlying t23
  cases h3 with | i _ _ h3 => cases h3 with
  | nil =>
    go_enter Try.func127, Try.ntmps127
    go_wp2
    go_ret
    exact ⟨_, β, rfl, H, .i _ _ .nil, Ext.refl _ _ _⟩
  | l _ _ a cap f hc hr h1 hs =>
    go_enter Try.func127, Try.ntmps127
    go_wp2
    go_ret
    refine ⟨_, β, rfl, HInv.none fun blk hb => ?_, .i _ _ (.l 0 [] ⟨w.heap.size, 0, none⟩ 0 (fun _ => undef) (Nat.le_refl _) (fun j hj => absurd hj (Nat.not_lt_zero j)) (fun j hj => absurd hj (Nat.not_lt_zero j)) (fun j x hj => by simp at hj)), ?_⟩
    · have := H.flt blk hb
      show blk < (w.heap.push _).size
      simp; omega
    · refine ⟨rfl, rfl, rfl, ?_, rfl, fun blk hb hs => ⟨hs, hao w _ blk hb⟩, fun b x hb => (by cases hb), fun blk hb => szW_alloc w _ blk hb⟩
      show w.heap.size ≤ (w.heap.push _).size
      simp
end Go.Proofs.Ytmalpmnmknpphaa.TM
namespace Go.Proofs.Ytmalpmnmknpphaa.TM
open Go Go.RowKit
attribute [local irreducible] K W WOps Effs Xg Xo Xr Xdg Xdo Xdr Xif CallsP CallR
def rwLJ (p : Int) (c : CupT) (k : Nat) (x : List Int) (j : Nat) : List Int := tbl c.1.length (fun m => if m < j then (x.getD m 0 - x.getD k 0 * (c.2.2.1.getD (c.1.getD k 0).toNat []).getD m 0 % p) % p else x.getD m 0)
def rwYK (p : Int) (R : Nat) (c : CupT) (k : Nat) (x y : List Int) : List Int := tbl R (fun m => if m = (c.1.getD k 0).toNat then (0 - x.getD k 0) % p else y.getD m 0)
def rwS (p : Int) (R : Nat) (c : CupT) (i : Nat) : Nat → List Int × List Int
  | 0 => (c.2.2.1.getD i [], tbl R (fun m => if m = i then 1 else 0))
  | d + 1 => (rwLJ p c (c.1.length - 1 - d) (rwS p R c i d).1 (c.1.length - 1 - d), rwYK p R c (c.1.length - 1 - d) (rwS p R c i d).1 (rwS p R c i d).2)
def rowsV (p : Int) (R : Nat) (c : CupT) (i : Nat) : List Int := (rwS p R c i c.1.length).2
theorem rwS_len {p : Int} {R C : Nat} {c : CupT} (hw : CupW p R C c) {i : Nat} (hi : i < R) : ∀ d, (rwS p R c i d).1.length = c.1.length ∧ (rwS p R c i d).2.length = R
  | 0 => ⟨(hw.cr _ (getD_mm (by rw [hw.cl]; exact hi))).1, tbl_len ..⟩
  | d + 1 => ⟨tbl_len .., tbl_len ..⟩
theorem rwS_in {p : Int} {R C : Nat} {c : CupT} (hp : Md p) (hw : CupW p R C c) {i : Nat} (hi : i < R) : ∀ d, (∀ a ∈ (rwS p R c i d).1, In p a) ∧ ∀ a ∈ (rwS p R c i d).2, In p a
  | 0 => ⟨(hw.cr _ (getD_mm (by rw [hw.cl]; exact hi))).2, fun a ha => by
    obtain ⟨m, _, rfl⟩ := tbl_mem ha
    (try simp only)
    split
    · exact ⟨by decide, by have := hp.1; omega⟩
    · exact ⟨by decide, by have := hp.1; omega⟩⟩
  | d + 1 => by
    obtain ⟨h1, h2⟩ := rwS_in hp hw hi d
    obtain ⟨l1, l2⟩ := rwS_len hw hi d
    refine ⟨fun a ha => ?_, fun a ha => ?_⟩
    · obtain ⟨m, hm, rfl⟩ := tbl_mem ha
      (try simp only)
      split
      · exact in_emod hp _
      · exact getD_of h1 (by omega)
    · obtain ⟨m, hm, rfl⟩ := tbl_mem ha
      (try simp only)
      split
      · exact in_emod hp _
      · exact getD_of h2 (by omega)
theorem rwLJ_zero {p : Int} {c : CupT} {k : Nat} {x : List Int} (hx : x.length = c.1.length) : rwLJ p c k x 0 = x := by
  unfold rwLJ
  simp only [Nat.not_lt_zero, if_false]
  exact (tbl_of hx).symm
set_option maxHeartbeats 4000000 in
theorem rows0_walk {p : Int} {R C : Nat} {l : List Int} {c : CupT} {vs : List Int} {i : Nat} (hp : Md p) (hw : CupW p R C c) (hR : R ≤ 64) (hi : i < R) (hr : c.1.length = 0) :
    CallsP Try.prog 112 [takenP p R C l c vs, i64 i] (lu (rowsV p R c i)) := by
  have e : rowsV p R c i = tbl R (fun m => if m = i then 1 else 0) := by unfold rowsV; rw [hr]; rfl
  rw [e]
  obtain ⟨rw0, cw, cc, uu⟩ := c
  have ccl := hw.cl
  obtain ⟨x1, x2⟩ := hw.cr (cc.getD i []) (getD_mm (by rw [ccl]; exact hi))
  simp only at ccl x1 hr
  have e0 : cc.getD i [] = [] := List.eq_nil_of_length_eq_zero (by omega)
  have g3 : (cc.map fun u => IV.l u.length (u.map iu))[i]? = some (.l 0 []) := by rw [List.getElem?_map, getD_at' (d := []) (by omega), Option.map_some, e0]; rfl
  have cl := cloneE_walk
  have rl : ((zeroRow [Value.int .u64 0] R).map IV.v).length = R := by rw [List.length_map, zeroRow_len]; simp
  have px := tbl_put_iu (fun _ => 0) 1 hi
  have i1 : i + 1 ≤ R := hi
  have b1 : R * 8 ≤ 140737488355328 := by omega
  have b2 : R ≤ 140737488355328 := by omega
  rw [← zero_tbl R] at px
  refine X_startP (n := 78) (m := 2) (rs := [.tmp 4]) Try.func112 rfl rfl rfl rfl (by decide) fun base => ?_
  repeat (first | ((first | refine X_call_fn2 rfl (by simp only [tys]) ?_ | refine X_dcall_fn2 rfl (by simp only [tys]) ?_); apply Exists.intro; apply And.intro; (focus (simp -dsimp only [simx, zzC, zzB, tys, ite_self, opnL, callB, callX, readsB, stepOp, nilCmp, ofVal, opBuiltin, opLen, PV.sk, scalBin, scalUn, intBin, opLoad, natOf, opConvert, opField, cellsP, oneP, Value.oneCell', opStore, toIV, scalT, scalA, scalC, boxesA, boxesC, zipB_none, zipB_mx, isZ, opZip, zeroP, opAppendZ, opMakeMap, opLookup, mboxB, opUpdate, ↓reduceIte, Nat.reduceSub, Nat.reduceEqDiff, Nat.reduceAdd, Nat.reduceMul, Nat.reduceLT, Nat.reduceLeDiff, Int.reduceToNat, Int.reduceLE, Int.reduceLT, Int.reduceNeg, reduceCtorEq, zzL, if_true, if_false] <;> rfl)); apply Exists.intro; apply And.intro; (focus (first | exact cl))) | refine X_opc rfl ?_ | refine X_dopc rfl ?_ | refine ⟨(by show drawK _ _ = true; kernel_rfl : drawX _ _ _), ?_⟩ | exact (by show drawK _ _ = true; kernel_rfl : drawX _ _ _) | simp -dsimp (maxSteps := 20000000) (disch := omega) only [simx, zzC, zzB, tys, ite_self, opnL, callB, callX, readsB, stepOp, nilCmp, ofVal, opBuiltin, opLen, PV.sk, scalBin, scalUn, intBin, opLoad, natOf, opConvert, opField, cellsP, oneP, Value.oneCell', opStore, toIV, scalT, scalA, scalC, boxesA, boxesC, zipB_none, zipB_mx, isZ, opZip, zeroP, opAppendZ, opMakeMap, opLookup, mboxB, opUpdate, ↓reduceIte, Nat.reduceSub, Nat.reduceEqDiff, Nat.reduceAdd, Nat.reduceMul, Nat.reduceLT, Nat.reduceLeDiff, Int.reduceToNat, Int.reduceLE, Int.reduceLT, Int.reduceNeg, reduceCtorEq, gos, Int.reduceAdd, Int.reduceSub, Int.reduceMul, Int.reduceEq, g3, ccl, hi, i1, List.length_map, hr, b1, b2, rl, px])
  refine X_loopH [2, 5, 6, 7] [] (0) (0) (fun j => True) (fun j => [(7, i64 (-1))]) (fun j => (Heap.none.put ((0, 0) :: base) (.var [li rw0, li cw, llP cc, llP uu, u64 p, i64 R, i64 C, lu l, lu vs])).put ((2, 3) :: base) (.row false ((tbl R (fun m => if m = i then 1 else 0)).map iu))) ?_ ?_ ?_ ?_ ?_ (by decide) ?_
  · exact (fgt_nil)
  · repeat (first | refine X_opc rfl ?_ | refine X_dopc rfl ?_ | refine ⟨(by show drawK _ _ = true; kernel_rfl : drawX _ _ _), ?_⟩ | exact (by show drawK _ _ = true; kernel_rfl : drawX _ _ _) | simp -dsimp (maxSteps := 20000000) (disch := omega) only [simx, zzC, zzB, tys, ite_self, opnL, callB, callX, readsB, stepOp, nilCmp, ofVal, opBuiltin, opLen, PV.sk, scalBin, scalUn, intBin, opLoad, natOf, opConvert, opField, cellsP, oneP, Value.oneCell', opStore, toIV, scalT, scalA, scalC, boxesA, boxesC, zipB_none, zipB_mx, isZ, opZip, zeroP, opAppendZ, opMakeMap, opLookup, mboxB, opUpdate, ↓reduceIte, Nat.reduceSub, Nat.reduceEqDiff, Nat.reduceAdd, Nat.reduceMul, Nat.reduceLT, Nat.reduceLeDiff, Int.reduceToNat, Int.reduceLE, Int.reduceLT, Int.reduceNeg, reduceCtorEq, gos, Int.reduceAdd, Int.reduceSub, Int.reduceMul, Int.reduceEq])
    rfl
  · funext c
    simp (maxSteps := 20000000) only [Heap.drop_at, rowH_app, Heap.put_at, Heap.none_at, List.mem_cons, List.not_mem_nil, or_false]
    by_cases e0 : c = (0, 0) :: base
    · subst e0; simp []
    by_cases e1 : c = (2, 3) :: base
    · subst e1; simp []
    simp [e0, e1]
  · omega
  · trivial
  · intro j hj _
    have tl := tbl_len R (fun m => if m = i then 1 else 0)
    generalize tbl R (fun m => if m = i then 1 else 0) = Y at tl ⊢
    have nt : (Y.map iu).take R = Y.map iu := List.take_of_length_le (by simp [tl])
    repeat (first | refine X_opc rfl ?_ | refine X_dopc rfl ?_ | refine ⟨(by show drawK _ _ = true; kernel_rfl : drawX _ _ _), ?_⟩ | exact (by show drawK _ _ = true; kernel_rfl : drawX _ _ _) | simp -dsimp (maxSteps := 20000000) (disch := omega) only [simx, zzC, zzB, tys, ite_self, opnL, callB, callX, readsB, stepOp, nilCmp, ofVal, opBuiltin, opLen, PV.sk, scalBin, scalUn, intBin, opLoad, natOf, opConvert, opField, cellsP, oneP, Value.oneCell', opStore, toIV, scalT, scalA, scalC, boxesA, boxesC, zipB_none, zipB_mx, isZ, opZip, zeroP, opAppendZ, opMakeMap, opLookup, mboxB, opUpdate, ↓reduceIte, Nat.reduceSub, Nat.reduceEqDiff, Nat.reduceAdd, Nat.reduceMul, Nat.reduceLT, Nat.reduceLeDiff, Int.reduceToNat, Int.reduceLE, Int.reduceLT, Int.reduceNeg, reduceCtorEq, zzR, gos, Int.reduceAdd, Int.reduceSub, Int.reduceMul, Int.reduceEq, List.length_map, tl, nt])
    simp [tl]
theorem rwLJ_next {p : Int} {c : CupT} {k j : Nat} {x : List Int} (hx : x.length = c.1.length) (hj : j < c.1.length) : ((rwLJ p c k x j).map iu).take j ++ [iu ((x.getD j 0 - x.getD k 0 * (c.2.2.1.getD (c.1.getD k 0).toNat []).getD j 0 % p) % p)] ++ ((rwLJ p c k x j).map iu).drop (j + 1) = (rwLJ p c k x (j + 1)).map iu := by
  rw [rwLJ, tbl_put_iu _ _ hj]
  congr 1
  apply tbl_congr
  intro m _
  by_cases e : m = j
  · subst e; rw [if_pos rfl, if_pos (by omega)]
  · rw [if_neg e]
    by_cases d : m < j
    · rw [if_pos d, if_pos (by omega)]
    · rw [if_neg d, if_neg (by omega)]
theorem rwLJ_at {p : Int} {c : CupT} {k j m n : Nat} {x : List Int} (hn : c.1.length = n) (hm : m < n) (h : j ≤ m) : ((rwLJ p c k x j).map iu)[m]? = some (iu (x.getD m 0)) := by
  rw [List.getElem?_map, rwLJ, tbl_get? _ (by omega), if_neg (by omega)]; rfl
set_option maxHeartbeats 8000000 in
theorem rows1_walk {p : Int} {R C : Nat} {l : List Int} {c : CupT} {vs : List Int} {i n : Nat} (hp : Md p) (hw : CupW p R C c) (hR : R ≤ 64) (hi : i < R) (hr : c.1.length = n) (h0 : 0 < n) :
    CallsP Try.prog 112 [takenP p R C l c vs, i64 i] (lu (rowsV p R c i)) := by
  obtain ⟨rw0, cw, cc, uu⟩ := c
  have ccl := hw.cl
  have rle := hw.rle
  obtain ⟨x1, x2⟩ := hw.cr (cc.getD i []) (getD_mm (by rw [ccl]; exact hi))
  simp only at ccl x1 hr rle
  have g3 : (cc.map fun u => IV.l u.length (u.map iu))[i]? = some (.l n ((cc.getD i []).map iu)) := by rw [List.getElem?_map, getD_at' (d := []) (by omega), Option.map_some, x1, hr]
  have dc := (cloneU_own (l := cc.getD i []) (n := n) (by omega) h0 (by omega)).toA
  have rl : ((zeroRow [Value.int .u64 0] R).map IV.v).length = R := by rw [List.length_map, zeroRow_len]; simp
  have px := tbl_put_iu (fun _ => 0) 1 hi
  have i1 : i + 1 ≤ R := hi
  have b1 : R * 8 ≤ 140737488355328 := by omega
  have b2 : R ≤ 140737488355328 := by omega
  rw [← zero_tbl R] at px
  refine X_startP (n := 78) (m := 2) (rs := [.tmp 4]) Try.func112 rfl rfl rfl rfl (by decide) fun base => ?_
  repeat (first | refine X_opc rfl ?_ | refine X_dopc rfl ?_ | refine ⟨(by show drawK _ _ = true; kernel_rfl : drawX _ _ _), ?_⟩ | exact (by show drawK _ _ = true; kernel_rfl : drawX _ _ _) | simp -dsimp (maxSteps := 20000000) (disch := omega) only [simx, zzC, zzB, tys, ite_self, opnL, callB, callX, readsB, stepOp, nilCmp, ofVal, opBuiltin, opLen, PV.sk, scalBin, scalUn, intBin, opLoad, natOf, opConvert, opField, cellsP, oneP, Value.oneCell', opStore, toIV, scalT, scalA, scalC, boxesA, boxesC, zipB_none, zipB_mx, isZ, opZip, zeroP, opAppendZ, opMakeMap, opLookup, mboxB, opUpdate, ↓reduceIte, Nat.reduceSub, Nat.reduceEqDiff, Nat.reduceAdd, Nat.reduceMul, Nat.reduceLT, Nat.reduceLeDiff, Int.reduceToNat, Int.reduceLE, Int.reduceLT, Int.reduceNeg, reduceCtorEq, gos, Int.reduceAdd, Int.reduceSub, Int.reduceMul, Int.reduceEq, g3, ccl, hi, i1, List.length_map, hr, b1, b2, rl, px])
  ((first | refine X_call_ad (dc) rfl (by simp only [tys]) (by (simp -dsimp only [simx, zzC, zzB, tys, ite_self, opnL, callB, callX, readsB, stepOp, nilCmp, ofVal, opBuiltin, opLen, PV.sk, scalBin, scalUn, intBin, opLoad, natOf, opConvert, opField, cellsP, oneP, Value.oneCell', opStore, toIV, scalT, scalA, scalC, boxesA, boxesC, zipB_none, zipB_mx, isZ, opZip, zeroP, opAppendZ, opMakeMap, opLookup, mboxB, opUpdate, ↓reduceIte, Nat.reduceSub, Nat.reduceEqDiff, Nat.reduceAdd, Nat.reduceMul, Nat.reduceLT, Nat.reduceLeDiff, Int.reduceToNat, Int.reduceLE, Int.reduceLT, Int.reduceNeg, reduceCtorEq, zzL, if_true, if_false] <;> rfl)) (by simp [Heap.put_at, Heap.none_at, rowH_app]) ?_ | refine X_dcall_ad (dc) rfl (by simp only [tys]) (by (simp -dsimp only [simx, zzC, zzB, tys, ite_self, opnL, callB, callX, readsB, stepOp, nilCmp, ofVal, opBuiltin, opLen, PV.sk, scalBin, scalUn, intBin, opLoad, natOf, opConvert, opField, cellsP, oneP, Value.oneCell', opStore, toIV, scalT, scalA, scalC, boxesA, boxesC, zipB_none, zipB_mx, isZ, opZip, zeroP, opAppendZ, opMakeMap, opLookup, mboxB, opUpdate, ↓reduceIte, Nat.reduceSub, Nat.reduceEqDiff, Nat.reduceAdd, Nat.reduceMul, Nat.reduceLT, Nat.reduceLeDiff, Int.reduceToNat, Int.reduceLE, Int.reduceLT, Int.reduceNeg, reduceCtorEq, zzL, if_true, if_false] <;> rfl)) (by simp [Heap.put_at, Heap.none_at, rowH_app]) ?_))
  repeat (first | refine X_opc rfl ?_ | refine X_dopc rfl ?_ | refine ⟨(by show drawK _ _ = true; kernel_rfl : drawX _ _ _), ?_⟩ | exact (by show drawK _ _ = true; kernel_rfl : drawX _ _ _) | simp -dsimp (maxSteps := 20000000) (disch := omega) only [simx, zzC, zzB, tys, ite_self, opnL, callB, callX, readsB, stepOp, nilCmp, ofVal, opBuiltin, opLen, PV.sk, scalBin, scalUn, intBin, opLoad, natOf, opConvert, opField, cellsP, oneP, Value.oneCell', opStore, toIV, scalT, scalA, scalC, boxesA, boxesC, zipB_none, zipB_mx, isZ, opZip, zeroP, opAppendZ, opMakeMap, opLookup, mboxB, opUpdate, ↓reduceIte, Nat.reduceSub, Nat.reduceEqDiff, Nat.reduceAdd, Nat.reduceMul, Nat.reduceLT, Nat.reduceLeDiff, Int.reduceToNat, Int.reduceLE, Int.reduceLT, Int.reduceNeg, reduceCtorEq, gos, Int.reduceAdd, Int.reduceSub, Int.reduceMul, Int.reduceEq, g3, ccl, hi, i1, List.length_map, hr, b1, b2, rl, px])
  refine X_loopH [2, 5, 6, 7] [] (0) (n) (fun j => True) (fun j => [(7, i64 ((n : Int) - 1 - (j : Int)))]) (fun j => ((Heap.none.put ((0, 0) :: base) (.var [li rw0, li cw, llP cc, llP uu, u64 p, i64 R, i64 C, lu l, lu vs])).put ((1, 6) :: base) (.row false ((rwS p R (rw0, cw, cc, uu) i j).1.map iu))).put ((2, 3) :: base) (.row false ((rwS p R (rw0, cw, cc, uu) i j).2.map iu))) ?_ ?_ ?_ ?_ ?_ (by decide) ?_
  · exact (fgt_nil)
  · repeat (first | refine X_opc rfl ?_ | refine X_dopc rfl ?_ | refine ⟨(by show drawK _ _ = true; kernel_rfl : drawX _ _ _), ?_⟩ | exact (by show drawK _ _ = true; kernel_rfl : drawX _ _ _) | simp -dsimp (maxSteps := 20000000) (disch := omega) only [simx, zzC, zzB, tys, ite_self, opnL, callB, callX, readsB, stepOp, nilCmp, ofVal, opBuiltin, opLen, PV.sk, scalBin, scalUn, intBin, opLoad, natOf, opConvert, opField, cellsP, oneP, Value.oneCell', opStore, toIV, scalT, scalA, scalC, boxesA, boxesC, zipB_none, zipB_mx, isZ, opZip, zeroP, opAppendZ, opMakeMap, opLookup, mboxB, opUpdate, ↓reduceIte, Nat.reduceSub, Nat.reduceEqDiff, Nat.reduceAdd, Nat.reduceMul, Nat.reduceLT, Nat.reduceLeDiff, Int.reduceToNat, Int.reduceLE, Int.reduceLT, Int.reduceNeg, reduceCtorEq, gos, Int.reduceAdd, Int.reduceSub, Int.reduceMul, Int.reduceEq])
    rw [show ((n : Int) - 1 - ((0 : Nat) : Int)) = (n : Int) - 1 by omega]
  · funext c
    simp (maxSteps := 20000000) only [Heap.drop_at, rowH_app, Heap.put_at, Heap.none_at, List.mem_cons, List.not_mem_nil, or_false]
    by_cases e0 : c = (0, 0) :: base
    · subst e0; simp [rwS]
    by_cases e1 : c = (1, 6) :: base
    · subst e1; simp [rwS]
    by_cases e2 : c = (2, 3) :: base
    · subst e2; simp [rwS]
    simp [e0, e1, e2, rwS]
  · omega
  · trivial
  · intro d hd _
    by_cases cd : d < n
    · obtain ⟨k, hk⟩ : ∃ k, n = d + k + 1 := ⟨n - d - 1, by omega⟩
      have ek : (n : Int) - 1 - (d : Int) = (k : Int) := by omega
      have kn : k < n := by omega
      have k0 : (0 : Int) ≤ (k : Int) := by omega
      obtain ⟨q0, q1⟩ := hw.rb (rw0.getD k 0) (getD_mm (by simp only; omega))
      (try simp only at q0 q1)
      obtain ⟨q, hq⟩ : ∃ q : Nat, rw0.getD k 0 = q := ⟨(rw0.getD k 0).toNat, by omega⟩
      have qR : q < R := by omega
      obtain ⟨w1, w2⟩ := hw.cr (cc.getD q []) (getD_mm (by rw [ccl]; exact qR))
      simp only [hr] at w1
      obtain ⟨l1, l2⟩ := rwS_len hw hi d
      obtain ⟨s1, s2⟩ := rwS_in hp hw hi d
      simp only [hr] at l1
      have sn : rwS p R (rw0, cw, cc, uu) i (d + 1) = (rwLJ p (rw0, cw, cc, uu) k (rwS p R (rw0, cw, cc, uu) i d).1 k, rwYK p R (rw0, cw, cc, uu) k (rwS p R (rw0, cw, cc, uu) i d).1 (rwS p R (rw0, cw, cc, uu) i d).2) := by
        rw [rwS]; simp only [hr, show n - 1 - d = k by omega]
      generalize rwS p R (rw0, cw, cc, uu) i d = S at l1 l2 s1 s2 sn ⊢
      obtain ⟨X, Y⟩ := S
      simp only at l1 l2 s1 s2 sn ⊢
      have g1 : (rw0.map ii)[k]? = some (ii (q : Int)) := by rw [List.getElem?_map, getD_at' (d := 0) (by omega), Option.map_some, hq]
      have g2 : (X.map iu)[k]? = some (iu (X.getD k 0)) := by rw [List.getElem?_map, getD_some l1 kn]; rfl
      have g4 : (cc.map fun u => IV.l u.length (u.map iu))[q]? = some (.l n ((cc.getD q []).map iu)) := by rw [List.getElem?_map, getD_at' (d := []) (by omega), Option.map_some, w1]
      have xk := getD_of s1 (i := k) (by omega)
      have z0 : In p 0 := ⟨by decide, by have := hp.1; omega⟩
      have m0 := tsub_walk R C l (rw0, cw, cc, uu) vs hp z0 xk
      have yt := tbl_of l2
      have py := tbl_put_iu (fun m => Y.getD m 0) ((0 - X.getD k 0) % p) qR
      have ye : rwYK p R (rw0, cw, cc, uu) k X Y = tbl R (fun m => if m = q then (0 - X.getD k 0) % p else Y.getD m 0) := by unfold rwYK; simp only [hq, Int.toNat_natCast]
      rw [← yt, ← ye] at py
      have lz := rwLJ_zero (p := p) (c := (rw0, cw, cc, uu)) (k := k) (x := X) (by simp only; omega)
      have lat := fun j m (hm : m < n) (h : j ≤ m) => rwLJ_at (p := p) (c := (rw0, cw, cc, uu)) (k := k) (j := j) (m := m) (x := X) hr hm h
      have lnx := fun j (hj : j < n) => rwLJ_next (p := p) (c := (rw0, cw, cc, uu)) (k := k) (j := j) (x := X) (by simp only; omega) (by simp only; omega)
      have lln : ∀ j, (rwLJ p (rw0, cw, cc, uu) k X j).length = n := fun j => by unfold rwLJ; rw [tbl_len]; exact hr
      simp only [hq, Int.toNat_natCast, hr] at lnx
      have q1' : q + 1 ≤ R := qR
      generalize cc.getD q [] = D at w1 w2 g4 lnx
      clear ye yt
      repeat (first | ((first | refine X_call_fn2 rfl (by simp only [tys]) ?_ | refine X_dcall_fn2 rfl (by simp only [tys]) ?_); apply Exists.intro; apply And.intro; (focus (simp -dsimp only [simx, zzC, zzB, tys, ite_self, opnL, callB, callX, readsB, stepOp, nilCmp, ofVal, opBuiltin, opLen, PV.sk, scalBin, scalUn, intBin, opLoad, natOf, opConvert, opField, cellsP, oneP, Value.oneCell', opStore, toIV, scalT, scalA, scalC, boxesA, boxesC, zipB_none, zipB_mx, isZ, opZip, zeroP, opAppendZ, opMakeMap, opLookup, mboxB, opUpdate, ↓reduceIte, Nat.reduceSub, Nat.reduceEqDiff, Nat.reduceAdd, Nat.reduceMul, Nat.reduceLT, Nat.reduceLeDiff, Int.reduceToNat, Int.reduceLE, Int.reduceLT, Int.reduceNeg, reduceCtorEq, zzL, if_true, if_false] <;> rfl)); apply Exists.intro; apply And.intro; (focus (first | exact m0))) | refine X_opc rfl ?_ | refine X_dopc rfl ?_ | refine ⟨(by show drawK _ _ = true; kernel_rfl : drawX _ _ _), ?_⟩ | exact (by show drawK _ _ = true; kernel_rfl : drawX _ _ _) | simp -dsimp (maxSteps := 20000000) (disch := omega) only [simx, zzC, zzB, tys, ite_self, opnL, callB, callX, readsB, stepOp, nilCmp, ofVal, opBuiltin, opLen, PV.sk, scalBin, scalUn, intBin, opLoad, natOf, opConvert, opField, cellsP, oneP, Value.oneCell', opStore, toIV, scalT, scalA, scalC, boxesA, boxesC, zipB_none, zipB_mx, isZ, opZip, zeroP, opAppendZ, opMakeMap, opLookup, mboxB, opUpdate, ↓reduceIte, Nat.reduceSub, Nat.reduceEqDiff, Nat.reduceAdd, Nat.reduceMul, Nat.reduceLT, Nat.reduceLeDiff, Int.reduceToNat, Int.reduceLE, Int.reduceLT, Int.reduceNeg, reduceCtorEq, gos, Int.reduceAdd, Int.reduceSub, Int.reduceMul, Int.reduceEq, ek, k0, kn, g1, g2, hr, l1, l2, qR, q1', List.length_map, py])
      generalize rwYK p R (rw0, cw, cc, uu) k X Y = Y' at sn ⊢
      refine X_loopH [2, 5, 6, 7, 8, 48, 49] [] (0) (k) (fun j => True) (fun j => [(48, i64 k), (49, i64 j)]) (fun j => ((Heap.none.put ((0, 0) :: base) (.var [li rw0, li cw, llP cc, llP uu, u64 p, i64 R, i64 C, lu l, lu vs])).put ((1, 6) :: base) (.row false ((rwLJ p (rw0, cw, cc, uu) k X j).map iu))).put ((2, 3) :: base) (.row false (Y'.map iu))) ?_ ?_ ?_ ?_ ?_ (by decide) ?_
      · exact (fgt_nil)
      · repeat (first | refine X_opc rfl ?_ | refine X_dopc rfl ?_ | refine ⟨(by show drawK _ _ = true; kernel_rfl : drawX _ _ _), ?_⟩ | exact (by show drawK _ _ = true; kernel_rfl : drawX _ _ _) | simp -dsimp (maxSteps := 20000000) (disch := omega) only [simx, zzC, zzB, tys, ite_self, opnL, callB, callX, readsB, stepOp, nilCmp, ofVal, opBuiltin, opLen, PV.sk, scalBin, scalUn, intBin, opLoad, natOf, opConvert, opField, cellsP, oneP, Value.oneCell', opStore, toIV, scalT, scalA, scalC, boxesA, boxesC, zipB_none, zipB_mx, isZ, opZip, zeroP, opAppendZ, opMakeMap, opLookup, mboxB, opUpdate, ↓reduceIte, Nat.reduceSub, Nat.reduceEqDiff, Nat.reduceAdd, Nat.reduceMul, Nat.reduceLT, Nat.reduceLeDiff, Int.reduceToNat, Int.reduceLE, Int.reduceLT, Int.reduceNeg, reduceCtorEq, gos, Int.reduceAdd, Int.reduceSub, Int.reduceMul, Int.reduceEq])
        rfl
      · funext c
        simp (maxSteps := 20000000) only [Heap.drop_at, rowH_app, Heap.put_at, Heap.none_at, List.mem_cons, List.not_mem_nil, or_false]
        by_cases e0 : c = (0, 0) :: base
        · subst e0; simp [lz]
        by_cases e1 : c = (1, 6) :: base
        · subst e1; simp [lz]
        by_cases e2 : c = (2, 3) :: base
        · subst e2; simp [lz]
        simp [e0, e1, e2, lz]
      · omega
      · trivial
      · intro j hj _
        by_cases cj : j < k
        · have jn : j < n := by omega
          have j1 : j + 1 ≤ n := jn
          have la := lat j j jn (Nat.le_refl j)
          have lb := lat j k kn (by omega)
          have lc := lln j
          have ld := lnx j jn
          have g5 : (D.map iu)[j]? = some (iu (D.getD j 0)) := by rw [List.getElem?_map, getD_some w1 jn]; rfl
          have m1 := tmul_walk R C l (rw0, cw, cc, uu) vs hp xk (getD_of w2 (i := j) (by omega))
          have m2 := tsub_walk R C l (rw0, cw, cc, uu) vs hp (getD_of s1 (i := j) (by omega)) (in_emod hp (X.getD k 0 * D.getD j 0))
          repeat (first | ((first | refine X_call_fn2 rfl (by simp only [tys]) ?_ | refine X_dcall_fn2 rfl (by simp only [tys]) ?_); apply Exists.intro; apply And.intro; (focus (simp -dsimp only [simx, zzC, zzB, tys, ite_self, opnL, callB, callX, readsB, stepOp, nilCmp, ofVal, opBuiltin, opLen, PV.sk, scalBin, scalUn, intBin, opLoad, natOf, opConvert, opField, cellsP, oneP, Value.oneCell', opStore, toIV, scalT, scalA, scalC, boxesA, boxesC, zipB_none, zipB_mx, isZ, opZip, zeroP, opAppendZ, opMakeMap, opLookup, mboxB, opUpdate, ↓reduceIte, Nat.reduceSub, Nat.reduceEqDiff, Nat.reduceAdd, Nat.reduceMul, Nat.reduceLT, Nat.reduceLeDiff, Int.reduceToNat, Int.reduceLE, Int.reduceLT, Int.reduceNeg, reduceCtorEq, zzL, if_true, if_false] <;> rfl)); apply Exists.intro; apply And.intro; (focus (first | exact m1 | exact m2))) | refine X_opc rfl ?_ | refine X_dopc rfl ?_ | refine ⟨(by show drawK _ _ = true; kernel_rfl : drawX _ _ _), ?_⟩ | exact (by show drawK _ _ = true; kernel_rfl : drawX _ _ _) | simp -dsimp (maxSteps := 20000000) (disch := omega) only [simx, zzC, zzB, tys, ite_self, opnL, callB, callX, readsB, stepOp, nilCmp, ofVal, opBuiltin, opLen, PV.sk, scalBin, scalUn, intBin, opLoad, natOf, opConvert, opField, cellsP, oneP, Value.oneCell', opStore, toIV, scalT, scalA, scalC, boxesA, boxesC, zipB_none, zipB_mx, isZ, opZip, zeroP, opAppendZ, opMakeMap, opLookup, mboxB, opUpdate, ↓reduceIte, Nat.reduceSub, Nat.reduceEqDiff, Nat.reduceAdd, Nat.reduceMul, Nat.reduceLT, Nat.reduceLeDiff, Int.reduceToNat, Int.reduceLE, Int.reduceLT, Int.reduceNeg, reduceCtorEq, gos, Int.reduceAdd, Int.reduceSub, Int.reduceMul, Int.reduceEq, cj, jn, j1, kn, la, lb, lc, ld, g4, g5, ccl, qR, List.length_map])
          refine ⟨cj, (fgt_nil), rfl, ?_⟩
          funext c
          simp (maxSteps := 20000000) only [Heap.drop_at, rowH_app, Heap.put_at, Heap.none_at, List.mem_cons, List.not_mem_nil, or_false]
          by_cases e0 : c = (0, 0) :: base
          · subst e0; simp []
          by_cases e1 : c = (1, 6) :: base
          · subst e1; simp []
          by_cases e2 : c = (2, 3) :: base
          · subst e2; simp []
          simp [e0, e1, e2]
        · have ej : k = j := by omega
          subst ej
          repeat (first | refine X_opc rfl ?_ | refine X_dopc rfl ?_ | refine ⟨(by show drawK _ _ = true; kernel_rfl : drawX _ _ _), ?_⟩ | exact (by show drawK _ _ = true; kernel_rfl : drawX _ _ _) | simp -dsimp (maxSteps := 20000000) (disch := omega) only [simx, zzC, zzB, tys, ite_self, opnL, callB, callX, readsB, stepOp, nilCmp, ofVal, opBuiltin, opLen, PV.sk, scalBin, scalUn, intBin, opLoad, natOf, opConvert, opField, cellsP, oneP, Value.oneCell', opStore, toIV, scalT, scalA, scalC, boxesA, boxesC, zipB_none, zipB_mx, isZ, opZip, zeroP, opAppendZ, opMakeMap, opLookup, mboxB, opUpdate, ↓reduceIte, Nat.reduceSub, Nat.reduceEqDiff, Nat.reduceAdd, Nat.reduceMul, Nat.reduceLT, Nat.reduceLeDiff, Int.reduceToNat, Int.reduceLE, Int.reduceLT, Int.reduceNeg, reduceCtorEq, gos, Int.reduceAdd, Int.reduceSub, Int.reduceMul, Int.reduceEq])
          refine ⟨cd, (fgt_nil), ?_, ?_⟩
          · rw [show ((n : Int) - 1 - ((d + 1 : Nat) : Int)) = (k : Int) - 1 by omega]
          · rw [drop_nil, sn]
    · have ed : n = d := by omega
      subst ed
      have e1 : (n : Int) - 1 - (n : Int) = -1 := by omega
      have ev : rowsV p R (rw0, cw, cc, uu) i = (rwS p R (rw0, cw, cc, uu) i n).2 := by unfold rowsV; rw [hr]
      rw [ev]
      have tl := (rwS_len hw hi n).2
      generalize (rwS p R (rw0, cw, cc, uu) i n).2 = Y at tl ⊢
      have nt : (Y.map iu).take R = Y.map iu := List.take_of_length_le (by simp [tl])
      repeat (first | refine X_opc rfl ?_ | refine X_dopc rfl ?_ | refine ⟨(by show drawK _ _ = true; kernel_rfl : drawX _ _ _), ?_⟩ | exact (by show drawK _ _ = true; kernel_rfl : drawX _ _ _) | simp -dsimp (maxSteps := 20000000) (disch := omega) only [simx, zzC, zzB, tys, ite_self, opnL, callB, callX, readsB, stepOp, nilCmp, ofVal, opBuiltin, opLen, PV.sk, scalBin, scalUn, intBin, opLoad, natOf, opConvert, opField, cellsP, oneP, Value.oneCell', opStore, toIV, scalT, scalA, scalC, boxesA, boxesC, zipB_none, zipB_mx, isZ, opZip, zeroP, opAppendZ, opMakeMap, opLookup, mboxB, opUpdate, ↓reduceIte, Nat.reduceSub, Nat.reduceEqDiff, Nat.reduceAdd, Nat.reduceMul, Nat.reduceLT, Nat.reduceLeDiff, Int.reduceToNat, Int.reduceLE, Int.reduceLT, Int.reduceNeg, reduceCtorEq, zzR, gos, Int.reduceAdd, Int.reduceSub, Int.reduceMul, Int.reduceEq, e1, List.length_map, tl, nt])
      simp [tl]
end Go.Proofs.Ytmalpmnmknpphaa.TM
namespace Go.Proofs.Ytmalpmnmknpphaa.TM
open Go Go.RowKit
attribute [local irreducible] K W WOps Effs Xg Xo Xr Xdg Xdo Xdr Xif CallsP CallR
def fstI (rws : List Int) (S : Nat → Bool) (R : Nat) : Option Nat := (List.range R).find? fun i => !decide ((i : Int) ∈ rws) && S i
theorem fstI_some {rws : List Int} {S : Nat → Bool} {R j : Nat} (hj : j < R) (h : ∀ i, i < j → (!decide ((i : Int) ∈ rws) && S i) = false) (h1 : (!decide ((j : Int) ∈ rws) && S j) = true) : fstI rws S R = some j := by
  unfold fstI
  rw [List.find?_range_eq_some]
  exact ⟨h1, List.mem_range.2 hj, fun i hi => by rw [h i hi]; rfl⟩
theorem fstI_none {rws : List Int} {S : Nat → Bool} {R : Nat} (h : ∀ i, i < R → (!decide ((i : Int) ∈ rws) && S i) = false) : fstI rws S R = none := by
  unfold fstI
  rw [List.find?_eq_none]
  intro i hi
  rw [h i (List.mem_range.1 hi)]; simp
def fstR (p : Int) (R : Nat) (c : CupT) (S : List Int → Bool) : List Int × Int := match fstI c.1 (fun i => S (rowsV p R c i)) R with
  | some i => (rowsV p R c i, 0)
  | none => ([], 6)
def fstP (p : Int) (R : Nat) (c : CupT) (S : List Int → Bool) : PV := match fstI c.1 (fun i => S (rowsV p R c i)) R with
  | some i => .tup [lu (rowsV p R c i), i64 0]
  | none => .tup [nilP, i64 6]
theorem rowsV_len {p : Int} {R C : Nat} {c : CupT} (hw : CupW p R C c) {i : Nat} (hi : i < R) : (rowsV p R c i).length = R := (rwS_len hw hi _).2
theorem rowsV_in {p : Int} {R C : Nat} {c : CupT} (hp : Md p) (hw : CupW p R C c) {i : Nat} (hi : i < R) : ∀ a ∈ rowsV p R c i, In p a := (rwS_in hp hw hi _).2
theorem rowsV_walk {p : Int} {R C : Nat} {l : List Int} {c : CupT} {vs : List Int} {i : Nat} (hp : Md p) (hw : CupW p R C c) (hR : R ≤ 64) (hi : i < R) :
    CallsP Try.prog 112 [takenP p R C l c vs, i64 i] (lu (rowsV p R c i)) := by
  rcases Nat.eq_zero_or_pos c.1.length with h | h
  · exact rows0_walk hp hw hR hi h
  · exact rows1_walk hp hw hR hi rfl h
theorem left1_walk (y : List Int) : CallsP Try.prog 77 [lu y] (bl true) := by
  refine X_startP (n := 3) (m := 1) (rs := [.tmp 2]) Try.func77 rfl rfl rfl rfl (by decide) fun base => ?_
  repeat (first | refine X_opc rfl ?_ | refine X_dopc rfl ?_ | refine ⟨(by show drawK _ _ = true; kernel_rfl : drawX _ _ _), ?_⟩ | exact (by show drawK _ _ = true; kernel_rfl : drawX _ _ _) | simp -dsimp (maxSteps := 20000000) (disch := omega) only [simx, zzC, zzB, tys, ite_self, opnL, callB, callX, readsB, stepOp, nilCmp, ofVal, opBuiltin, opLen, PV.sk, scalBin, scalUn, intBin, opLoad, natOf, opConvert, opField, cellsP, oneP, Value.oneCell', opStore, toIV, scalT, scalA, scalC, boxesA, boxesC, zipB_none, zipB_mx, isZ, opZip, zeroP, opAppendZ, opMakeMap, opLookup, mboxB, opUpdate, ↓reduceIte, Nat.reduceSub, Nat.reduceEqDiff, Nat.reduceAdd, Nat.reduceMul, Nat.reduceLT, Nat.reduceLeDiff, Int.reduceToNat, Int.reduceLE, Int.reduceLT, Int.reduceNeg, reduceCtorEq, zzR, gos, Int.reduceAdd, Int.reduceSub, Int.reduceMul, Int.reduceEq])
def dotNz (p : Int) (y b : List Int) : Bool := decide (dotI y b % p ≠ 0)
theorem dotR_mk {p : Int} {y b : List Int} (hp : Md p) (hy : ∀ a ∈ y, In p a) (hb : ∀ a ∈ b, In p a) (hl : y.length = b.length) : dotR p y b = (dotI y b % p, 0) := by
  unfold dotR
  rw [if_pos]
  rw [(has_iff p y).2 ⟨fun x hx => (hy x hx).2, hp.1, hp.2⟩, (has_iff p b).2 ⟨fun x hx => (hb x hx).2, hp.1, hp.2⟩, decide_eq_true hl]; rfl
theorem against1_walk {h : Heap} {base b1 b2 : Name} {p : Int} {y b : List Int} {n : Nat} (hp : Md p) (hy : ∀ a ∈ y, In p a) (hb : ∀ a ∈ b, In p a) (hl : y.length = n) (hl2 : b.length = n) (hn : n ≤ 64) (h1 : h b1 = some (.var [u64 p])) (h2 : h b2 = some (.var [lu b])) :
    CallR Try.prog base 74 [lu y, .ref b1 0 1, .ref b2 0 1] h (bl (dotNz p y b)) h := by
  have q := dot_walk p y b (by rw [hl, mx_len]; omega) (by rw [hl2, mx_len]; omega) (fun a ha => in_w64 hp (hy a ha)) (fun a ha => in_w64 hp (hb a ha))
  rw [dotR_mk hp hy hb (by omega)] at q
  unfold dotNz
  generalize dotI y b % p = x at q
  refine X_startR (n := 16) (m := 3) (rs := [.tmp 4]) Try.func74 rfl rfl rfl rfl (by decide) ?_
  repeat (first | ((first | refine X_call_fn2 rfl (by simp only [tys]) ?_ | refine X_dcall_fn2 rfl (by simp only [tys]) ?_); apply Exists.intro; apply And.intro; (focus (simp -dsimp only [simx, zzC, zzB, tys, ite_self, opnL, callB, callX, readsB, stepOp, nilCmp, ofVal, opBuiltin, opLen, PV.sk, scalBin, scalUn, intBin, opLoad, natOf, opConvert, opField, cellsP, oneP, Value.oneCell', opStore, toIV, scalT, scalA, scalC, boxesA, boxesC, zipB_none, zipB_mx, isZ, opZip, zeroP, opAppendZ, opMakeMap, opLookup, mboxB, opUpdate, ↓reduceIte, Nat.reduceSub, Nat.reduceEqDiff, Nat.reduceAdd, Nat.reduceMul, Nat.reduceLT, Nat.reduceLeDiff, Int.reduceToNat, Int.reduceLE, Int.reduceLT, Int.reduceNeg, reduceCtorEq, zzL, if_true, if_false] <;> rfl)); apply Exists.intro; apply And.intro; (focus (first | exact q))) | refine X_opc rfl ?_ | refine X_dopc rfl ?_ | refine ⟨(by show drawK _ _ = true; kernel_rfl : drawX _ _ _), ?_⟩ | exact (by show drawK _ _ = true; kernel_rfl : drawX _ _ _) | simp -dsimp (maxSteps := 20000000) (disch := omega) only [simx, zzC, zzB, tys, ite_self, opnL, callB, callX, readsB, stepOp, nilCmp, ofVal, opBuiltin, opLen, PV.sk, scalBin, scalUn, intBin, opLoad, natOf, opConvert, opField, cellsP, oneP, Value.oneCell', opStore, toIV, scalT, scalA, scalC, boxesA, boxesC, zipB_none, zipB_mx, isZ, opZip, zeroP, opAppendZ, opMakeMap, opLookup, mboxB, opUpdate, ↓reduceIte, Nat.reduceSub, Nat.reduceEqDiff, Nat.reduceAdd, Nat.reduceMul, Nat.reduceLT, Nat.reduceLeDiff, Int.reduceToNat, Int.reduceLE, Int.reduceLT, Int.reduceNeg, reduceCtorEq, zzR, gos, Int.reduceAdd, Int.reduceSub, Int.reduceMul, Int.reduceEq, h1, h2])
  by_cases e : x = 0
  · subst e; rfl
  · rw [decide_eq_true e]; simp [e]
set_option maxHeartbeats 2000000 in
theorem firstL_walk {base : Name} {h : Heap} {p : Int} {R C : Nat} {l : List Int} {c : CupT} {vs : List Int} (hp : Md p) (hw : CupW p R C c) (hR : R ≤ 64) (h0 : h ((0, 0) :: base) = none) :
    CallR Try.prog base 73 [takenP p R C l c vs, fnc 77] h (fstP p R c (fun _ => true)) (h.put ((0, 0) :: base) (.var [li c.1, li c.2.1, llP c.2.2.1, llP c.2.2.2, u64 p, i64 R, i64 C, lu l, lu vs])) := by
  have rle := hw.rle
  have rw1 := fun i (hi : i < R) => rowsV_walk (l := l) (vs := vs) hp hw hR hi
  have rwl := fun i (hi : i < R) => rowsV_len hw hi
  have rwi := fun i (hi : i < R) => rowsV_in hp hw hi
  unfold fstP
  generalize hV : rowsV p R c = V at rw1 rwl rwi ⊢
  obtain ⟨rw0, cw, cc, uu⟩ := c
  simp only at rle ⊢
  refine X_startR (n := 27) (m := 2) (rs := [.tmp 4, .tmp 5]) Try.func73 rfl rfl rfl rfl (by decide) ?_
  repeat (first | refine X_opc rfl ?_ | refine X_dopc rfl ?_ | refine ⟨(by show drawK _ _ = true; kernel_rfl : drawX _ _ _), ?_⟩ | exact (by show drawK _ _ = true; kernel_rfl : drawX _ _ _) | simp -dsimp (maxSteps := 20000000) (disch := omega) only [simx, zzC, zzB, tys, ite_self, opnL, callB, callX, readsB, stepOp, nilCmp, ofVal, opBuiltin, opLen, PV.sk, scalBin, scalUn, intBin, opLoad, natOf, opConvert, opField, cellsP, oneP, Value.oneCell', opStore, toIV, scalT, scalA, scalC, boxesA, boxesC, zipB_none, zipB_mx, isZ, opZip, zeroP, opAppendZ, opMakeMap, opLookup, mboxB, opUpdate, ↓reduceIte, Nat.reduceSub, Nat.reduceEqDiff, Nat.reduceAdd, Nat.reduceMul, Nat.reduceLT, Nat.reduceLeDiff, Int.reduceToNat, Int.reduceLE, Int.reduceLT, Int.reduceNeg, reduceCtorEq, gos, Int.reduceAdd, Int.reduceSub, Int.reduceMul, Int.reduceEq, h0])
  refine X_loopH [1, 2, 10, 11] [] (0) (R) (fun j => ∀ i, i < j → (!decide ((i : Int) ∈ rw0) && true) = false) (fun j => [(11, i64 j)]) (fun j => h.put ((0, 0) :: base) (.var [li rw0, li cw, llP cc, llP uu, u64 p, i64 R, i64 C, lu l, lu vs])) ?_ ?_ ?_ ?_ ?_ (by decide) ?_
  · exact (fgt_nil)
  · ((simp -dsimp (disch := omega) only [simx, zzB, tys, ite_self, opnL, callB, callX, readsB, stepOp, nilCmp, ofVal, opBuiltin, opLen, PV.sk, scalBin, scalUn, intBin, opLoad, natOf, opConvert, opField, cellsP, oneP, Value.oneCell', opStore, toIV, scalT, scalA, scalC, boxesA, boxesC, zipB_none, zipB_mx, isZ, opZip, zeroP, opAppendZ, opMakeMap, opLookup, mboxB, opUpdate, ↓reduceIte, Nat.reduceSub, Nat.reduceEqDiff, Nat.reduceAdd, Nat.reduceMul, Nat.reduceLT, Nat.reduceLeDiff, Int.reduceToNat, Int.reduceLE, Int.reduceLT, Int.reduceNeg, reduceCtorEq, gos, Int.reduceAdd, Int.reduceSub, Int.reduceMul, Int.reduceEq]) <;> first | rfl | simp)
  · exact drop_nil _
  · omega
  · intro i hi; omega
  · intro j hj hf
    by_cases cj : j < R
    · have k1 := containsI_walk rw0 (j : Int) (by rw [mx_len]; omega)
      by_cases cm : (j : Int) ∈ rw0
      · rw [decide_eq_true cm] at k1
        repeat (first | ((first | refine X_call_fn2 rfl (by simp only [tys]) ?_ | refine X_dcall_fn2 rfl (by simp only [tys]) ?_); apply Exists.intro; apply And.intro; (focus (simp -dsimp only [simx, zzC, zzB, tys, ite_self, opnL, callB, callX, readsB, stepOp, nilCmp, ofVal, opBuiltin, opLen, PV.sk, scalBin, scalUn, intBin, opLoad, natOf, opConvert, opField, cellsP, oneP, Value.oneCell', opStore, toIV, scalT, scalA, scalC, boxesA, boxesC, zipB_none, zipB_mx, isZ, opZip, zeroP, opAppendZ, opMakeMap, opLookup, mboxB, opUpdate, ↓reduceIte, Nat.reduceSub, Nat.reduceEqDiff, Nat.reduceAdd, Nat.reduceMul, Nat.reduceLT, Nat.reduceLeDiff, Int.reduceToNat, Int.reduceLE, Int.reduceLT, Int.reduceNeg, reduceCtorEq, zzL, if_true, if_false] <;> rfl)); apply Exists.intro; apply And.intro; (focus (first | exact k1))) | refine X_opc rfl ?_ | refine X_dopc rfl ?_ | refine ⟨(by show drawK _ _ = true; kernel_rfl : drawX _ _ _), ?_⟩ | exact (by show drawK _ _ = true; kernel_rfl : drawX _ _ _) | simp -dsimp (maxSteps := 20000000) (disch := omega) only [simx, zzC, zzB, tys, ite_self, opnL, callB, callX, readsB, stepOp, nilCmp, ofVal, opBuiltin, opLen, PV.sk, scalBin, scalUn, intBin, opLoad, natOf, opConvert, opField, cellsP, oneP, Value.oneCell', opStore, toIV, scalT, scalA, scalC, boxesA, boxesC, zipB_none, zipB_mx, isZ, opZip, zeroP, opAppendZ, opMakeMap, opLookup, mboxB, opUpdate, ↓reduceIte, Nat.reduceSub, Nat.reduceEqDiff, Nat.reduceAdd, Nat.reduceMul, Nat.reduceLT, Nat.reduceLeDiff, Int.reduceToNat, Int.reduceLE, Int.reduceLT, Int.reduceNeg, reduceCtorEq, gos, Int.reduceAdd, Int.reduceSub, Int.reduceMul, Int.reduceEq, cj])
        refine ⟨cj, (fgt_nil), ?_, rfl, drop_nil _⟩
        intro i hi
        by_cases e : i = j
        · subst e; rw [decide_eq_true cm]; rfl
        · have := hf i (by omega); simpa using this
      · rw [decide_eq_false cm] at k1
        have k2 := rw1 j cj
        have k3 := left1_walk (V j)
        have e : fstI rw0 (fun i => true) R = some j := fstI_some cj hf (by rw [decide_eq_false cm]; rfl)
        rw [e]
        repeat (first | ((first | refine X_call_fn2 rfl (by simp only [tys]) ?_ | refine X_dcall_fn2 rfl (by simp only [tys]) ?_); apply Exists.intro; apply And.intro; (focus (simp -dsimp only [simx, zzC, zzB, tys, ite_self, opnL, callB, callX, readsB, stepOp, nilCmp, ofVal, opBuiltin, opLen, PV.sk, scalBin, scalUn, intBin, opLoad, natOf, opConvert, opField, cellsP, oneP, Value.oneCell', opStore, toIV, scalT, scalA, scalC, boxesA, boxesC, zipB_none, zipB_mx, isZ, opZip, zeroP, opAppendZ, opMakeMap, opLookup, mboxB, opUpdate, ↓reduceIte, Nat.reduceSub, Nat.reduceEqDiff, Nat.reduceAdd, Nat.reduceMul, Nat.reduceLT, Nat.reduceLeDiff, Int.reduceToNat, Int.reduceLE, Int.reduceLT, Int.reduceNeg, reduceCtorEq, zzL, if_true, if_false] <;> rfl)); apply Exists.intro; apply And.intro; (focus (first | exact k1 | exact k2 | exact k3))) | (refine X_call_val2 rfl ?_; apply Exists.intro; apply And.intro; (focus (simp -dsimp only [simx, zzC, zzB, tys, ite_self, opnL, callB, callX, readsB, stepOp, nilCmp, ofVal, opBuiltin, opLen, PV.sk, scalBin, scalUn, intBin, opLoad, natOf, opConvert, opField, cellsP, oneP, Value.oneCell', opStore, toIV, scalT, scalA, scalC, boxesA, boxesC, zipB_none, zipB_mx, isZ, opZip, zeroP, opAppendZ, opMakeMap, opLookup, mboxB, opUpdate, ↓reduceIte, Nat.reduceSub, Nat.reduceEqDiff, Nat.reduceAdd, Nat.reduceMul, Nat.reduceLT, Nat.reduceLeDiff, Int.reduceToNat, Int.reduceLE, Int.reduceLT, Int.reduceNeg, reduceCtorEq, zzL, if_true, if_false] <;> rfl)); apply And.intro; (focus (first | simp only [tys] | exact such_enter _)); apply Exists.intro; apply And.intro; (focus (simp -dsimp only [simx, zzC, zzB, tys, ite_self, opnL, callB, callX, readsB, stepOp, nilCmp, ofVal, opBuiltin, opLen, PV.sk, scalBin, scalUn, intBin, opLoad, natOf, opConvert, opField, cellsP, oneP, Value.oneCell', opStore, toIV, scalT, scalA, scalC, boxesA, boxesC, zipB_none, zipB_mx, isZ, opZip, zeroP, opAppendZ, opMakeMap, opLookup, mboxB, opUpdate, ↓reduceIte, Nat.reduceSub, Nat.reduceEqDiff, Nat.reduceAdd, Nat.reduceMul, Nat.reduceLT, Nat.reduceLeDiff, Int.reduceToNat, Int.reduceLE, Int.reduceLT, Int.reduceNeg, reduceCtorEq, zzL, if_true, if_false] <;> rfl)); apply Exists.intro; apply And.intro; (focus (first | exact k1 | exact k2 | exact k3))) | refine X_opc rfl ?_ | refine X_dopc rfl ?_ | refine ⟨(by show drawK _ _ = true; kernel_rfl : drawX _ _ _), ?_⟩ | exact (by show drawK _ _ = true; kernel_rfl : drawX _ _ _) | simp -dsimp (maxSteps := 20000000) (disch := omega) only [simx, zzC, zzB, tys, ite_self, opnL, callB, callX, readsB, stepOp, nilCmp, ofVal, opBuiltin, opLen, PV.sk, scalBin, scalUn, intBin, opLoad, natOf, opConvert, opField, cellsP, oneP, Value.oneCell', opStore, toIV, scalT, scalA, scalC, boxesA, boxesC, zipB_none, zipB_mx, isZ, opZip, zeroP, opAppendZ, opMakeMap, opLookup, mboxB, opUpdate, ↓reduceIte, Nat.reduceSub, Nat.reduceEqDiff, Nat.reduceAdd, Nat.reduceMul, Nat.reduceLT, Nat.reduceLeDiff, Int.reduceToNat, Int.reduceLE, Int.reduceLT, Int.reduceNeg, reduceCtorEq, zzR, gos, Int.reduceAdd, Int.reduceSub, Int.reduceMul, Int.reduceEq, cj])
    · have ej : R = j := by omega
      subst ej
      have e : fstI rw0 (fun i => true) R = none := fstI_none hf
      rw [e]
      repeat (first | refine X_opc rfl ?_ | refine X_dopc rfl ?_ | refine ⟨(by show drawK _ _ = true; kernel_rfl : drawX _ _ _), ?_⟩ | exact (by show drawK _ _ = true; kernel_rfl : drawX _ _ _) | simp -dsimp (maxSteps := 20000000) (disch := omega) only [simx, zzC, zzB, tys, ite_self, opnL, callB, callX, readsB, stepOp, nilCmp, ofVal, opBuiltin, opLen, PV.sk, scalBin, scalUn, intBin, opLoad, natOf, opConvert, opField, cellsP, oneP, Value.oneCell', opStore, toIV, scalT, scalA, scalC, boxesA, boxesC, zipB_none, zipB_mx, isZ, opZip, zeroP, opAppendZ, opMakeMap, opLookup, mboxB, opUpdate, ↓reduceIte, Nat.reduceSub, Nat.reduceEqDiff, Nat.reduceAdd, Nat.reduceMul, Nat.reduceLT, Nat.reduceLeDiff, Int.reduceToNat, Int.reduceLE, Int.reduceLT, Int.reduceNeg, reduceCtorEq, zzR, gos, Int.reduceAdd, Int.reduceSub, Int.reduceMul, Int.reduceEq])
set_option maxHeartbeats 2000000 in
theorem firstA_walk {base b1 b2 : Name} {h : Heap} {p : Int} {R C : Nat} {l : List Int} {c : CupT} {vs b : List Int} (hp : Md p) (hw : CupW p R C c) (hR : R ≤ 64) (h0 : h ((0, 0) :: base) = none) (hb : ∀ a ∈ b, In p a) (hbl : b.length = R) (h1 : h b1 = some (.var [u64 p])) (h2 : h b2 = some (.var [lu b])) (n1 : b1 ≠ (0, 0) :: base) (n2 : b2 ≠ (0, 0) :: base) :
    CallR Try.prog base 73 [takenP p R C l c vs, .clo 74 [.ref b1 0 1, .ref b2 0 1]] h (fstP p R c (fun y => dotNz p y b)) (h.put ((0, 0) :: base) (.var [li c.1, li c.2.1, llP c.2.2.1, llP c.2.2.2, u64 p, i64 R, i64 C, lu l, lu vs])) := by
  have rle := hw.rle
  have rw1 := fun i (hi : i < R) => rowsV_walk (l := l) (vs := vs) hp hw hR hi
  have rwl := fun i (hi : i < R) => rowsV_len hw hi
  have rwi := fun i (hi : i < R) => rowsV_in hp hw hi
  unfold fstP
  generalize hV : rowsV p R c = V at rw1 rwl rwi ⊢
  obtain ⟨rw0, cw, cc, uu⟩ := c
  simp only at rle ⊢
  refine X_startR (n := 27) (m := 2) (rs := [.tmp 4, .tmp 5]) Try.func73 rfl rfl rfl rfl (by decide) ?_
  repeat (first | refine X_opc rfl ?_ | refine X_dopc rfl ?_ | refine ⟨(by show drawK _ _ = true; kernel_rfl : drawX _ _ _), ?_⟩ | exact (by show drawK _ _ = true; kernel_rfl : drawX _ _ _) | simp -dsimp (maxSteps := 20000000) (disch := omega) only [simx, zzC, zzB, tys, ite_self, opnL, callB, callX, readsB, stepOp, nilCmp, ofVal, opBuiltin, opLen, PV.sk, scalBin, scalUn, intBin, opLoad, natOf, opConvert, opField, cellsP, oneP, Value.oneCell', opStore, toIV, scalT, scalA, scalC, boxesA, boxesC, zipB_none, zipB_mx, isZ, opZip, zeroP, opAppendZ, opMakeMap, opLookup, mboxB, opUpdate, ↓reduceIte, Nat.reduceSub, Nat.reduceEqDiff, Nat.reduceAdd, Nat.reduceMul, Nat.reduceLT, Nat.reduceLeDiff, Int.reduceToNat, Int.reduceLE, Int.reduceLT, Int.reduceNeg, reduceCtorEq, gos, Int.reduceAdd, Int.reduceSub, Int.reduceMul, Int.reduceEq, h0])
  refine X_loopH [1, 2, 10, 11] [] (0) (R) (fun j => ∀ i, i < j → (!decide ((i : Int) ∈ rw0) && dotNz p (V i) b) = false) (fun j => [(11, i64 j)]) (fun j => h.put ((0, 0) :: base) (.var [li rw0, li cw, llP cc, llP uu, u64 p, i64 R, i64 C, lu l, lu vs])) ?_ ?_ ?_ ?_ ?_ (by decide) ?_
  · exact (fgt_nil)
  · ((simp -dsimp (disch := omega) only [simx, zzB, tys, ite_self, opnL, callB, callX, readsB, stepOp, nilCmp, ofVal, opBuiltin, opLen, PV.sk, scalBin, scalUn, intBin, opLoad, natOf, opConvert, opField, cellsP, oneP, Value.oneCell', opStore, toIV, scalT, scalA, scalC, boxesA, boxesC, zipB_none, zipB_mx, isZ, opZip, zeroP, opAppendZ, opMakeMap, opLookup, mboxB, opUpdate, ↓reduceIte, Nat.reduceSub, Nat.reduceEqDiff, Nat.reduceAdd, Nat.reduceMul, Nat.reduceLT, Nat.reduceLeDiff, Int.reduceToNat, Int.reduceLE, Int.reduceLT, Int.reduceNeg, reduceCtorEq, gos, Int.reduceAdd, Int.reduceSub, Int.reduceMul, Int.reduceEq]) <;> first | rfl | simp)
  · exact drop_nil _
  · omega
  · intro i hi; omega
  · intro j hj hf
    by_cases cj : j < R
    · have k1 := containsI_walk rw0 (j : Int) (by rw [mx_len]; omega)
      by_cases cm : (j : Int) ∈ rw0
      · rw [decide_eq_true cm] at k1
        repeat (first | ((first | refine X_call_fn2 rfl (by simp only [tys]) ?_ | refine X_dcall_fn2 rfl (by simp only [tys]) ?_); apply Exists.intro; apply And.intro; (focus (simp -dsimp only [simx, zzC, zzB, tys, ite_self, opnL, callB, callX, readsB, stepOp, nilCmp, ofVal, opBuiltin, opLen, PV.sk, scalBin, scalUn, intBin, opLoad, natOf, opConvert, opField, cellsP, oneP, Value.oneCell', opStore, toIV, scalT, scalA, scalC, boxesA, boxesC, zipB_none, zipB_mx, isZ, opZip, zeroP, opAppendZ, opMakeMap, opLookup, mboxB, opUpdate, ↓reduceIte, Nat.reduceSub, Nat.reduceEqDiff, Nat.reduceAdd, Nat.reduceMul, Nat.reduceLT, Nat.reduceLeDiff, Int.reduceToNat, Int.reduceLE, Int.reduceLT, Int.reduceNeg, reduceCtorEq, zzL, if_true, if_false] <;> rfl)); apply Exists.intro; apply And.intro; (focus (first | exact k1))) | refine X_opc rfl ?_ | refine X_dopc rfl ?_ | refine ⟨(by show drawK _ _ = true; kernel_rfl : drawX _ _ _), ?_⟩ | exact (by show drawK _ _ = true; kernel_rfl : drawX _ _ _) | simp -dsimp (maxSteps := 20000000) (disch := omega) only [simx, zzC, zzB, tys, ite_self, opnL, callB, callX, readsB, stepOp, nilCmp, ofVal, opBuiltin, opLen, PV.sk, scalBin, scalUn, intBin, opLoad, natOf, opConvert, opField, cellsP, oneP, Value.oneCell', opStore, toIV, scalT, scalA, scalC, boxesA, boxesC, zipB_none, zipB_mx, isZ, opZip, zeroP, opAppendZ, opMakeMap, opLookup, mboxB, opUpdate, ↓reduceIte, Nat.reduceSub, Nat.reduceEqDiff, Nat.reduceAdd, Nat.reduceMul, Nat.reduceLT, Nat.reduceLeDiff, Int.reduceToNat, Int.reduceLE, Int.reduceLT, Int.reduceNeg, reduceCtorEq, gos, Int.reduceAdd, Int.reduceSub, Int.reduceMul, Int.reduceEq, cj])
        refine ⟨cj, (fgt_nil), ?_, rfl, drop_nil _⟩
        intro i hi
        by_cases e : i = j
        · subst e; rw [decide_eq_true cm]; rfl
        · have := hf i (by omega); simpa using this
      · rw [decide_eq_false cm] at k1
        have k2 := rw1 j cj
        have g1 : (h.put ((0, 0) :: base) (.var [li rw0, li cw, llP cc, llP uu, u64 p, i64 R, i64 C, lu l, lu vs])) b1 = some (.var [u64 p]) := by rw [Heap.put_ne _ _ n1]; exact h1
        have g2 : (h.put ((0, 0) :: base) (.var [li rw0, li cw, llP cc, llP uu, u64 p, i64 R, i64 C, lu l, lu vs])) b2 = some (.var [lu b]) := by rw [Heap.put_ne _ _ n2]; exact h2
        have k3 := fun b0 => against1_walk (base := b0) hp (rwi j cj) hb (rwl j cj) hbl hR g1 g2
        repeat (first | ((first | refine X_call_fn2 rfl (by simp only [tys]) ?_ | refine X_dcall_fn2 rfl (by simp only [tys]) ?_); apply Exists.intro; apply And.intro; (focus (simp -dsimp only [simx, zzC, zzB, tys, ite_self, opnL, callB, callX, readsB, stepOp, nilCmp, ofVal, opBuiltin, opLen, PV.sk, scalBin, scalUn, intBin, opLoad, natOf, opConvert, opField, cellsP, oneP, Value.oneCell', opStore, toIV, scalT, scalA, scalC, boxesA, boxesC, zipB_none, zipB_mx, isZ, opZip, zeroP, opAppendZ, opMakeMap, opLookup, mboxB, opUpdate, ↓reduceIte, Nat.reduceSub, Nat.reduceEqDiff, Nat.reduceAdd, Nat.reduceMul, Nat.reduceLT, Nat.reduceLeDiff, Int.reduceToNat, Int.reduceLE, Int.reduceLT, Int.reduceNeg, reduceCtorEq, zzL, if_true, if_false] <;> rfl)); apply Exists.intro; apply And.intro; (focus (first | exact k1 | exact k2))) | refine X_opc rfl ?_ | refine X_dopc rfl ?_ | refine ⟨(by show drawK _ _ = true; kernel_rfl : drawX _ _ _), ?_⟩ | exact (by show drawK _ _ = true; kernel_rfl : drawX _ _ _) | simp -dsimp (maxSteps := 20000000) (disch := omega) only [simx, zzC, zzB, tys, ite_self, opnL, callB, callX, readsB, stepOp, nilCmp, ofVal, opBuiltin, opLen, PV.sk, scalBin, scalUn, intBin, opLoad, natOf, opConvert, opField, cellsP, oneP, Value.oneCell', opStore, toIV, scalT, scalA, scalC, boxesA, boxesC, zipB_none, zipB_mx, isZ, opZip, zeroP, opAppendZ, opMakeMap, opLookup, mboxB, opUpdate, ↓reduceIte, Nat.reduceSub, Nat.reduceEqDiff, Nat.reduceAdd, Nat.reduceMul, Nat.reduceLT, Nat.reduceLeDiff, Int.reduceToNat, Int.reduceLE, Int.reduceLT, Int.reduceNeg, reduceCtorEq, gos, Int.reduceAdd, Int.reduceSub, Int.reduceMul, Int.reduceEq, cj])
        refine X_call_shared (k3 _) rfl (by simp -dsimp only [calleeOf, simx, zzB, tys, ite_self, opnL, callB, callX, readsB, stepOp, nilCmp, ofVal, opBuiltin, opLen, PV.sk, scalBin, scalUn, intBin, opLoad, natOf, opConvert, opField, cellsP, oneP, Value.oneCell', opStore, toIV, scalT, scalA, scalC, boxesA, boxesC, zipB_none, zipB_mx, isZ, opZip, zeroP, opAppendZ, opMakeMap, opLookup, mboxB, opUpdate, ↓reduceIte, Nat.reduceSub, Nat.reduceEqDiff, Nat.reduceAdd, Nat.reduceMul, Nat.reduceLT, Nat.reduceLeDiff, Int.reduceToNat, Int.reduceLE, Int.reduceLT, Int.reduceNeg, reduceCtorEq, gos, Int.reduceAdd, Int.reduceSub, Int.reduceMul, Int.reduceEq]) (by simp only [tys]) ?_
        cases cd : dotNz p (V j) b with
        | true =>
          have e : fstI rw0 (fun i => dotNz p (V i) b) R = some j := fstI_some cj hf (by rw [decide_eq_false cm, cd]; rfl)
          rw [e]
          repeat (first | refine X_opc rfl ?_ | refine X_dopc rfl ?_ | refine ⟨(by show drawK _ _ = true; kernel_rfl : drawX _ _ _), ?_⟩ | exact (by show drawK _ _ = true; kernel_rfl : drawX _ _ _) | simp -dsimp (maxSteps := 20000000) (disch := omega) only [simx, zzC, zzB, tys, ite_self, opnL, callB, callX, readsB, stepOp, nilCmp, ofVal, opBuiltin, opLen, PV.sk, scalBin, scalUn, intBin, opLoad, natOf, opConvert, opField, cellsP, oneP, Value.oneCell', opStore, toIV, scalT, scalA, scalC, boxesA, boxesC, zipB_none, zipB_mx, isZ, opZip, zeroP, opAppendZ, opMakeMap, opLookup, mboxB, opUpdate, ↓reduceIte, Nat.reduceSub, Nat.reduceEqDiff, Nat.reduceAdd, Nat.reduceMul, Nat.reduceLT, Nat.reduceLeDiff, Int.reduceToNat, Int.reduceLE, Int.reduceLT, Int.reduceNeg, reduceCtorEq, zzR, gos, Int.reduceAdd, Int.reduceSub, Int.reduceMul, Int.reduceEq])
        | false =>
          repeat (first | refine X_opc rfl ?_ | refine X_dopc rfl ?_ | refine ⟨(by show drawK _ _ = true; kernel_rfl : drawX _ _ _), ?_⟩ | exact (by show drawK _ _ = true; kernel_rfl : drawX _ _ _) | simp -dsimp (maxSteps := 20000000) (disch := omega) only [simx, zzC, zzB, tys, ite_self, opnL, callB, callX, readsB, stepOp, nilCmp, ofVal, opBuiltin, opLen, PV.sk, scalBin, scalUn, intBin, opLoad, natOf, opConvert, opField, cellsP, oneP, Value.oneCell', opStore, toIV, scalT, scalA, scalC, boxesA, boxesC, zipB_none, zipB_mx, isZ, opZip, zeroP, opAppendZ, opMakeMap, opLookup, mboxB, opUpdate, ↓reduceIte, Nat.reduceSub, Nat.reduceEqDiff, Nat.reduceAdd, Nat.reduceMul, Nat.reduceLT, Nat.reduceLeDiff, Int.reduceToNat, Int.reduceLE, Int.reduceLT, Int.reduceNeg, reduceCtorEq, gos, Int.reduceAdd, Int.reduceSub, Int.reduceMul, Int.reduceEq])
          refine ⟨cj, (fgt_nil), ?_, rfl, drop_nil _⟩
          intro i hi
          by_cases e : i = j
          · subst e; rw [cd]; simp
          · exact hf i (by omega)
    · have ej : R = j := by omega
      subst ej
      have e : fstI rw0 (fun i => dotNz p (V i) b) R = none := fstI_none hf
      rw [e]
      repeat (first | refine X_opc rfl ?_ | refine X_dopc rfl ?_ | refine ⟨(by show drawK _ _ = true; kernel_rfl : drawX _ _ _), ?_⟩ | exact (by show drawK _ _ = true; kernel_rfl : drawX _ _ _) | simp -dsimp (maxSteps := 20000000) (disch := omega) only [simx, zzC, zzB, tys, ite_self, opnL, callB, callX, readsB, stepOp, nilCmp, ofVal, opBuiltin, opLen, PV.sk, scalBin, scalUn, intBin, opLoad, natOf, opConvert, opField, cellsP, oneP, Value.oneCell', opStore, toIV, scalT, scalA, scalC, boxesA, boxesC, zipB_none, zipB_mx, isZ, opZip, zeroP, opAppendZ, opMakeMap, opLookup, mboxB, opUpdate, ↓reduceIte, Nat.reduceSub, Nat.reduceEqDiff, Nat.reduceAdd, Nat.reduceMul, Nat.reduceLT, Nat.reduceLeDiff, Int.reduceToNat, Int.reduceLE, Int.reduceLT, Int.reduceNeg, reduceCtorEq, zzR, gos, Int.reduceAdd, Int.reduceSub, Int.reduceMul, Int.reduceEq])
end Go.Proofs.Ytmalpmnmknpphaa.TM
namespace Go.Proofs.Ytmalpmnmknpphaa.TM
open Go Go.RowKit
attribute [local irreducible] K W WOps Effs Xg Xo Xr Xdg Xdo Xdr Xif CallsP CallR
def zeroV (n : Nat) : List Int := tbl n (fun _ => 0)
theorem zeroV_len (n : Nat) : (zeroV n).length = n := tbl_len ..
theorem zeroV_in {p : Int} (hp : Md p) (n : Nat) : ∀ a ∈ zeroV n, In p a := fun a ha => by
  obtain ⟨_, _, rfl⟩ := tbl_mem ha; exact ⟨by decide, by have := hp.1; omega⟩
theorem invsT_in {P R C : Nat} (hP : Prm P) (hp : Md P) {c : CupT} (hw : CupW P R C c) : (∀ a ∈ invsT P c, In P a) ∧ (invsT P c).length = c.1.length := by
  refine ⟨fun a ha => ?_, by unfold invsT; rw [tbl_len, hw.ul]⟩
  obtain ⟨k, hk, rfl⟩ := tbl_mem ha
  have hk' : k < c.1.length := by rw [← hw.ul]; exact hk
  obtain ⟨u1, u2⟩ := hw.ur (c.2.2.2.getD k []) (getD_mm hk)
  obtain ⟨q0, q1⟩ := hw.qb (c.2.1.getD k 0) (getD_mm (by rw [hw.ql]; exact hk'))
  have hi := getD_of u2 (i := (c.2.1.getD k 0).toNat) (by omega)
  exact (finvC_in hp.1 hp.2 hi (prm_gcd hP hi (hw.nz k hk'))).1
def solX (p : Int) (C : Nat) (c : CupT) (b : List Int) : List Int := svL p C c (invsT p c) (hlL p c b c.1.length) (zeroV C) c.1.length
theorem solX_len (p : Int) (C : Nat) (c : CupT) (b : List Int) : (solX p C c b).length = C := svL_len (zeroV_len C) _
theorem solX_in {p : Int} {C : Nat} (hp : Md p) (c : CupT) (b : List Int) : ∀ a ∈ solX p C c b, In p a := svL_in hp (zeroV_in hp C) (zeroV_len C) _
set_option maxHeartbeats 4000000 in
theorem solve_yes {P R C : Nat} {l b : List Int} (hP : Prm P) (M : Mt P R C l) (hin : ∀ a ∈ l, In P a) (hb : ∀ a ∈ b, In P a) (hbl : b.length = R) :
    CallsP Try.prog 25 [u64 P, matP R C l, lu b] (if timesM P R C l (solX P C (tkCup P C R l) b) = b then .tup [lu (solX P C (tkCup P C R l) b), i64 0] else .tup [lu [], i64 6]) := by
  have hp := M.hp
  have r2 := M.r2
  have c2 := M.c2
  have q1 := vector_walk P b R (by rw [hbl, mx_len]; omega)
  rw [(has_iff _ _).2 ⟨fun x hx => (hb x hx).2, hp.1, hp.2⟩, decide_eq_true (show (b.length : Int) = R by omega)] at q1
  have q2 := take8_yes hP M hin
  have hw := tkCup_W hP M hin
  have xl := solX_len P C (tkCup P C R l) b
  have xi := solX_in (C := C) hp (tkCup P C R l) b
  have vi := invsT_in hP hp hw
  have k1 := fun vs => halves_walk (l := l) (vs := vs) hp hw r2 hb hbl
  have zi := hlL_in hp hw hb hbl _ (Nat.le_refl _)
  have zl := hlL_len P (tkCup P C R l) b (tkCup P C R l).1.length
  have k2 := solved_walk (l := l) (x := zeroV C) (z := hlL P (tkCup P C R l) b (tkCup P C R l).1.length) hp hw r2 c2 (zeroV_in hp C) (zeroV_len C) zi zl vi.1 vi.2
  have k3 := times_walk P R C l (solX P C (tkCup P C R l) b) (by have := M.len; have := rc_bd r2 c2; rw [mx_len]; omega) (by rw [xl, mx_len]; omega) (fun a ha => in_w64 hp (hin a ha)) (fun a ha => in_w64 hp (xi a ha))
  rw [show timesR P R C l (solX P C (tkCup P C R l) b) = (timesM P R C l (solX P C (tkCup P C R l) b), 0) by
    unfold timesR; rw [mat_mk M, (has_iff _ _).2 ⟨fun x hx => (xi x hx).2, hp.1, hp.2⟩, decide_eq_true (show ((solX P C (tkCup P C R l) b).length : Int) = C by omega)]; rfl] at k3
  have k4 := equal_walk (timesM P R C l (solX P C (tkCup P C R l) b)) b (by rw [timesM_len, mx_len]; omega)
  have tml := timesM_len P R C l (solX P C (tkCup P C R l) b)
  change CallsW _ _ _ _ _ ((solX P C (tkCup P C R l) b).map iu) at k2
  generalize solX P C (tkCup P C R l) b = X at xl xi k2 k3 k4 tml ⊢
  generalize hlL P (tkCup P C R l) b (tkCup P C R l).1.length = Z at zi zl k1 k2
  generalize invsT P (tkCup P C R l) = vs at q2 vi k2
  have k1 := k1 vs
  generalize tkCup P C R l = c at q2 hw k1 k2 zl
  obtain ⟨rw0, cw, cc, uu⟩ := c
  generalize timesM P R C l X = TX at k3 k4 tml ⊢
  simp only at zl k2
  rw [show (lu b) = .i (.l R (b.map iu)) by rw [lu, hbl]] at k4
  rw [lu, xl] at k3
  rw [lu, zl] at k1
  have b1 : C * 8 ≤ 140737488355328 := by omega
  have b2 : C ≤ 140737488355328 := by omega
  have ez : (zeroRow [Value.int .u64 0] C).map IV.v = (zeroV C).map iu := zero_tbl C
  have nt : (X.map iu).take C = X.map iu := List.take_of_length_le (by simp [xl])
  have nb : (lu b) = .i (.l R (b.map iu)) := by rw [lu, hbl]
  rw [nb] at q1 ⊢
  by_cases hx : TX = b
  · rw [decide_eq_true hx] at k4
    rw [if_pos hx]
    refine X_startP (n := 49) (m := 3) (rs := [.tmp 6, .tmp 7]) Try.func25 rfl rfl rfl rfl (by decide) fun base => ?_
    repeat (first | ((first | refine X_call_fn2 rfl (by simp only [tys]) ?_ | refine X_dcall_fn2 rfl (by simp only [tys]) ?_); apply Exists.intro; apply And.intro; (focus (simp -dsimp only [simx, zzC, zzB, tys, ite_self, opnL, callB, callX, readsB, stepOp, nilCmp, ofVal, opBuiltin, opLen, PV.sk, scalBin, scalUn, intBin, opLoad, natOf, opConvert, opField, cellsP, oneP, Value.oneCell', opStore, toIV, scalT, scalA, scalC, boxesA, boxesC, zipB_none, zipB_mx, isZ, opZip, zeroP, opAppendZ, opMakeMap, opLookup, mboxB, opUpdate, ↓reduceIte, Nat.reduceSub, Nat.reduceEqDiff, Nat.reduceAdd, Nat.reduceMul, Nat.reduceLT, Nat.reduceLeDiff, Int.reduceToNat, Int.reduceLE, Int.reduceLT, Int.reduceNeg, reduceCtorEq, zzL, if_true, if_false] <;> rfl)); apply Exists.intro; apply And.intro; (focus (first | exact q1 | exact q2 | exact k1))) | refine X_opc rfl ?_ | refine X_dopc rfl ?_ | refine ⟨(by show drawK _ _ = true; kernel_rfl : drawX _ _ _), ?_⟩ | exact (by show drawK _ _ = true; kernel_rfl : drawX _ _ _) | simp -dsimp (maxSteps := 20000000) (disch := omega) only [simx, zzC, zzB, tys, ite_self, opnL, callB, callX, readsB, stepOp, nilCmp, ofVal, opBuiltin, opLen, PV.sk, scalBin, scalUn, intBin, opLoad, natOf, opConvert, opField, cellsP, oneP, Value.oneCell', opStore, toIV, scalT, scalA, scalC, boxesA, boxesC, zipB_none, zipB_mx, isZ, opZip, zeroP, opAppendZ, opMakeMap, opLookup, mboxB, opUpdate, ↓reduceIte, Nat.reduceSub, Nat.reduceEqDiff, Nat.reduceAdd, Nat.reduceMul, Nat.reduceLT, Nat.reduceLeDiff, Int.reduceToNat, Int.reduceLE, Int.reduceLT, Int.reduceNeg, reduceCtorEq, gos, Int.reduceAdd, Int.reduceSub, Int.reduceMul, Int.reduceEq, b1, b2])
    refine X_dcall_w (args := [takenP P R C l (rw0, cw, cc, uu) vs, .view ((6, 2) :: base) 0 1 C C, .i (.l rw0.length (Z.map iu))]) ((6, 2) :: base) k2 rfl (by simp only [tys]) rfl (by rw [← ez]; exact Heap.put_same _ _ _) (by simp [boxesA, boxesC]) (by simp [mapO, lowerW, isV, reV, boxesA, boxesC, lowerA, lowerC]) rfl (by simp [xl, zeroV_len]) ?_
    rw [show (List.filter (notB ((6, 2) :: base)) (List.flatMap boxesA [takenP P R C l (rw0, cw, cc, uu) vs, .view ((6, 2) :: base) 0 1 C C, .i (.l rw0.length (Z.map iu))])) = [] by simp [boxesA, boxesC, notB]]
    repeat (first | ((first | refine X_call_fn2 rfl (by simp only [tys]) ?_ | refine X_dcall_fn2 rfl (by simp only [tys]) ?_); apply Exists.intro; apply And.intro; (focus (simp -dsimp only [simx, zzC, zzB, tys, ite_self, opnL, callB, callX, readsB, stepOp, nilCmp, ofVal, opBuiltin, opLen, PV.sk, scalBin, scalUn, intBin, opLoad, natOf, opConvert, opField, cellsP, oneP, Value.oneCell', opStore, toIV, scalT, scalA, scalC, boxesA, boxesC, zipB_none, zipB_mx, isZ, opZip, zeroP, opAppendZ, opMakeMap, opLookup, mboxB, opUpdate, ↓reduceIte, Nat.reduceSub, Nat.reduceEqDiff, Nat.reduceAdd, Nat.reduceMul, Nat.reduceLT, Nat.reduceLeDiff, Int.reduceToNat, Int.reduceLE, Int.reduceLT, Int.reduceNeg, reduceCtorEq, zzL, if_true, if_false, List.length_map, xl, nt] <;> rfl)); apply Exists.intro; apply And.intro; (focus (first | exact k3 | exact k4))) | refine X_opc rfl ?_ | refine X_dopc rfl ?_ | refine ⟨(by show drawK _ _ = true; kernel_rfl : drawX _ _ _), ?_⟩ | exact (by show drawK _ _ = true; kernel_rfl : drawX _ _ _) | simp -dsimp (maxSteps := 20000000) (disch := omega) only [simx, zzC, zzB, tys, ite_self, opnL, callB, callX, readsB, stepOp, nilCmp, ofVal, opBuiltin, opLen, PV.sk, scalBin, scalUn, intBin, opLoad, natOf, opConvert, opField, cellsP, oneP, Value.oneCell', opStore, toIV, scalT, scalA, scalC, boxesA, boxesC, zipB_none, zipB_mx, isZ, opZip, zeroP, opAppendZ, opMakeMap, opLookup, mboxB, opUpdate, ↓reduceIte, Nat.reduceSub, Nat.reduceEqDiff, Nat.reduceAdd, Nat.reduceMul, Nat.reduceLT, Nat.reduceLeDiff, Int.reduceToNat, Int.reduceLE, Int.reduceLT, Int.reduceNeg, reduceCtorEq, zzR, gos, Int.reduceAdd, Int.reduceSub, Int.reduceMul, Int.reduceEq, List.length_map, xl, nt])
    simp [xl]
  · rw [decide_eq_false hx] at k4
    rw [if_neg hx]
    refine X_startP (n := 49) (m := 3) (rs := [.tmp 6, .tmp 7]) Try.func25 rfl rfl rfl rfl (by decide) fun base => ?_
    repeat (first | ((first | refine X_call_fn2 rfl (by simp only [tys]) ?_ | refine X_dcall_fn2 rfl (by simp only [tys]) ?_); apply Exists.intro; apply And.intro; (focus (simp -dsimp only [simx, zzC, zzB, tys, ite_self, opnL, callB, callX, readsB, stepOp, nilCmp, ofVal, opBuiltin, opLen, PV.sk, scalBin, scalUn, intBin, opLoad, natOf, opConvert, opField, cellsP, oneP, Value.oneCell', opStore, toIV, scalT, scalA, scalC, boxesA, boxesC, zipB_none, zipB_mx, isZ, opZip, zeroP, opAppendZ, opMakeMap, opLookup, mboxB, opUpdate, ↓reduceIte, Nat.reduceSub, Nat.reduceEqDiff, Nat.reduceAdd, Nat.reduceMul, Nat.reduceLT, Nat.reduceLeDiff, Int.reduceToNat, Int.reduceLE, Int.reduceLT, Int.reduceNeg, reduceCtorEq, zzL, if_true, if_false] <;> rfl)); apply Exists.intro; apply And.intro; (focus (first | exact q1 | exact q2 | exact k1))) | refine X_opc rfl ?_ | refine X_dopc rfl ?_ | refine ⟨(by show drawK _ _ = true; kernel_rfl : drawX _ _ _), ?_⟩ | exact (by show drawK _ _ = true; kernel_rfl : drawX _ _ _) | simp -dsimp (maxSteps := 20000000) (disch := omega) only [simx, zzC, zzB, tys, ite_self, opnL, callB, callX, readsB, stepOp, nilCmp, ofVal, opBuiltin, opLen, PV.sk, scalBin, scalUn, intBin, opLoad, natOf, opConvert, opField, cellsP, oneP, Value.oneCell', opStore, toIV, scalT, scalA, scalC, boxesA, boxesC, zipB_none, zipB_mx, isZ, opZip, zeroP, opAppendZ, opMakeMap, opLookup, mboxB, opUpdate, ↓reduceIte, Nat.reduceSub, Nat.reduceEqDiff, Nat.reduceAdd, Nat.reduceMul, Nat.reduceLT, Nat.reduceLeDiff, Int.reduceToNat, Int.reduceLE, Int.reduceLT, Int.reduceNeg, reduceCtorEq, gos, Int.reduceAdd, Int.reduceSub, Int.reduceMul, Int.reduceEq, b1, b2])
    refine X_dcall_w (args := [takenP P R C l (rw0, cw, cc, uu) vs, .view ((6, 2) :: base) 0 1 C C, .i (.l rw0.length (Z.map iu))]) ((6, 2) :: base) k2 rfl (by simp only [tys]) rfl (by rw [← ez]; exact Heap.put_same _ _ _) (by simp [boxesA, boxesC]) (by simp [mapO, lowerW, isV, reV, boxesA, boxesC, lowerA, lowerC]) rfl (by simp [xl, zeroV_len]) ?_
    rw [show (List.filter (notB ((6, 2) :: base)) (List.flatMap boxesA [takenP P R C l (rw0, cw, cc, uu) vs, .view ((6, 2) :: base) 0 1 C C, .i (.l rw0.length (Z.map iu))])) = [] by simp [boxesA, boxesC, notB]]
    repeat (first | ((first | refine X_call_fn2 rfl (by simp only [tys]) ?_ | refine X_dcall_fn2 rfl (by simp only [tys]) ?_); apply Exists.intro; apply And.intro; (focus (simp -dsimp only [simx, zzC, zzB, tys, ite_self, opnL, callB, callX, readsB, stepOp, nilCmp, ofVal, opBuiltin, opLen, PV.sk, scalBin, scalUn, intBin, opLoad, natOf, opConvert, opField, cellsP, oneP, Value.oneCell', opStore, toIV, scalT, scalA, scalC, boxesA, boxesC, zipB_none, zipB_mx, isZ, opZip, zeroP, opAppendZ, opMakeMap, opLookup, mboxB, opUpdate, ↓reduceIte, Nat.reduceSub, Nat.reduceEqDiff, Nat.reduceAdd, Nat.reduceMul, Nat.reduceLT, Nat.reduceLeDiff, Int.reduceToNat, Int.reduceLE, Int.reduceLT, Int.reduceNeg, reduceCtorEq, zzL, if_true, if_false, List.length_map, xl, nt] <;> rfl)); apply Exists.intro; apply And.intro; (focus (first | exact k3 | exact k4))) | refine X_opc rfl ?_ | refine X_dopc rfl ?_ | refine ⟨(by show drawK _ _ = true; kernel_rfl : drawX _ _ _), ?_⟩ | exact (by show drawK _ _ = true; kernel_rfl : drawX _ _ _) | simp -dsimp (maxSteps := 20000000) (disch := omega) only [simx, zzC, zzB, tys, ite_self, opnL, callB, callX, readsB, stepOp, nilCmp, ofVal, opBuiltin, opLen, PV.sk, scalBin, scalUn, intBin, opLoad, natOf, opConvert, opField, cellsP, oneP, Value.oneCell', opStore, toIV, scalT, scalA, scalC, boxesA, boxesC, zipB_none, zipB_mx, isZ, opZip, zeroP, opAppendZ, opMakeMap, opLookup, mboxB, opUpdate, ↓reduceIte, Nat.reduceSub, Nat.reduceEqDiff, Nat.reduceAdd, Nat.reduceMul, Nat.reduceLT, Nat.reduceLeDiff, Int.reduceToNat, Int.reduceLE, Int.reduceLT, Int.reduceNeg, reduceCtorEq, zzR, gos, Int.reduceAdd, Int.reduceSub, Int.reduceMul, Int.reduceEq, List.length_map, xl, nt])
    rfl
end Go.Proofs.Ytmalpmnmknpphaa.TM
namespace Go.Proofs.Ytmalpmnmknpphaa.TM
open Go Go.RowKit
attribute [local irreducible] K W WOps Effs Xg Xo Xr Xdg Xdo Xdr Xif CallsP CallR
theorem left8_yes {P R C : Nat} {l : List Int} (hP : Prm P) (M : Mt P R C l) (hin : ∀ a ∈ l, In P a) :
    CallsP Try.prog 31 [u64 P, matP R C l] (.tup [lu (fstR P R (tkCup P C R l) (fun _ => true)).1, i64 (fstR P R (tkCup P C R l) (fun _ => true)).2]) := by
  have hp := M.hp
  have q2 := take8_yes hP M hin
  have hw := tkCup_W hP M hin
  have vi := invsT_in hP hp hw
  have k1 := fun (b0 : Name) (h : Heap) h0 => firstL_walk (base := b0) (h := h) (l := l) (vs := invsT P (tkCup P C R l)) hp hw M.r2 h0
  unfold fstR
  unfold fstP at k1
  generalize invsT P (tkCup P C R l) = vs at q2 vi k1
  generalize tkCup P C R l = c at q2 hw k1 ⊢
  obtain ⟨rw0, cw, cc, uu⟩ := c
  simp only at k1 ⊢
  cases hf : fstI rw0 (fun i => true) R with
  | none =>
    rw [hf] at k1
    simp only at k1 ⊢
    refine X_startP (n := 21) (m := 2) (rs := [.tmp 4, .tmp 5]) Try.func31 rfl rfl rfl rfl (by decide) fun base => ?_
    repeat (first | ((first | refine X_call_fn2 rfl (by simp only [tys]) ?_ | refine X_dcall_fn2 rfl (by simp only [tys]) ?_); apply Exists.intro; apply And.intro; (focus (simp -dsimp only [simx, zzC, zzB, tys, ite_self, opnL, callB, callX, readsB, stepOp, nilCmp, ofVal, opBuiltin, opLen, PV.sk, scalBin, scalUn, intBin, opLoad, natOf, opConvert, opField, cellsP, oneP, Value.oneCell', opStore, toIV, scalT, scalA, scalC, boxesA, boxesC, zipB_none, zipB_mx, isZ, opZip, zeroP, opAppendZ, opMakeMap, opLookup, mboxB, opUpdate, ↓reduceIte, Nat.reduceSub, Nat.reduceEqDiff, Nat.reduceAdd, Nat.reduceMul, Nat.reduceLT, Nat.reduceLeDiff, Int.reduceToNat, Int.reduceLE, Int.reduceLT, Int.reduceNeg, reduceCtorEq, zzL, if_true, if_false] <;> rfl)); apply Exists.intro; apply And.intro; (focus (first | exact q2))) | refine X_opc rfl ?_ | refine X_dopc rfl ?_ | refine ⟨(by show drawK _ _ = true; kernel_rfl : drawX _ _ _), ?_⟩ | exact (by show drawK _ _ = true; kernel_rfl : drawX _ _ _) | simp -dsimp (maxSteps := 20000000) (disch := omega) only [simx, zzC, zzB, tys, ite_self, opnL, callB, callX, readsB, stepOp, nilCmp, ofVal, opBuiltin, opLen, PV.sk, scalBin, scalUn, intBin, opLoad, natOf, opConvert, opField, cellsP, oneP, Value.oneCell', opStore, toIV, scalT, scalA, scalC, boxesA, boxesC, zipB_none, zipB_mx, isZ, opZip, zeroP, opAppendZ, opMakeMap, opLookup, mboxB, opUpdate, ↓reduceIte, Nat.reduceSub, Nat.reduceEqDiff, Nat.reduceAdd, Nat.reduceMul, Nat.reduceLT, Nat.reduceLeDiff, Int.reduceToNat, Int.reduceLE, Int.reduceLT, Int.reduceNeg, reduceCtorEq, gos, Int.reduceAdd, Int.reduceSub, Int.reduceMul, Int.reduceEq])
    refine X_call_sh rfl (by simp only [tys]) rfl (k1 _ _ (by simp [Heap.put_at, Heap.none_at])) ?_
    repeat (first | refine X_opc rfl ?_ | refine X_dopc rfl ?_ | refine ⟨(by show drawK _ _ = true; kernel_rfl : drawX _ _ _), ?_⟩ | exact (by show drawK _ _ = true; kernel_rfl : drawX _ _ _) | simp -dsimp (maxSteps := 20000000) (disch := omega) only [simx, zzC, zzB, tys, ite_self, opnL, callB, callX, readsB, stepOp, nilCmp, ofVal, opBuiltin, opLen, PV.sk, scalBin, scalUn, intBin, opLoad, natOf, opConvert, opField, cellsP, oneP, Value.oneCell', opStore, toIV, scalT, scalA, scalC, boxesA, boxesC, zipB_none, zipB_mx, isZ, opZip, zeroP, opAppendZ, opMakeMap, opLookup, mboxB, opUpdate, ↓reduceIte, Nat.reduceSub, Nat.reduceEqDiff, Nat.reduceAdd, Nat.reduceMul, Nat.reduceLT, Nat.reduceLeDiff, Int.reduceToNat, Int.reduceLE, Int.reduceLT, Int.reduceNeg, reduceCtorEq, zzR, gos, Int.reduceAdd, Int.reduceSub, Int.reduceMul, Int.reduceEq])
    rfl
  | some i =>
    rw [hf] at k1
    simp only at k1 ⊢
    refine X_startP (n := 21) (m := 2) (rs := [.tmp 4, .tmp 5]) Try.func31 rfl rfl rfl rfl (by decide) fun base => ?_
    repeat (first | ((first | refine X_call_fn2 rfl (by simp only [tys]) ?_ | refine X_dcall_fn2 rfl (by simp only [tys]) ?_); apply Exists.intro; apply And.intro; (focus (simp -dsimp only [simx, zzC, zzB, tys, ite_self, opnL, callB, callX, readsB, stepOp, nilCmp, ofVal, opBuiltin, opLen, PV.sk, scalBin, scalUn, intBin, opLoad, natOf, opConvert, opField, cellsP, oneP, Value.oneCell', opStore, toIV, scalT, scalA, scalC, boxesA, boxesC, zipB_none, zipB_mx, isZ, opZip, zeroP, opAppendZ, opMakeMap, opLookup, mboxB, opUpdate, ↓reduceIte, Nat.reduceSub, Nat.reduceEqDiff, Nat.reduceAdd, Nat.reduceMul, Nat.reduceLT, Nat.reduceLeDiff, Int.reduceToNat, Int.reduceLE, Int.reduceLT, Int.reduceNeg, reduceCtorEq, zzL, if_true, if_false] <;> rfl)); apply Exists.intro; apply And.intro; (focus (first | exact q2))) | refine X_opc rfl ?_ | refine X_dopc rfl ?_ | refine ⟨(by show drawK _ _ = true; kernel_rfl : drawX _ _ _), ?_⟩ | exact (by show drawK _ _ = true; kernel_rfl : drawX _ _ _) | simp -dsimp (maxSteps := 20000000) (disch := omega) only [simx, zzC, zzB, tys, ite_self, opnL, callB, callX, readsB, stepOp, nilCmp, ofVal, opBuiltin, opLen, PV.sk, scalBin, scalUn, intBin, opLoad, natOf, opConvert, opField, cellsP, oneP, Value.oneCell', opStore, toIV, scalT, scalA, scalC, boxesA, boxesC, zipB_none, zipB_mx, isZ, opZip, zeroP, opAppendZ, opMakeMap, opLookup, mboxB, opUpdate, ↓reduceIte, Nat.reduceSub, Nat.reduceEqDiff, Nat.reduceAdd, Nat.reduceMul, Nat.reduceLT, Nat.reduceLeDiff, Int.reduceToNat, Int.reduceLE, Int.reduceLT, Int.reduceNeg, reduceCtorEq, gos, Int.reduceAdd, Int.reduceSub, Int.reduceMul, Int.reduceEq])
    refine X_call_sh rfl (by simp only [tys]) rfl (k1 _ _ (by simp [Heap.put_at, Heap.none_at])) ?_
    repeat (first | refine X_opc rfl ?_ | refine X_dopc rfl ?_ | refine ⟨(by show drawK _ _ = true; kernel_rfl : drawX _ _ _), ?_⟩ | exact (by show drawK _ _ = true; kernel_rfl : drawX _ _ _) | simp -dsimp (maxSteps := 20000000) (disch := omega) only [simx, zzC, zzB, tys, ite_self, opnL, callB, callX, readsB, stepOp, nilCmp, ofVal, opBuiltin, opLen, PV.sk, scalBin, scalUn, intBin, opLoad, natOf, opConvert, opField, cellsP, oneP, Value.oneCell', opStore, toIV, scalT, scalA, scalC, boxesA, boxesC, zipB_none, zipB_mx, isZ, opZip, zeroP, opAppendZ, opMakeMap, opLookup, mboxB, opUpdate, ↓reduceIte, Nat.reduceSub, Nat.reduceEqDiff, Nat.reduceAdd, Nat.reduceMul, Nat.reduceLT, Nat.reduceLeDiff, Int.reduceToNat, Int.reduceLE, Int.reduceLT, Int.reduceNeg, reduceCtorEq, zzR, gos, Int.reduceAdd, Int.reduceSub, Int.reduceMul, Int.reduceEq])
theorem against8_yes {P R C : Nat} {l b : List Int} (hP : Prm P) (M : Mt P R C l) (hin : ∀ a ∈ l, In P a) (hb : ∀ a ∈ b, In P a) (hbl : b.length = R) :
    CallsP Try.prog 29 [u64 P, matP R C l, lu b] (.tup [lu (fstR P R (tkCup P C R l) (fun y => dotNz P y b)).1, i64 (fstR P R (tkCup P C R l) (fun y => dotNz P y b)).2]) := by
  have hp := M.hp
  have r2 := M.r2
  have q1 := vector_walk P b R (by rw [hbl, mx_len]; omega)
  rw [(has_iff _ _).2 ⟨fun x hx => (hb x hx).2, hp.1, hp.2⟩, decide_eq_true (show (b.length : Int) = R by omega)] at q1
  have q2 := take8_yes hP M hin
  have hw := tkCup_W hP M hin
  have k1 := fun (b0 b1 b2 : Name) (h : Heap) h0 h1 h2 n1 n2 => firstA_walk (base := b0) (h := h) (b1 := b1) (b2 := b2) (l := l) (vs := invsT P (tkCup P C R l)) (b := b) hp hw M.r2 h0 hb hbl h1 h2 n1 n2
  unfold fstR
  unfold fstP at k1
  generalize invsT P (tkCup P C R l) = vs at q2 k1
  generalize tkCup P C R l = c at q2 hw k1 ⊢
  obtain ⟨rw0, cw, cc, uu⟩ := c
  simp only at k1 ⊢
  cases hf : fstI rw0 (fun i => dotNz P (rowsV P R (rw0, cw, cc, uu) i) b) R with
  | none =>
    rw [hf] at k1
    simp only at k1 ⊢
    refine X_startP (n := 30) (m := 3) (rs := [.tmp 6, .tmp 7]) Try.func29 rfl rfl rfl rfl (by decide) fun base => ?_
    repeat (first | ((first | refine X_call_fn2 rfl (by simp only [tys]) ?_ | refine X_dcall_fn2 rfl (by simp only [tys]) ?_); apply Exists.intro; apply And.intro; (focus (simp -dsimp only [simx, zzC, zzB, tys, ite_self, opnL, callB, callX, readsB, stepOp, nilCmp, ofVal, opBuiltin, opLen, PV.sk, scalBin, scalUn, intBin, opLoad, natOf, opConvert, opField, cellsP, oneP, Value.oneCell', opStore, toIV, scalT, scalA, scalC, boxesA, boxesC, zipB_none, zipB_mx, isZ, opZip, zeroP, opAppendZ, opMakeMap, opLookup, mboxB, opUpdate, ↓reduceIte, Nat.reduceSub, Nat.reduceEqDiff, Nat.reduceAdd, Nat.reduceMul, Nat.reduceLT, Nat.reduceLeDiff, Int.reduceToNat, Int.reduceLE, Int.reduceLT, Int.reduceNeg, reduceCtorEq, zzL, if_true, if_false] <;> rfl)); apply Exists.intro; apply And.intro; (focus (first | exact q1 | exact q2))) | refine X_opc rfl ?_ | refine X_dopc rfl ?_ | refine ⟨(by show drawK _ _ = true; kernel_rfl : drawX _ _ _), ?_⟩ | exact (by show drawK _ _ = true; kernel_rfl : drawX _ _ _) | simp -dsimp (maxSteps := 20000000) (disch := omega) only [simx, zzC, zzB, tys, ite_self, opnL, callB, callX, readsB, stepOp, nilCmp, ofVal, opBuiltin, opLen, PV.sk, scalBin, scalUn, intBin, opLoad, natOf, opConvert, opField, cellsP, oneP, Value.oneCell', opStore, toIV, scalT, scalA, scalC, boxesA, boxesC, zipB_none, zipB_mx, isZ, opZip, zeroP, opAppendZ, opMakeMap, opLookup, mboxB, opUpdate, ↓reduceIte, Nat.reduceSub, Nat.reduceEqDiff, Nat.reduceAdd, Nat.reduceMul, Nat.reduceLT, Nat.reduceLeDiff, Int.reduceToNat, Int.reduceLE, Int.reduceLT, Int.reduceNeg, reduceCtorEq, gos, Int.reduceAdd, Int.reduceSub, Int.reduceMul, Int.reduceEq])
    refine X_call_sh rfl (by simp only [tys]) rfl (k1 _ ((0, 0) :: base) ((0, 2) :: base) _ (by simp [Heap.put_at, Heap.none_at]) (by simp [Heap.put_at, Heap.none_at]) (by simp [Heap.put_at, Heap.none_at]) (by simp) (by simp)) ?_
    repeat (first | refine X_opc rfl ?_ | refine X_dopc rfl ?_ | refine ⟨(by show drawK _ _ = true; kernel_rfl : drawX _ _ _), ?_⟩ | exact (by show drawK _ _ = true; kernel_rfl : drawX _ _ _) | simp -dsimp (maxSteps := 20000000) (disch := omega) only [simx, zzC, zzB, tys, ite_self, opnL, callB, callX, readsB, stepOp, nilCmp, ofVal, opBuiltin, opLen, PV.sk, scalBin, scalUn, intBin, opLoad, natOf, opConvert, opField, cellsP, oneP, Value.oneCell', opStore, toIV, scalT, scalA, scalC, boxesA, boxesC, zipB_none, zipB_mx, isZ, opZip, zeroP, opAppendZ, opMakeMap, opLookup, mboxB, opUpdate, ↓reduceIte, Nat.reduceSub, Nat.reduceEqDiff, Nat.reduceAdd, Nat.reduceMul, Nat.reduceLT, Nat.reduceLeDiff, Int.reduceToNat, Int.reduceLE, Int.reduceLT, Int.reduceNeg, reduceCtorEq, zzR, gos, Int.reduceAdd, Int.reduceSub, Int.reduceMul, Int.reduceEq])
    rfl
  | some i =>
    rw [hf] at k1
    simp only at k1 ⊢
    refine X_startP (n := 30) (m := 3) (rs := [.tmp 6, .tmp 7]) Try.func29 rfl rfl rfl rfl (by decide) fun base => ?_
    repeat (first | ((first | refine X_call_fn2 rfl (by simp only [tys]) ?_ | refine X_dcall_fn2 rfl (by simp only [tys]) ?_); apply Exists.intro; apply And.intro; (focus (simp -dsimp only [simx, zzC, zzB, tys, ite_self, opnL, callB, callX, readsB, stepOp, nilCmp, ofVal, opBuiltin, opLen, PV.sk, scalBin, scalUn, intBin, opLoad, natOf, opConvert, opField, cellsP, oneP, Value.oneCell', opStore, toIV, scalT, scalA, scalC, boxesA, boxesC, zipB_none, zipB_mx, isZ, opZip, zeroP, opAppendZ, opMakeMap, opLookup, mboxB, opUpdate, ↓reduceIte, Nat.reduceSub, Nat.reduceEqDiff, Nat.reduceAdd, Nat.reduceMul, Nat.reduceLT, Nat.reduceLeDiff, Int.reduceToNat, Int.reduceLE, Int.reduceLT, Int.reduceNeg, reduceCtorEq, zzL, if_true, if_false] <;> rfl)); apply Exists.intro; apply And.intro; (focus (first | exact q1 | exact q2))) | refine X_opc rfl ?_ | refine X_dopc rfl ?_ | refine ⟨(by show drawK _ _ = true; kernel_rfl : drawX _ _ _), ?_⟩ | exact (by show drawK _ _ = true; kernel_rfl : drawX _ _ _) | simp -dsimp (maxSteps := 20000000) (disch := omega) only [simx, zzC, zzB, tys, ite_self, opnL, callB, callX, readsB, stepOp, nilCmp, ofVal, opBuiltin, opLen, PV.sk, scalBin, scalUn, intBin, opLoad, natOf, opConvert, opField, cellsP, oneP, Value.oneCell', opStore, toIV, scalT, scalA, scalC, boxesA, boxesC, zipB_none, zipB_mx, isZ, opZip, zeroP, opAppendZ, opMakeMap, opLookup, mboxB, opUpdate, ↓reduceIte, Nat.reduceSub, Nat.reduceEqDiff, Nat.reduceAdd, Nat.reduceMul, Nat.reduceLT, Nat.reduceLeDiff, Int.reduceToNat, Int.reduceLE, Int.reduceLT, Int.reduceNeg, reduceCtorEq, gos, Int.reduceAdd, Int.reduceSub, Int.reduceMul, Int.reduceEq])
    refine X_call_sh rfl (by simp only [tys]) rfl (k1 _ ((0, 0) :: base) ((0, 2) :: base) _ (by simp [Heap.put_at, Heap.none_at]) (by simp [Heap.put_at, Heap.none_at]) (by simp [Heap.put_at, Heap.none_at]) (by simp) (by simp)) ?_
    repeat (first | refine X_opc rfl ?_ | refine X_dopc rfl ?_ | refine ⟨(by show drawK _ _ = true; kernel_rfl : drawX _ _ _), ?_⟩ | exact (by show drawK _ _ = true; kernel_rfl : drawX _ _ _) | simp -dsimp (maxSteps := 20000000) (disch := omega) only [simx, zzC, zzB, tys, ite_self, opnL, callB, callX, readsB, stepOp, nilCmp, ofVal, opBuiltin, opLen, PV.sk, scalBin, scalUn, intBin, opLoad, natOf, opConvert, opField, cellsP, oneP, Value.oneCell', opStore, toIV, scalT, scalA, scalC, boxesA, boxesC, zipB_none, zipB_mx, isZ, opZip, zeroP, opAppendZ, opMakeMap, opLookup, mboxB, opUpdate, ↓reduceIte, Nat.reduceSub, Nat.reduceEqDiff, Nat.reduceAdd, Nat.reduceMul, Nat.reduceLT, Nat.reduceLeDiff, Int.reduceToNat, Int.reduceLE, Int.reduceLT, Int.reduceNeg, reduceCtorEq, zzR, gos, Int.reduceAdd, Int.reduceSub, Int.reduceMul, Int.reduceEq])
end Go.Proofs.Ytmalpmnmknpphaa.TM
