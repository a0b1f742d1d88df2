/- What is proved of functions, and plain facts, part 8. Conditions: none. -/
import Derived.Test.YtmalpmnmknpphaaSWitnessShows7
set_option linter.defProp false
set_option linter.unusedSectionVars false
set_option linter.unusedSimpArgs false
set_option linter.unusedVariables false
namespace Go.Proofs.Ytmalpmnmknpphaa.TM
open Go Go.RowKit
attribute [local irreducible] K W WOps Effs Xg Xo Xr Xdg Xdo Xdr Xif CallsP CallR
def uniV (n i : Nat) : List Int := tbl n (fun m => if m = i then 1 else 0)
theorem uniV_len (n i : Nat) : (uniV n i).length = n := tbl_len ..
theorem uniV_in {p : Int} (hp : Md p) (n i : Nat) : ∀ a ∈ uniV n i, In p a := fun a ha => by
  obtain ⟨m, _, rfl⟩ := tbl_mem ha
  (try simp only)
  have := hp.1
  split
  · exact ⟨by decide, by omega⟩
  · exact ⟨by decide, by omega⟩
def kerX (p : Int) (C : Nat) (c : CupT) (f : Nat) : List Int := svL p C c (invsT p c) (zeroV c.1.length) (uniV C f) c.1.length
def freeI (cols : List Int) (C : Nat) : Option Nat := fstI cols (fun _ => true) C
def kernR (p : Int) (C : Nat) (c : CupT) : List Int × Int := match freeI c.2.1 C with
  | some f => (kerX p C c f, 0)
  | none => ([], 6)
set_option maxHeartbeats 4000000 in
theorem kernel8_yes {P R C : Nat} {l : List Int} (hP : Prm P) (M : Mt P R C l) (hin : ∀ a ∈ l, In P a) :
    CallsP Try.prog 30 [u64 P, matP R C l] (.tup [lu (kernR P C (tkCup P C R l)).1, i64 (kernR P C (tkCup P C R l)).2]) := by
  have hp := M.hp
  have r2 := M.r2
  have c2 := M.c2
  have q2 := take8_yes hP M hin
  have hw := tkCup_W hP M hin
  have rle := hw.rle
  have ul := hw.ul
  have ql := hw.ql
  have vi := invsT_in hP hp hw
  have k2 := fun f => solved_walk (l := l) (x := uniV C f) (z := zeroV (tkCup P C R l).1.length) hp hw r2 c2 (uniV_in hp C f) (uniV_len C f) (zeroV_in hp _) (zeroV_len _) vi.1 vi.2
  have xl := fun f => svL_len (p := P) (C := C) (c := tkCup P C R l) (vs := invsT P (tkCup P C R l)) (z := zeroV (tkCup P C R l).1.length) (uniV_len C f) (tkCup P C R l).1.length
  unfold kernR freeI
  have ke : kerX P C (tkCup P C R l) = fun f => svL P C (tkCup P C R l) (invsT P (tkCup P C R l)) (zeroV (tkCup P C R l).1.length) (uniV C f) (tkCup P C R l).1.length := rfl
  rw [← show kerX P C (tkCup P C R l) = fun f => svL P C (tkCup P C R l) (invsT P (tkCup P C R l)) (zeroV (tkCup P C R l).1.length) (uniV C f) (tkCup P C R l).1.length from rfl] at ke
  change ∀ f, CallsW _ _ _ _ _ ((kerX P C (tkCup P C R l) f).map iu) at k2
  change ∀ f, (kerX P C (tkCup P C R l) f).length = C at xl
  clear ke
  generalize kerX P C (tkCup P C R l) = KX at k2 xl ⊢
  generalize invsT P (tkCup P C R l) = vs at q2 k2
  generalize tkCup P C R l = c at q2 hw k2 rle ul ql ⊢
  obtain ⟨rw0, cw, cc, uu⟩ := c
  simp only at k2 rle ul ql ⊢
  have b1 : C * 8 ≤ 140737488355328 := by omega
  have b2 : C ≤ 140737488355328 := by omega
  have b3 : rw0.length * 8 ≤ 140737488355328 := by omega
  have b4 : rw0.length ≤ 140737488355328 := by omega
  have ez : (zeroRow [Value.int .u64 0] C).map IV.v = (zeroV C).map iu := zero_tbl C
  have ez2 : (zeroRow [Value.int .u64 0] rw0.length).map IV.v = (zeroV rw0.length).map iu := zero_tbl _
  have rl : ((zeroRow [Value.int .u64 0] C).map IV.v).length = C := by rw [List.length_map, zeroRow_len]; simp
  have zl2 : ((zeroRow [Value.int .u64 0] rw0.length).map IV.v).length = rw0.length := by rw [List.length_map, zeroRow_len]; simp
  have nz2 : ((zeroRow [Value.int .u64 0] rw0.length).map IV.v).take rw0.length = (zeroRow [Value.int .u64 0] rw0.length).map IV.v := List.take_of_length_le (by omega)
  refine X_startP (n := 46) (m := 2) (rs := [.tmp 4, .tmp 5]) Try.func30 rfl rfl rfl rfl (by decide) fun base => ?_
  repeat (first | ((first | refine X_call_fn2 rfl (by simp only [tys]) ?_ | refine X_dcall_fn2 rfl (by simp only [tys]) ?_); apply Exists.intro; apply And.intro; (focus (simp -dsimp only [simx, zzC, zzB, tys, ite_self, opnL, callB, callX, readsB, stepOp, nilCmp, ofVal, opBuiltin, opLen, PV.sk, scalBin, scalUn, intBin, opLoad, natOf, opConvert, opField, cellsP, oneP, Value.oneCell', opStore, toIV, scalT, scalA, scalC, boxesA, boxesC, zipB_none, zipB_mx, isZ, opZip, zeroP, opAppendZ, opMakeMap, opLookup, mboxB, opUpdate, ↓reduceIte, Nat.reduceSub, Nat.reduceEqDiff, Nat.reduceAdd, Nat.reduceMul, Nat.reduceLT, Nat.reduceLeDiff, Int.reduceToNat, Int.reduceLE, Int.reduceLT, Int.reduceNeg, reduceCtorEq, zzL, if_true, if_false] <;> rfl)); apply Exists.intro; apply And.intro; (focus (first | exact q2))) | refine X_opc rfl ?_ | refine X_dopc rfl ?_ | refine ⟨(by show drawK _ _ = true; kernel_rfl : drawX _ _ _), ?_⟩ | exact (by show drawK _ _ = true; kernel_rfl : drawX _ _ _) | simp -dsimp (maxSteps := 20000000) (disch := omega) only [simx, zzC, zzB, tys, ite_self, opnL, callB, callX, readsB, stepOp, nilCmp, ofVal, opBuiltin, opLen, PV.sk, scalBin, scalUn, intBin, opLoad, natOf, opConvert, opField, cellsP, oneP, Value.oneCell', opStore, toIV, scalT, scalA, scalC, boxesA, boxesC, zipB_none, zipB_mx, isZ, opZip, zeroP, opAppendZ, opMakeMap, opLookup, mboxB, opUpdate, ↓reduceIte, Nat.reduceSub, Nat.reduceEqDiff, Nat.reduceAdd, Nat.reduceMul, Nat.reduceLT, Nat.reduceLeDiff, Int.reduceToNat, Int.reduceLE, Int.reduceLT, Int.reduceNeg, reduceCtorEq, gos, Int.reduceAdd, Int.reduceSub, Int.reduceMul, Int.reduceEq])
  refine X_loopH [3, 6, 20, 21] [] (0) (C) (fun j => ∀ i, i < j → (!decide ((i : Int) ∈ cw) && true) = false) (fun j => [(21, i64 j)]) (fun j => (Heap.none.put ((0, 0) :: base) (.var [i64 R, i64 C, lu l])).put ((1, 6) :: base) (.var [li rw0, li cw, llP cc, llP uu, u64 P, i64 R, i64 C, lu l, lu vs])) ?_ ?_ ?_ ?_ ?_ (by decide) ?_
  · exact (fgt_nil)
  · ((simp -dsimp (disch := omega) only [simx, zzB, tys, ite_self, opnL, callB, callX, readsB, stepOp, nilCmp, ofVal, opBuiltin, opLen, PV.sk, scalBin, scalUn, intBin, opLoad, natOf, opConvert, opField, cellsP, oneP, Value.oneCell', opStore, toIV, scalT, scalA, scalC, boxesA, boxesC, zipB_none, zipB_mx, isZ, opZip, zeroP, opAppendZ, opMakeMap, opLookup, mboxB, opUpdate, ↓reduceIte, Nat.reduceSub, Nat.reduceEqDiff, Nat.reduceAdd, Nat.reduceMul, Nat.reduceLT, Nat.reduceLeDiff, Int.reduceToNat, Int.reduceLE, Int.reduceLT, Int.reduceNeg, reduceCtorEq, gos, Int.reduceAdd, Int.reduceSub, Int.reduceMul, Int.reduceEq]) <;> first | rfl | simp)
  · funext c
    simp (maxSteps := 20000000) only [Heap.drop_at, rowH_app, Heap.put_at, Heap.none_at, List.mem_cons, List.not_mem_nil, or_false]
    by_cases e0 : c = (0, 0) :: base
    · subst e0; simp []
    by_cases e1 : c = (1, 6) :: base
    · subst e1; simp []
    simp [e0, e1]
  · omega
  · intro i hi; omega
  · intro j hj hf
    by_cases cj : j < C
    · have k1 := containsI_walk cw (j : Int) (by rw [mx_len]; omega)
      by_cases cm : (j : Int) ∈ cw
      · rw [decide_eq_true cm] at k1
        repeat (first | ((first | refine X_call_fn2 rfl (by simp only [tys]) ?_ | refine X_dcall_fn2 rfl (by simp only [tys]) ?_); apply Exists.intro; apply And.intro; (focus (simp -dsimp only [simx, zzC, zzB, tys, ite_self, opnL, callB, callX, readsB, stepOp, nilCmp, ofVal, opBuiltin, opLen, PV.sk, scalBin, scalUn, intBin, opLoad, natOf, opConvert, opField, cellsP, oneP, Value.oneCell', opStore, toIV, scalT, scalA, scalC, boxesA, boxesC, zipB_none, zipB_mx, isZ, opZip, zeroP, opAppendZ, opMakeMap, opLookup, mboxB, opUpdate, ↓reduceIte, Nat.reduceSub, Nat.reduceEqDiff, Nat.reduceAdd, Nat.reduceMul, Nat.reduceLT, Nat.reduceLeDiff, Int.reduceToNat, Int.reduceLE, Int.reduceLT, Int.reduceNeg, reduceCtorEq, zzL, if_true, if_false] <;> rfl)); apply Exists.intro; apply And.intro; (focus (first | exact k1))) | refine X_opc rfl ?_ | refine X_dopc rfl ?_ | refine ⟨(by show drawK _ _ = true; kernel_rfl : drawX _ _ _), ?_⟩ | exact (by show drawK _ _ = true; kernel_rfl : drawX _ _ _) | simp -dsimp (maxSteps := 20000000) (disch := omega) only [simx, zzC, zzB, tys, ite_self, opnL, callB, callX, readsB, stepOp, nilCmp, ofVal, opBuiltin, opLen, PV.sk, scalBin, scalUn, intBin, opLoad, natOf, opConvert, opField, cellsP, oneP, Value.oneCell', opStore, toIV, scalT, scalA, scalC, boxesA, boxesC, zipB_none, zipB_mx, isZ, opZip, zeroP, opAppendZ, opMakeMap, opLookup, mboxB, opUpdate, ↓reduceIte, Nat.reduceSub, Nat.reduceEqDiff, Nat.reduceAdd, Nat.reduceMul, Nat.reduceLT, Nat.reduceLeDiff, Int.reduceToNat, Int.reduceLE, Int.reduceLT, Int.reduceNeg, reduceCtorEq, gos, Int.reduceAdd, Int.reduceSub, Int.reduceMul, Int.reduceEq, cj])
        refine ⟨cj, (fgt_nil), ?_, rfl, drop_nil _⟩
        intro i hi
        by_cases e : i = j
        · subst e; rw [decide_eq_true cm]; rfl
        · have := hf i (by omega); simpa using this
      · rw [decide_eq_false cm] at k1
        have e : fstI cw (fun i => true) C = some j := fstI_some cj hf (by rw [decide_eq_false cm]; rfl)
        rw [e]
        have j1 : j + 1 ≤ C := cj
        have px := tbl_put_iu (fun _ => 0) 1 cj
        rw [← zero_tbl C] at px
        have k2 := k2 j
        have xl := xl j
        obtain ⟨X, hX⟩ : ∃ X, KX j = X := ⟨_, rfl⟩
        rw [hX] at k2 xl
        have nt : (X.map iu).take C = X.map iu := List.take_of_length_le (by simp [xl])
        repeat (first | ((first | refine X_call_fn2 rfl (by simp only [tys]) ?_ | refine X_dcall_fn2 rfl (by simp only [tys]) ?_); apply Exists.intro; apply And.intro; (focus (simp -dsimp only [simx, zzC, zzB, tys, ite_self, opnL, callB, callX, readsB, stepOp, nilCmp, ofVal, opBuiltin, opLen, PV.sk, scalBin, scalUn, intBin, opLoad, natOf, opConvert, opField, cellsP, oneP, Value.oneCell', opStore, toIV, scalT, scalA, scalC, boxesA, boxesC, zipB_none, zipB_mx, isZ, opZip, zeroP, opAppendZ, opMakeMap, opLookup, mboxB, opUpdate, ↓reduceIte, Nat.reduceSub, Nat.reduceEqDiff, Nat.reduceAdd, Nat.reduceMul, Nat.reduceLT, Nat.reduceLeDiff, Int.reduceToNat, Int.reduceLE, Int.reduceLT, Int.reduceNeg, reduceCtorEq, zzL, if_true, if_false] <;> rfl)); apply Exists.intro; apply And.intro; (focus (first | exact k1))) | refine X_opc rfl ?_ | refine X_dopc rfl ?_ | refine ⟨(by show drawK _ _ = true; kernel_rfl : drawX _ _ _), ?_⟩ | exact (by show drawK _ _ = true; kernel_rfl : drawX _ _ _) | simp -dsimp (maxSteps := 20000000) (disch := omega) only [simx, zzC, zzB, tys, ite_self, opnL, callB, callX, readsB, stepOp, nilCmp, ofVal, opBuiltin, opLen, PV.sk, scalBin, scalUn, intBin, opLoad, natOf, opConvert, opField, cellsP, oneP, Value.oneCell', opStore, toIV, scalT, scalA, scalC, boxesA, boxesC, zipB_none, zipB_mx, isZ, opZip, zeroP, opAppendZ, opMakeMap, opLookup, mboxB, opUpdate, ↓reduceIte, Nat.reduceSub, Nat.reduceEqDiff, Nat.reduceAdd, Nat.reduceMul, Nat.reduceLT, Nat.reduceLeDiff, Int.reduceToNat, Int.reduceLE, Int.reduceLT, Int.reduceNeg, reduceCtorEq, gos, Int.reduceAdd, Int.reduceSub, Int.reduceMul, Int.reduceEq, cj, b1, b2, b3, b4, rl, j1, px, ul])
        refine X_dcall_w (args := [takenP P R C l (rw0, cw, cc, uu) vs, .view ((8, 2) :: base) 0 1 C C, .view ((10, 6) :: base) 0 1 rw0.length rw0.length]) (largs := [takenP P R C l (rw0, cw, cc, uu) vs, .view wN 0 1 C C, .i (.l rw0.length ((zeroV rw0.length).map iu))]) ((8, 2) :: base) k2 rfl (by simp only [tys]) rfl ?_ (by simp [boxesA, boxesC]) ?_ rfl (by simp [xl, uniV_len]) ?_
        · simp [Heap.put_at]; rfl
        · have h1 : ∀ h, lowerW h ((8, 2) :: base) (takenP P R C l (rw0, cw, cc, uu) vs) = some (takenP P R C l (rw0, cw, cc, uu) vs) := fun h => by simp [lowerW, isV, boxesA, boxesC, lowerA, mapO, lowerC]
          have h2 : ∀ h, lowerW h ((8, 2) :: base) (.view ((8, 2) :: base) 0 1 C C) = some (.view wN 0 1 C C) := fun h => by simp [lowerW, isV, reV]
          simp only [mapO, h1, h2]
          simp only [lowerW, isV, boxesA, boxesC, lowerA, lowerC, Heap.put_at]
          simp [zl2, nz2]
          exact ez2
        · rw [show (List.filter (notB ((8, 2) :: base)) (List.flatMap boxesA [takenP P R C l (rw0, cw, cc, uu) vs, .view ((8, 2) :: base) 0 1 C C, .view ((10, 6) :: base) 0 1 rw0.length rw0.length])) = [(10, 6) :: base] by simp [boxesA, boxesC, notB]]
          repeat (first | refine X_opc rfl ?_ | refine X_dopc rfl ?_ | refine ⟨(by show drawK _ _ = true; kernel_rfl : drawX _ _ _), ?_⟩ | exact (by show drawK _ _ = true; kernel_rfl : drawX _ _ _) | simp -dsimp (maxSteps := 20000000) (disch := omega) only [simx, zzC, zzB, tys, ite_self, opnL, callB, callX, readsB, stepOp, nilCmp, ofVal, opBuiltin, opLen, PV.sk, scalBin, scalUn, intBin, opLoad, natOf, opConvert, opField, cellsP, oneP, Value.oneCell', opStore, toIV, scalT, scalA, scalC, boxesA, boxesC, zipB_none, zipB_mx, isZ, opZip, zeroP, opAppendZ, opMakeMap, opLookup, mboxB, opUpdate, ↓reduceIte, Nat.reduceSub, Nat.reduceEqDiff, Nat.reduceAdd, Nat.reduceMul, Nat.reduceLT, Nat.reduceLeDiff, Int.reduceToNat, Int.reduceLE, Int.reduceLT, Int.reduceNeg, reduceCtorEq, zzR, gos, Int.reduceAdd, Int.reduceSub, Int.reduceMul, Int.reduceEq, List.length_map, xl, nt])
          simp [hX, xl]
    · have ej : C = j := by omega
      subst ej
      have e : fstI cw (fun i => true) C = none := fstI_none hf
      rw [e]
      repeat (first | refine X_opc rfl ?_ | refine X_dopc rfl ?_ | refine ⟨(by show drawK _ _ = true; kernel_rfl : drawX _ _ _), ?_⟩ | exact (by show drawK _ _ = true; kernel_rfl : drawX _ _ _) | simp -dsimp (maxSteps := 20000000) (disch := omega) only [simx, zzC, zzB, tys, ite_self, opnL, callB, callX, readsB, stepOp, nilCmp, ofVal, opBuiltin, opLen, PV.sk, scalBin, scalUn, intBin, opLoad, natOf, opConvert, opField, cellsP, oneP, Value.oneCell', opStore, toIV, scalT, scalA, scalC, boxesA, boxesC, zipB_none, zipB_mx, isZ, opZip, zeroP, opAppendZ, opMakeMap, opLookup, mboxB, opUpdate, ↓reduceIte, Nat.reduceSub, Nat.reduceEqDiff, Nat.reduceAdd, Nat.reduceMul, Nat.reduceLT, Nat.reduceLeDiff, Int.reduceToNat, Int.reduceLE, Int.reduceLT, Int.reduceNeg, reduceCtorEq, zzR, gos, Int.reduceAdd, Int.reduceSub, Int.reduceMul, Int.reduceEq])
      rfl
end Go.Proofs.Ytmalpmnmknpphaa.TM
namespace Go.Proofs.Ytmalpmnmknpphaa.TM
open Go Go.RowKit
def skip (k j : Nat) : Nat := if j < k then j else j + 1
def sg (k : Nat) : Int := if k % 2 = 0 then 1 else -1
theorem sg_zero : sg 0 = 1 := rfl
theorem sg_succ (k : Nat) : sg (k + 1) = - sg k := by
  unfold sg
  by_cases h : k % 2 = 0
  · rw [if_pos h, if_neg (by omega)]
  · rw [if_neg h, if_pos (by omega)]; rfl
abbrev Mx := Nat → Nat → Int
def tr (A : Mx) : Mx := fun i j => A j i
def mnr (A : Mx) (k : Nat) : Mx := fun i j => A (i + 1) (skip k j)
def Lp : Nat → Mx → Int
  | 0, _ => 1
  | n + 1, A => sumN (n + 1) (fun k => sg k * A 0 k * Lp n (mnr A k))
theorem Lp_succ (n : Nat) (A : Mx) : Lp (n + 1) A = sumN (n + 1) (fun k => sg k * A 0 k * Lp n (mnr A k)) := rfl
theorem sumN_succ' (n : Nat) (f : Nat → Int) : sumN (n + 1) f = f 0 + sumN n (fun i => f (i + 1)) := by
  rw [Nat.add_comm, sumN_split 1 n]
  simp only [sumN, Int.zero_add]
  congr 1
  exact sumN_congr fun i _ => by rw [Nat.add_comm 1 i]
theorem skip_lt {n k j : Nat} (hj : j < n) : skip k j < n + 1 := by unfold skip; split <;> omega
theorem Lp_congr : ∀ (n : Nat) {A B : Mx}, (∀ i j, i < n → j < n → A i j = B i j) → Lp n A = Lp n B
  | 0, _, _, _ => rfl
  | n + 1, A, B, h => by
    rw [Lp_succ, Lp_succ]
    refine sumN_congr fun k hk => ?_
    rw [h 0 k (by omega) hk, Lp_congr n (A := mnr A k) (B := mnr B k) fun i j hi hj => h _ _ (by omega) (skip_lt hj)]
theorem Lp_mod {p : Int} : ∀ (n : Nat) {A B : Mx}, (∀ i j, i < n → j < n → A i j % p = B i j % p) → Lp n A % p = Lp n B % p
  | 0, _, _, _ => rfl
  | n + 1, A, B, h => by
    rw [Lp_succ, Lp_succ]
    refine sumN_mod fun k hk => ?_
    rw [Int.mul_emod, Int.mul_emod (sg k), h 0 k (by omega) hk, Lp_mod n (A := mnr A k) (B := mnr B k) fun i j hi hj => h _ _ (by omega) (skip_lt hj), ← Int.mul_emod (sg k), ← Int.mul_emod]
theorem Lp_two (n : Nat) (h1 : ∀ A, Lp (n + 1) A = Lp (n + 1) (tr A)) (h2 : ∀ A, Lp n A = Lp n (tr A)) (A : Mx) :
    Lp (n + 2) A = A 0 0 * Lp (n + 1) (fun i j => A (i + 1) (j + 1)) + sumN (n + 1) (fun k => sumN (n + 1) (fun i => sg (k + 1) * sg i * A 0 (k + 1) * A (i + 1) 0 * Lp n (fun a b => A (skip i a + 1) (skip k b + 1)))) := by
  rw [Lp_succ, sumN_succ', sg_zero, Int.one_mul]
  congr 1
  refine sumN_congr fun k hk => ?_
  rw [h1, Lp_succ, ← sumN_mul]
  refine sumN_congr fun i hi => ?_
  have e1 : tr (mnr A (k + 1)) 0 i = A (i + 1) 0 := rfl
  have e2 : mnr (tr (mnr A (k + 1))) i = tr (fun a b => A (skip i a + 1) (skip k b + 1)) := by
    funext a b
    show A (skip i b + 1) (skip (k + 1) (a + 1)) = A (skip i b + 1) (skip k a + 1)
    congr 1
    unfold skip
    by_cases c : a < k
    · rw [if_pos (by omega), if_pos c]
    · rw [if_neg (by omega), if_neg c]
  rw [e1, e2, ← h2]
  grind
theorem Lp_tr : ∀ (n : Nat) (A : Mx), Lp n A = Lp n (tr A)
  | 0, A => rfl
  | 1, A => by
    rw [Lp_succ, Lp_succ]
    simp [sumN, tr, Lp]
  | n + 2, A => by
    rw [Lp_two n (Lp_tr (n + 1)) (Lp_tr n) A, Lp_two n (Lp_tr (n + 1)) (Lp_tr n) (tr A)]
    have e1 : Lp (n + 1) (fun i j => A (i + 1) (j + 1)) = Lp (n + 1) (fun i j => tr A (i + 1) (j + 1)) := Lp_tr (n + 1) _
    rw [e1, sumN_swap]
    congr 1
    refine sumN_congr fun i hi => sumN_congr fun k hk => ?_
    have e2 : Lp n (fun a b => A (skip i a + 1) (skip k b + 1)) = Lp n (fun a b => tr A (skip k a + 1) (skip i b + 1)) := Lp_tr n _
    rw [e2, sg_succ, sg_succ]
    show - sg k * sg i * A 0 (k + 1) * A (i + 1) 0 * _ = - sg i * sg k * A (i + 1) 0 * A 0 (k + 1) * _
    grind
def updc (A : Mx) (k : Nat) (u : Nat → Int) : Mx := fun i j => if j = k then u i else A i j
theorem mnr_updc_same (A : Mx) (k : Nat) (u : Nat → Int) : mnr (updc A k u) k = mnr A k := by
  funext i j
  show (if skip k j = k then _ else _) = _
  rw [if_neg (by unfold skip; split <;> omega)]; rfl
theorem mnr_updc {A : Mx} {m k : Nat} (h : m ≠ k) (u : Nat → Int) : mnr (updc A k u) m = updc (mnr A m) (if k < m then k else k - 1) (fun i => u (i + 1)) := by
  funext i j
  show (if skip m j = k then u (i + 1) else A (i + 1) (skip m j)) = if j = _ then u (i + 1) else A (i + 1) (skip m j)
  have : skip m j = k ↔ j = (if k < m then k else k - 1) := by
    unfold skip
    split <;> split <;> omega
  simp only [this]
theorem Lp_lin : ∀ (n : Nat) (A : Mx) (k : Nat) (u v : Nat → Int) (c : Int), k < n → Lp n (updc A k (fun i => u i + c * v i)) = Lp n (updc A k u) + c * Lp n (updc A k v)
  | 0, _, _, _, _, _, h => by omega
  | n + 1, A, k, u, v, c, h => by
    rw [Lp_succ, Lp_succ, Lp_succ, ← sumN_mul, ← sumN_add]
    refine sumN_congr fun m hm => ?_
    by_cases e : m = k
    · subst e
      rw [mnr_updc_same, mnr_updc_same, mnr_updc_same]
      show sg m * (if m = m then _ else _) * _ = sg m * (if m = m then _ else _) * _ + c * (sg m * (if m = m then _ else _) * _)
      rw [if_pos rfl, if_pos rfl, if_pos rfl]
      grind
    · rw [mnr_updc e, mnr_updc e, mnr_updc e]
      have ih := Lp_lin n (mnr A m) (if k < m then k else k - 1) (fun i => u (i + 1)) (fun i => v (i + 1)) c (by split <;> omega)
      rw [ih]
      show sg m * (if m = k then _ else _) * _ = sg m * (if m = k then _ else _) * _ + c * (sg m * (if m = k then _ else _) * _)
      rw [if_neg e, if_neg e, if_neg e]
      grind
theorem sumN_pair {n k : Nat} {f : Nat → Int} (hk : k + 1 < n) (h : ∀ m, m < n → m ≠ k → m ≠ k + 1 → f m = 0) (h2 : f k + f (k + 1) = 0) : sumN n f = 0 := by
  have e : sumN n f = sumN n (fun m => (if m = k then f m else 0) + (if m = k + 1 then f m else 0)) := sumN_congr fun m hm => by
    by_cases a : m = k
    · rw [if_pos a, if_neg (by omega)]; omega
    · by_cases b : m = k + 1
      · rw [if_neg a, if_pos b]; omega
      · rw [if_neg a, if_neg b, h m hm a b]; rfl
  rw [e, sumN_add, sumN_one f (by omega), sumN_one f hk, h2]
theorem Lp_adj : ∀ (n : Nat) (A : Mx) (k : Nat), k + 1 < n → (∀ i, A i k = A i (k + 1)) → Lp n A = 0
  | 0, _, _, h, _ => by omega
  | n + 1, A, k, hk, he => by
    rw [Lp_succ]
    refine sumN_pair hk (fun m hm h1 h2 => ?_) ?_
    · rw [Lp_adj n (mnr A m) (if k < m then k else k - 1) (by split <;> omega) fun i => ?_, Int.mul_zero]
      show A (i + 1) (skip m _) = A (i + 1) (skip m _)
      by_cases c : k < m
      · rw [if_pos c, show skip m k = k by unfold skip; rw [if_pos c], show skip m (k + 1) = k + 1 by unfold skip; rw [if_pos (by omega)], he]
      · rw [if_neg c, show skip m (k - 1) = k by unfold skip; rw [if_neg (by omega)]; omega, show skip m (k - 1 + 1) = k + 1 by unfold skip; rw [if_neg (by omega)]; omega, he]
    · have e : Lp n (mnr A k) = Lp n (mnr A (k + 1)) := by
        congr 1
        funext i j
        show A (i + 1) (skip k j) = A (i + 1) (skip (k + 1) j)
        by_cases a : j < k
        · rw [show skip k j = j by unfold skip; rw [if_pos a], show skip (k + 1) j = j by unfold skip; rw [if_pos (by omega)]]
        · by_cases b : j = k
          · subst b
            rw [show skip j j = j + 1 by unfold skip; rw [if_neg (by omega)], show skip (j + 1) j = j by unfold skip; rw [if_pos (by omega)], he]
          · rw [show skip k j = j + 1 by unfold skip; rw [if_neg a], show skip (k + 1) j = j + 1 by unfold skip; rw [if_neg (by omega)]]
      rw [e, he 0, sg_succ]
      grind
end Go.Proofs.Ytmalpmnmknpphaa.TM
namespace Go.Proofs.Ytmalpmnmknpphaa.TM
open Go Go.RowKit
theorem emod_sub0 {p a b : Int} : a % p = b % p ↔ (a - b) % p = 0 := (Int.emod_eq_emod_iff_emod_sub_eq_zero)
theorem em_mul {p a b c d : Int} (h1 : a % p = b % p) (h2 : c % p = d % p) : a * c % p = b * d % p := by rw [Int.mul_emod, h1, h2, ← Int.mul_emod]
theorem em_add {p a b c d : Int} (h1 : a % p = b % p) (h2 : c % p = d % p) : (a + c) % p = (b + d) % p := by rw [Int.add_emod, h1, h2, ← Int.add_emod]
theorem em_sub {p a b c d : Int} (h1 : a % p = b % p) (h2 : c % p = d % p) : (a - c) % p = (b - d) % p := by rw [Int.sub_emod, h1, h2, ← Int.sub_emod]
theorem em_z {p a b : Int} (h : a % p = 0) : a * b % p = 0 := by rw [Int.mul_emod, h, Int.zero_mul, Int.zero_emod]
theorem em_z' {p a b : Int} (h : b % p = 0) : a * b % p = 0 := by rw [Int.mul_comm]; exact em_z h
theorem bezout (m n : Nat) : ∃ x y : Int, (m : Int) * x + (n : Int) * y = (Nat.gcd m n : Int) := by
  induction m, n using Nat.gcd.induction with
  | H0 n => exact ⟨0, 1, by simp⟩
  | H1 m n hm ih =>
    obtain ⟨x, y, h⟩ := ih
    refine ⟨y - (n / m : Nat) * x, x, ?_⟩
    rw [Nat.gcd_rec, ← h]
    have e : (n : Int) = ((n % m : Nat) : Int) + (m : Int) * ((n / m : Nat) : Int) := by have := Nat.mod_add_div n m; omega
    rw [e]
    grind
theorem prm_nz {P : Nat} (hP : Prm P) {a : Int} (h : a % P ≠ 0) : ∃ b, a * b % P = 1 := by
  have h2 := hP.1
  have hp : (0 : Int) < P := by omega
  have i1 := Int.emod_nonneg a (show (P : Int) ≠ 0 by omega)
  have i2 := Int.emod_lt_of_pos a hp
  have g := hP.2 (a % P).toNat (by omega) (by omega)
  obtain ⟨x, y, hxy⟩ := bezout P (a % P).toNat
  rw [g, show ((a % P).toNat : Int) = a % P by omega] at hxy
  refine ⟨y, ?_⟩
  have e : a * y % P = (a % P) * y % P := em_mul (Int.emod_emod_of_dvd a (Int.dvd_refl _)).symm rfl
  rw [e, show (a % P) * y = 1 - P * x by rw [show ((1 : Nat) : Int) = 1 from rfl] at hxy; omega, Int.sub_mul_emod_self_left]
  exact Int.emod_eq_of_lt (by omega) (by omega)
theorem prm_mul0 {P : Nat} (hP : Prm P) {a b : Int} (h : a * b % P = 0) (ha : a % P ≠ 0) : b % P = 0 := by
  obtain ⟨c, hc⟩ := prm_nz hP ha
  have e : c * (a * b) % P = b % P := by
    rw [show c * (a * b) = (a * c) * b by rw [← Int.mul_assoc, Int.mul_comm c a]]
    rw [Int.mul_emod, hc, Int.one_mul, Int.emod_emod_of_dvd _ (Int.dvd_refl _)]
  rw [← e]; exact em_z' h
theorem sumN_0 {p : Int} {n : Nat} {f : Nat → Int} (h : ∀ i, i < n → f i % p = 0) : sumN n f % p = 0 := by
  rw [sumN_mod (g := fun _ => 0) (fun i hi => by rw [h i hi]; rfl), sumN_zero]; rfl
theorem sumN_only {p : Int} {n k : Nat} {f : Nat → Int} (hk : k < n) (h : ∀ i, i < n → i ≠ k → f i % p = 0) : sumN n f % p = f k % p := by
  rw [← sumN_one f hk]
  refine sumN_mod fun i hi => ?_
  by_cases e : i = k
  · rw [if_pos e]
  · rw [if_neg e, h i hi e]; rfl
theorem sumN_upd {n c : Nat} (f x : Nat → Int) (d : Int) (hc : c < n) : sumN n (fun j => f j * (if j = c then x j + d else x j)) = sumN n (fun j => f j * x j) + f c * d := by
  rw [← sumN_one (fun j => f j * d) hc, ← sumN_add]
  refine sumN_congr fun j _ => ?_
  split
  · rw [Int.mul_add]
  · omega
structure Cp (p : Int) (R C r : Nat) (A : Mx) (rw cw : Nat → Nat) (c u : Mx) : Prop where
  rlt : ∀ k, k < r → rw k < R
  rinc : ∀ j k, j < k → k < r → rw j < rw k
  clt : ∀ k, k < r → cw k < C
  upiv : ∀ k, k < r → u k (cw k) % p ≠ 0
  uz : ∀ j k, j < k → k < r → u k (cw j) % p = 0
  uh : ∀ k, k < r → ∀ j, j < cw k → u k j % p = 0
  c1 : ∀ k, k < r → c (rw k) k % p = 1
  cz : ∀ k, k < r → ∀ i, i < rw k → c i k % p = 0
  made : ∀ i, i < R → ∀ j, j < C → A i j % p = sumN r (fun k => c i k * u k j) % p
def apX (C : Nat) (A : Mx) (x : Nat → Int) : Nat → Int := fun i => sumN C (fun j => A i j * x j)
theorem apX_add (C : Nat) (A : Mx) (x y : Nat → Int) (i : Nat) : apX C A (fun j => x j + y j) i = apX C A x i + apX C A y i := by
  unfold apX; rw [← sumN_add]; exact sumN_congr fun j _ => Int.mul_add ..
theorem apX_sub (C : Nat) (A : Mx) (x y : Nat → Int) (i : Nat) : apX C A (fun j => x j - y j) i = apX C A x i - apX C A y i := by
  unfold apX; rw [← sumN_sub]; exact sumN_congr fun j _ => Int.mul_sub ..
theorem apX_mod {p : Int} {C : Nat} {A : Mx} {x y : Nat → Int} (h : ∀ j, j < C → x j % p = y j % p) (i : Nat) : apX C A x i % p = apX C A y i % p :=
  sumN_mod fun j hj => em_mul rfl (h j hj)
section
variable {P R C r : Nat} {A : Mx} {rw cw : Nat → Nat} {c u : Mx}
theorem Cp.cdis (H : Cp P R C r A rw cw c u) {j k : Nat} (hj : j < r) (hk : k < r) (e : cw j = cw k) : j = k := by
  rcases Nat.lt_trichotomy j k with h | h | h
  · exact absurd (e ▸ H.uz j k h hk) (H.upiv k hk)
  · exact h
  · exact absurd (e ▸ H.uz k j h hj) (H.upiv j hj)
theorem Cp.ap (H : Cp P R C r A rw cw c u) {x : Nat → Int} {i : Nat} (hi : i < R) : apX C A x i % P = sumN r (fun k => c i k * apX C u x k) % P := by
  unfold apX
  have e : sumN r (fun k => c i k * sumN C (fun j => u k j * x j)) = sumN C (fun j => sumN r (fun k => c i k * u k j) * x j) := by
    rw [sumN_congr fun k _ => (sumN_mul C (c i k) (fun j => u k j * x j)).symm, sumN_swap]
    refine sumN_congr fun j _ => ?_
    rw [← sumN_mulr]
    exact sumN_congr fun k _ => by rw [Int.mul_assoc]
  rw [e]
  exact sumN_mod fun j hj => em_mul (H.made i hi j hj) rfl
theorem Cp.usolve (hP : Prm P) (H : Cp P R C r A rw cw c u) (z x0 : Nat → Int) : ∃ x : Nat → Int, (∀ j, (∀ k, k < r → j ≠ cw k) → x j = x0 j) ∧ ∀ k, k < r → apX C u x k % P = z k % P := by
  have key : ∀ d, d ≤ r → ∃ x : Nat → Int, (∀ j, (∀ k, k < r → j ≠ cw k) → x j = x0 j) ∧ ∀ k, r - d ≤ k → k < r → apX C u x k % P = z k % P := by
    intro d
    induction d with
    | zero => exact fun _ => ⟨x0, fun _ _ => rfl, fun k h1 h2 => by omega⟩
    | succ d ih =>
      intro hd
      obtain ⟨x, h1, h2⟩ := ih (by omega)
      have hm : r - (d + 1) < r := by omega
      obtain ⟨b, hb⟩ := prm_nz hP (H.upiv _ hm)
      obtain ⟨y, hy⟩ : ∃ y, apX C u x (r - (d + 1)) = y := ⟨_, rfl⟩
      refine ⟨fun j => if j = cw (r - (d + 1)) then x j + b * (z (r - (d + 1)) - y) else x j, fun j hj => ?_, fun k h3 h4 => ?_⟩
      · simp only
        rw [if_neg (hj _ hm)]; exact h1 j hj
      · unfold apX
        rw [sumN_upd _ _ _ (H.clt _ hm)]
        by_cases e : k = r - (d + 1)
        · subst e
          show (apX C u x _ + _) % _ = _
          rw [hy, ← Int.mul_assoc]
          have : (y + u (r - (d + 1)) (cw (r - (d + 1))) * b * (z (r - (d + 1)) - y)) % P = (y + 1 * (z (r - (d + 1)) - y)) % P := em_add rfl (em_mul (by rw [hb]; exact (Int.emod_eq_of_lt (by omega) (by have := hP.1; omega)).symm) rfl)
          rw [this, Int.one_mul]; congr 1; omega
        · have h5 := h2 k (by omega) h4
          rw [← h5]
          show (apX C u x k + _) % _ = _
          have h6 := H.uz (r - (d + 1)) k (by omega) h4
          rw [Int.add_emod, em_z h6, Int.add_zero, Int.emod_emod_of_dvd _ (Int.dvd_refl _)]
  obtain ⟨x, h1, h2⟩ := key r (Nat.le_refl _)
  exact ⟨x, h1, fun k hk => h2 k (by omega) hk⟩
theorem Cp.cinj (H : Cp P R C r A rw cw c u) {z : Nat → Int} (h1 : ∀ m, m < r → sumN r (fun k => c (rw m) k * z k) % P = 0) : ∀ k, k < r → z k % P = 0 := by
  intro k
  induction k using Nat.strongRecOn with
  | _ k ih =>
  intro hk
  have h2 := h1 k hk
  rw [sumN_only hk (fun j hj hjk => ?_)] at h2
  · rw [Int.mul_emod, H.c1 k hk, Int.one_mul, Int.emod_emod_of_dvd _ (Int.dvd_refl _)] at h2
    exact h2
  · by_cases c : j < k
    · exact em_z' (ih j c hj)
    · exact em_z (H.cz j hj _ (H.rinc k j (by omega) hj))
theorem Cp.ker (H : Cp P R C r A rw cw c u) {x : Nat → Int} : (∀ i, i < R → apX C A x i % P = 0) ↔ ∀ k, k < r → apX C u x k % P = 0 := by
  constructor
  · intro h
    exact H.cinj fun m hm => by rw [← H.ap (H.rlt m hm)]; exact h _ (H.rlt m hm)
  · intro h i hi
    rw [H.ap hi]
    exact sumN_0 fun k hk => em_z' (h k hk)
end
end Go.Proofs.Ytmalpmnmknpphaa.TM
namespace Go.Proofs.Ytmalpmnmknpphaa.TM
open Go Go.RowKit
theorem getD_app {α : Type} (l : List α) (x d : α) (k : Nat) : (l ++ [x]).getD k d = if k < l.length then l.getD k d else if k = l.length then x else d := by
  rw [List.getD_eq_getElem?_getD, List.getD_eq_getElem?_getD]
  by_cases h : k < l.length
  · rw [if_pos h, List.getElem?_append_left h]
  · rw [if_neg h, List.getElem?_append_right (by omega)]
    by_cases e : k = l.length
    · subst e; rw [if_pos rfl]; simp
    · rw [if_neg e, List.getElem?_eq_none (by simp; omega)]; rfl
def rwF (T : Tk) (k : Nat) : Nat := (T.rows.getD k 0).toNat
def cwF (T : Tk) (k : Nat) : Nat := (T.cols.getD k 0).toNat
def cF (T : Tk) : Mx := fun i k => (csF T i).getD k 0
def uF (T : Tk) : Mx := fun k j => (T.us.getD k []).getD j 0
def vF (T : Tk) (k : Nat) : Int := T.vs.getD k 0
structure TkC (P C i : Nat) (A : Mx) (T : Tk) : Prop where
  I : TkI P C i T
  H : Cp P i C T.us.length A (rwF T) (cwF T) (cF T) (uF T)
  inv : ∀ k, k < T.us.length → uF T k (cwF T k) * vF T k % P = 1
theorem rest_spec {P C i : Nat} {A : Mx} {T : Tk} (K : TkC P C i A T) {row : List Int} (hl : row.length = C) : ∀ k, k ≤ T.us.length →
    (∀ j, j < k → (elR P T row k).getD (cwF T j) 0 % P = 0) ∧ ∀ q, q < C → row.getD q 0 % P = ((elR P T row k).getD q 0 + sumN k (fun m => elX P T row m * uF T m q)) % P
  | 0, _ => ⟨fun j h => by omega, fun q _ => by simp [elR, sumN]⟩
  | k + 1, hk => by
    obtain ⟨h1, h2⟩ := rest_spec K hl k (by omega)
    have len := elR_len P T row k
    rw [hl] at len
    have get : ∀ q, q < C → (elR P T row (k + 1)).getD q 0 % P = ((elR P T row k).getD q 0 - elX P T row k * uF T k q) % P := fun q hq => by
      rw [elR_succ, lessV_get _ _ _ _ (by omega), Int.emod_emod_of_dvd _ (Int.dvd_refl _)]
      exact em_sub rfl (Int.emod_emod_of_dvd _ (Int.dvd_refl _))
    refine ⟨fun j hj => ?_, fun q hq => ?_⟩
    · rw [get _ (K.H.clt j (by omega))]
      by_cases e : j = k
      · subst e
        have hx : elX P T row j % P = ((elR P T row j).getD (cwF T j) 0 * vF T j) % P := by unfold elX vF cwF; exact Int.emod_emod_of_dvd _ (Int.dvd_refl _)
        have hi := K.inv j (by omega)
        generalize (elR P T row j).getD (cwF T j) 0 = y at hx ⊢
        rw [em_sub rfl (em_mul hx rfl)]
        have hm : (2 : Int) ≤ P := K.I.ri |> fun _ => by
          rcases Nat.lt_or_ge P 2 with h | h
          · have : P = 0 ∨ P = 1 := by omega
            rcases this with rfl | rfl
            · exact absurd (K.H.upiv j (by omega)) (by
                intro hne
                have hz := K.I.ul (T.us.getD j []) (by rw [List.getD_eq_getElem?_getD, List.getElem?_eq_getElem (show j < T.us.length by omega)]; exact List.getElem_mem _)
                have hin := getD_of hz.2 (i := cwF T j) (by rw [hz.1]; exact K.H.clt j (by omega))
                unfold In at hin; omega)
            · exact absurd hi (by rw [show ((1 : Nat) : Int) = 1 from rfl, Int.emod_one]; decide)
          · omega
        have : (y - y * vF T j * uF T j (cwF T j)) % P = (y - y * 1) % P := em_sub rfl (by
          rw [Int.mul_assoc]
          exact em_mul rfl (by rw [Int.mul_comm, hi]; exact (Int.emod_eq_of_lt (by decide) (by omega)).symm))
        rw [this, Int.mul_one, Int.sub_self]; rfl
      · have h3 := K.H.uz j k (by omega) (by omega)
        rw [Int.sub_emod, h1 j (by omega), em_z' h3]; rfl
    · rw [h2 q hq, sumN]
      have h4 := em_add (get q hq) (rfl : (sumN k (fun m => elX P T row m * uF T m q) + elX P T row k * uF T k q) % P = _)
      rw [h4]; congr 1; omega
theorem cup_step {P C i : Nat} {A : Mx} {T : Tk} (hP : Prm P) (hp : Md P) (K : TkC P C i A T) {row : List Int} (hrow : ∀ a ∈ row, In P a) (hl : row.length = C) (hA : ∀ j, j < C → A i j % P = row.getD j 0 % P) : TkC P C (i + 1) A (tkRow P T i row) := by
  have I := K.I
  have H := K.H
  have J := I.next hP hp hrow hl
  obtain ⟨c1, _⟩ := tkRow_cs (P := P) (row := row) I
  obtain ⟨te1, te2⟩ := tk_end (p := P) I row (i : Int) rfl
  obtain ⟨s1, s2⟩ := rest_spec K hl T.us.length (Nat.le_refl _)
  have rl : (rstT P T row).length = C := by unfold rstT; rw [elR_len, hl]
  have rin : ∀ a ∈ rstT P T row, In P a := elR_in hp T hrow _
  change ∀ j, j < T.us.length → (rstT P T row).getD (cwF T j) 0 % P = 0 at s1
  change ∀ q, q < C → row.getD q 0 % P = ((rstT P T row).getD q 0 + _) % P at s2
  have xg : ∀ k, k < T.us.length → (xsT P T row).getD k 0 = elX P T row k := fun k hk => tbl_getD _ hk
  have xl : (xsT P T row).length = T.us.length := tbl_len ..
  have cold : ∀ i', i' < i → ∀ k, cF (tkRow P T i row) i' k = cF T i' k := fun i' h k => by unfold cF; rw [c1 i' h]
  rcases nzA_spec (rstT P T row) 0 with ⟨z1, z2⟩ | ⟨n, z1, z2, z3, z4⟩
  · have neg : nzA (rstT P T row) 0 < 0 := by rw [z1]; decide
    obtain ⟨t1, t2, t3, t4⟩ := tk_no (p := P) (T := T) (row := row) (x := i) neg
    have te := te1 neg
    have e1 : rwF (tkRow P T i row) = rwF T := by unfold rwF; rw [t1]
    have e2 : cwF (tkRow P T i row) = cwF T := by unfold cwF; rw [t2]
    have e3 : uF (tkRow P T i row) = uF T := by unfold uF; rw [t3]
    have e4 : vF (tkRow P T i row) = vF T := by unfold vF; rw [t4]
    refine ⟨J, ?_, ?_⟩
    · rw [t3, e1, e2, e3]
      refine ⟨fun k hk => by have := H.rlt k hk; omega, H.rinc, H.clt, H.upiv, H.uz, H.uh, fun k hk => ?_, fun k hk i' hi' => ?_, fun i' hi' j hj => ?_⟩
      · rw [cold _ (H.rlt k hk)]; exact H.c1 k hk
      · rw [cold _ (Nat.lt_trans hi' (H.rlt k hk))]; exact H.cz k hk i' hi'
      · by_cases e : i' = i
        · subst e
          rw [hA j hj, s2 j hj]
          have z : (rstT P T row).getD j 0 = 0 := by rw [List.getD_eq_getElem?_getD, List.getElem?_eq_getElem (by omega)]; exact z2 _ (List.getElem_mem _)
          rw [z, Int.zero_add]
          refine sumN_mod fun k hk => ?_
          unfold cF csF
          rw [te, xg k hk]
        · rw [H.made i' (by omega) j hj]
          exact sumN_mod fun k hk => by rw [cold i' (by omega)]
    · rw [t3, e2, e3, e4]; exact K.inv
  · have neg : ¬ nzA (rstT P T row) 0 < 0 := by rw [z1]; omega
    obtain ⟨t1, t2, t3, t4⟩ := tk_yes (p := P) (T := T) (row := row) (x := i) neg
    have te := te2 neg
    have zn : (((0 + n : Nat) : Int)).toNat = n := by omega
    have zi : ((0 + n : Nat) : Int) = (n : Int) := by omega
    rw [z1] at t2 t4
    rw [zn] at t4
    rw [zi] at t2
    have r1 : ∀ k, rwF (tkRow P T i row) k = if k < T.us.length then rwF T k else if k = T.us.length then i else 0 := fun k => by
      unfold rwF; rw [t1, getD_app, I.rl]; (repeat' split) <;> simp
    have r2 : ∀ k, cwF (tkRow P T i row) k = if k < T.us.length then cwF T k else if k = T.us.length then n else 0 := fun k => by
      unfold cwF; rw [t2, getD_app, I.ql]; (repeat' split) <;> simp
    have r3 : ∀ k j, uF (tkRow P T i row) k j = if k < T.us.length then uF T k j else if k = T.us.length then (rstT P T row).getD j 0 else 0 := fun k j => by
      unfold uF; rw [t3, getD_app]; (repeat' split) <;> simp
    have r4 : ∀ k, vF (tkRow P T i row) k = if k < T.us.length then vF T k else if k = T.us.length then finvC P ((rstT P T row).getD n 0) else 0 := fun k => by
      unfold vF; rw [t4, getD_app, I.vl]
    have rn : In P ((rstT P T row).getD n 0) := getD_of rin z2
    have rnz : (rstT P T row).getD n 0 % P ≠ 0 := by rw [Int.emod_eq_of_lt rn.1 rn.2]; exact z3
    have us1 : (tkRow P T i row).us.length = T.us.length + 1 := by rw [t3]; simp
    have cnew : ∀ k, cF (tkRow P T i row) i k = if k < T.us.length then elX P T row k else if k = T.us.length then 1 else 0 := fun k => by
      unfold cF csF
      rw [te, getD_app, xl]
      split
      · rename_i h; rw [xg k h]
      · rfl
    have cnr : ∀ i', i' < i → cF T i' T.us.length = 0 := fun i' h => by
      unfold cF csF
      have : ((T.cs.getD i' [])).length ≤ T.us.length := by
        rw [List.getD_eq_getElem?_getD, List.getElem?_eq_getElem (by rw [I.cl]; exact h)]
        exact (I.cb _ (List.getElem_mem _)).1
      rw [List.getD_eq_getElem?_getD, List.getElem?_eq_none this]; rfl
    refine ⟨J, ?_, ?_⟩
    · rw [us1]
      refine ⟨fun k hk => ?_, fun j k hjk hk => ?_, fun k hk => ?_, fun k hk => ?_, fun j k hjk hk => ?_, fun k hk j hj => ?_, fun k hk => ?_, fun k hk i' hi' => ?_, fun i' hi' j hj => ?_⟩
      · rw [r1]
        by_cases h : k < T.us.length
        · rw [if_pos h]; have := H.rlt k h; omega
        · rw [if_neg h, if_pos (by omega)]; omega
      · rw [r1, r1, if_pos (show j < T.us.length by omega)]
        by_cases h : k < T.us.length
        · rw [if_pos h]; exact H.rinc j k hjk h
        · rw [if_neg h, if_pos (by omega)]; exact H.rlt j (by omega)
      · rw [r2]
        by_cases h : k < T.us.length
        · rw [if_pos h]; exact H.clt k h
        · rw [if_neg h, if_pos (by omega)]; omega
      · rw [r3, r2]
        by_cases h : k < T.us.length
        · rw [if_pos h, if_pos h]; exact H.upiv k h
        · rw [if_neg h, if_pos (by omega), if_neg h, if_pos (by omega)]; exact rnz
      · rw [r3, r2, if_pos (show j < T.us.length by omega)]
        by_cases h : k < T.us.length
        · rw [if_pos h]; exact H.uz j k hjk h
        · rw [if_neg h, if_pos (by omega)]; exact s1 j (by omega)
      · rw [r2] at hj
        rw [r3]
        by_cases h : k < T.us.length
        · rw [if_pos h] at hj ⊢; exact H.uh k h j hj
        · rw [if_neg h, if_pos (by omega)] at hj ⊢; rw [z4 j hj]; rfl
      · rw [r1]
        by_cases h : k < T.us.length
        · rw [if_pos h, cold _ (H.rlt k h)]; exact H.c1 k h
        · rw [if_neg h, if_pos (by omega), cnew, if_neg h, if_pos (by omega)]
          exact Int.emod_eq_of_lt (by decide) (by have := hp.1; omega)
      · rw [r1] at hi'
        by_cases h : k < T.us.length
        · rw [if_pos h] at hi'
          rw [cold _ (Nat.lt_trans hi' (H.rlt k h))]; exact H.cz k h i' hi'
        · rw [if_neg h, if_pos (by omega)] at hi'
          have ek : k = T.us.length := by omega
          subst ek
          rw [cold i' hi', cnr i' hi']; rfl
      · rw [sumN]
        by_cases e : i' = i
        · subst e
          rw [hA j hj, s2 j hj, r3, if_neg (by omega), if_pos rfl, cnew, if_neg (by omega), if_pos rfl, Int.one_mul, Int.add_comm]
          refine em_add (sumN_mod fun k hk => ?_) rfl
          rw [cnew, if_pos hk, r3, if_pos hk]
        · rw [H.made i' (by omega) j hj, cold i' (by omega), cnr i' (by omega), Int.zero_mul, Int.add_zero]
          refine sumN_mod fun k hk => ?_
          rw [cold i' (by omega), r3, if_pos hk]
    · intro k hk
      rw [us1] at hk
      rw [r3, r2, r4]
      by_cases h : k < T.us.length
      · rw [if_pos h, if_pos h, if_pos h]; exact K.inv k h
      · rw [if_neg h, if_pos (by omega), if_neg h, if_pos (by omega), if_neg h, if_pos (by omega)]
        exact (finvC_in hp.1 hp.2 rn (prm_gcd hP rn z3)).2
theorem tkN_C {P R C : Nat} {l : List Int} (hP : Prm P) (hp : Md P) (hl : l.length = R * C) (hin : ∀ a ∈ l, In P a) : ∀ i, i ≤ R → TkC P C i (cl C l) (tkN P C l i)
  | 0, _ => ⟨TkI.zero _ _, ⟨fun k h => absurd h (Nat.not_lt_zero k), fun j k _ h => absurd h (Nat.not_lt_zero k), fun k h => absurd h (Nat.not_lt_zero k), fun k h => absurd h (Nat.not_lt_zero k), fun j k _ h => absurd h (Nat.not_lt_zero k), fun k h => absurd h (Nat.not_lt_zero k), fun k h => absurd h (Nat.not_lt_zero k), fun k h => absurd h (Nat.not_lt_zero k), fun i h => absurd h (Nat.not_lt_zero i)⟩, fun k h => absurd h (Nat.not_lt_zero k)⟩
  | i + 1, h => cup_step hP hp (tkN_C hP hp hl hin i (by omega)) (fun a ha => hin a (rowM_mem ha)) (rowM_len hl (by omega)) fun j hj => by rw [rowM_cl hl (by omega) hj]
end Go.Proofs.Ytmalpmnmknpphaa.TM
namespace Go.Proofs.Ytmalpmnmknpphaa.TM
open Go Go.RowKit
def cntN : Nat → (Nat → Bool) → Nat
  | 0, _ => 0
  | n + 1, f => cntN n f + (if f n = true then 1 else 0)
theorem cnt_congr {n : Nat} {f g : Nat → Bool} (h : ∀ i, i < n → f i = g i) : cntN n f = cntN n g := by
  induction n with
  | zero => rfl
  | succ n ih => rw [cntN, cntN, ih fun i hi => h i (by omega), h n (by omega)]
theorem cnt_all {n : Nat} {f : Nat → Bool} (h : ∀ i, i < n → f i = true) : cntN n f = n := by
  induction n with
  | zero => rfl
  | succ n ih => rw [cntN, ih fun i hi => h i (by omega), if_pos (h n (by omega))]
theorem cnt_add (m n : Nat) (f : Nat → Bool) : cntN (m + n) f = cntN m f + cntN n (fun i => f (m + i)) := by
  induction n with
  | zero => rfl
  | succ n ih => rw [← Nat.add_assoc, cntN, ih, cntN]; omega
theorem cnt_mul (N : Nat) (f : Nat → Bool) : ∀ a, cntN (a * N) (fun q => f (q % N)) = a * cntN N f
  | 0 => by simp [cntN]
  | a + 1 => by
    rw [Nat.succ_mul, cnt_add, cnt_mul N f a, Nat.succ_mul]
    congr 1
    exact cnt_congr fun i hi => by rw [Nat.mul_add_mod_self_right, Nat.mod_eq_of_lt hi]
theorem cnt_drop {m a : Nat} {f : Nat → Bool} (ha : a < m) (hf : f a = true) : cntN m f = cntN m (fun j => f j && j != a) + 1 := by
  induction m with
  | zero => omega
  | succ m ih =>
    rw [cntN, cntN]
    by_cases e : a = m
    · subst e
      rw [if_pos hf, if_neg (by simp)]
      have : cntN a f = cntN a (fun j => f j && j != a) := cnt_congr fun i hi => by
        have : (i != a) = true := by simp; omega
        rw [this, Bool.and_true]
      omega
    · rw [ih (by omega)]
      have : (m != a) = true := by simp; omega
      rw [this, Bool.and_true]; omega
theorem cnt_inj : ∀ (n : Nat) (f : Nat → Bool) (m : Nat) (g : Nat → Bool) (φ : Nat → Nat), (∀ i, i < n → f i = true → φ i < m ∧ g (φ i) = true) →
    (∀ i j, i < n → j < n → f i = true → f j = true → φ i = φ j → i = j) → cntN n f ≤ cntN m g
  | 0, _, _, _, _, _, _ => Nat.zero_le _
  | n + 1, f, m, g, φ, h1, h2 => by
    rw [cntN]
    by_cases c : f n = true
    · rw [if_pos c]
      obtain ⟨a1, a2⟩ := h1 n (by omega) c
      rw [cnt_drop a1 a2]
      refine Nat.succ_le_succ (cnt_inj n f m _ φ (fun i hi hf => ?_) (fun i j hi hj => h2 i j (by omega) (by omega)))
      obtain ⟨b1, b2⟩ := h1 i (by omega) hf
      refine ⟨b1, ?_⟩
      have : (φ i != φ n) = true := by
        simp only [bne_iff_ne]
        intro e
        have := h2 i n (by omega) (by omega) hf c e
        omega
      rw [b2, this]; rfl
    · rw [if_neg c]
      exact cnt_inj n f m g φ (fun i hi => h1 i (by omega)) (fun i j hi hj => h2 i j (by omega) (by omega))
theorem cnt_mono {n : Nat} {f g : Nat → Bool} (h : ∀ i, i < n → f i = true → g i = true) : cntN n f ≤ cntN n g :=
  cnt_inj n f n g id (fun i hi hf => ⟨hi, h i hi hf⟩) (fun _ _ _ _ _ _ e => e)
def vec (P n k : Nat) : Int := ((n / P ^ k % P : Nat) : Int)
def num (P : Nat) : Nat → (Nat → Int) → Nat
  | 0, _ => 0
  | c + 1, x => (x 0 % P).toNat + P * num P c (fun k => x (k + 1))
theorem num_lt {P : Nat} (h : 0 < P) : ∀ (c : Nat) (x : Nat → Int), num P c x < P ^ c
  | 0, _ => by simp [num]
  | c + 1, x => by
    have ih := num_lt h c (fun k => x (k + 1))
    have h1 := Int.emod_nonneg (x 0) (show (P : Int) ≠ 0 by omega)
    have h2 := Int.emod_lt_of_pos (x 0) (show (0 : Int) < P by omega)
    rw [num, Nat.pow_succ]
    have h3 : P * num P c (fun k => x (k + 1)) + P ≤ P * P ^ c := by rw [← Nat.mul_succ]; exact Nat.mul_le_mul_left P ih
    rw [Nat.mul_comm (P ^ c)]
    omega
theorem num_congr {P : Nat} : ∀ (c : Nat) {x y : Nat → Int}, (∀ k, k < c → x k % P = y k % P) → num P c x = num P c y
  | 0, _, _, _ => rfl
  | c + 1, x, y, h => by rw [num, num, h 0 (by omega), num_congr c fun k hk => h (k + 1) (by omega)]
theorem vec_num {P : Nat} (h : 0 < P) : ∀ (c : Nat) (x : Nat → Int) (k : Nat), k < c → vec P (num P c x) k = x k % P
  | 0, _, _, hk => by omega
  | c + 1, x, k, hk => by
    have h1 := Int.emod_nonneg (x 0) (show (P : Int) ≠ 0 by omega)
    have h2 := Int.emod_lt_of_pos (x 0) (show (0 : Int) < P by omega)
    have h3 : (x 0 % P).toNat < P := by omega
    rw [num]
    cases k with
    | zero =>
      unfold vec
      rw [Nat.pow_zero, Nat.div_one, Nat.add_mul_mod_self_left, Nat.mod_eq_of_lt h3]; omega
    | succ k =>
      have ih := vec_num h c (fun k => x (k + 1)) k (by omega)
      rw [← ih]
      unfold vec
      rw [Nat.pow_succ, Nat.mul_comm (P ^ k) P, ← Nat.div_div_eq_div_mul, Nat.add_mul_div_left _ _ h, Nat.div_eq_of_lt h3, Nat.zero_add]
theorem num_vec {P : Nat} (h : 0 < P) : ∀ (c n : Nat), n < P ^ c → num P c (vec P n) = n
  | 0, n, hn => by simp at hn; subst hn; rfl
  | c + 1, n, hn => by
    rw [num]
    have e : (fun k => vec P n (k + 1)) = vec P (n / P) := by
      funext k; unfold vec; rw [Nat.pow_succ, Nat.mul_comm, ← Nat.div_div_eq_div_mul]
    have h0 : (vec P n 0 % P).toNat = n % P := by
      unfold vec; rw [Nat.pow_zero, Nat.div_one]; 
      have := Nat.mod_lt n h
      rw [Int.emod_eq_of_lt (by omega) (by omega)]; omega
    rw [e, h0, num_vec h c (n / P) (by rw [Nat.pow_succ, Nat.mul_comm] at hn; exact (Nat.div_lt_iff_lt_mul h).2 (by rw [Nat.mul_comm]; exact hn)), Nat.mod_add_div]
theorem vec_inj {P c m n : Nat} (h : 0 < P) (hm : m < P ^ c) (hn : n < P ^ c) (he : ∀ k, k < c → vec P m k % P = vec P n k % P) : m = n := by
  rw [← num_vec h c m hm, ← num_vec h c n hn, num_congr c he]
theorem num_inj {P c : Nat} {x y : Nat → Int} (h : 0 < P) (he : num P c x = num P c y) : ∀ k, k < c → x k % P = y k % P := fun k hk => by
  rw [← vec_num h c x k hk, ← vec_num h c y k hk, he]
section
variable {P R C r : Nat} {A : Mx} {rw cw : Nat → Nat} {c u : Mx}
theorem div_pair {a b N : Nat} (hb : b < N) : (a * N + b) / N = a ∧ (a * N + b) % N = b := by
  have hN : 0 < N := by omega
  refine ⟨?_, ?_⟩
  · rw [Nat.add_comm, Nat.add_mul_div_right _ _ hN, Nat.div_eq_of_lt hb, Nat.zero_add]
  · rw [Nat.add_comm, Nat.add_mul_mod_self_right, Nat.mod_eq_of_lt hb]
theorem Cp.kcnt (hP : Prm P) (H : Cp P R C r A rw cw c u) {f : Nat → Bool} (hf : ∀ n, n < P ^ C → (f n = true ↔ ∀ i, i < R → apX C A (vec P n) i % P = 0)) : P ^ r * cntN (P ^ C) f = P ^ C := by
  have p0 : 0 < P := by have := hP.1; omega
  have N0 : 0 < P ^ C := Nat.pow_pos p0
  have hs : ∀ z : Nat → Int, ∃ x : Nat → Int, ∀ k, k < r → apX C u x k % P = z k % P := fun z => by
    obtain ⟨x, _, h⟩ := H.usolve hP z (fun _ => 0); exact ⟨x, h⟩
  let s : Nat → Nat → Int := fun y => Classical.choose (hs (vec P y))
  have ss : ∀ y k, k < r → apX C u (s y) k % P = vec P y k % P := fun y => Classical.choose_spec (hs (vec P y))
  have hk : ∀ n, n < P ^ C → (f n = true ↔ ∀ k, k < r → apX C u (vec P n) k % P = 0) := fun n hn => (hf n hn).trans H.ker
  refine Nat.le_antisymm ?_ ?_
  · rw [← cnt_mul]
    refine Nat.le_trans ?_ (Nat.le_of_eq (cnt_all (n := P ^ C) (f := fun _ => true) fun _ _ => rfl))
    refine cnt_inj _ _ _ _ (fun q => num P C (fun j => vec P (q % P ^ C) j + s (q / P ^ C) j)) (fun q _ _ => ⟨num_lt p0 _ _, rfl⟩) (fun q q' hq hq' fq fq' he => ?_)
    have e1 := num_inj p0 he
    have hy : q / P ^ C < P ^ r := (Nat.div_lt_iff_lt_mul N0).2 hq
    have hy' : q' / P ^ C < P ^ r := (Nat.div_lt_iff_lt_mul N0).2 hq'
    have k1 := (hk _ (Nat.mod_lt q N0)).1 fq
    have k2 := (hk _ (Nat.mod_lt q' N0)).1 fq'
    have ey : q / P ^ C = q' / P ^ C := by
      refine vec_inj p0 hy hy' fun k hk => ?_
      have e2 := apX_mod (A := u) e1 k
      rw [apX_add, apX_add, Int.add_emod, k1 k hk, ss _ k hk, Int.add_emod (apX C u (vec P (q' % P ^ C)) k), k2 k hk, ss _ k hk] at e2
      simpa using e2
    have en : q % P ^ C = q' % P ^ C := by
      refine vec_inj p0 (Nat.mod_lt _ N0) (Nat.mod_lt _ N0) fun k hk => ?_
      have e3 := e1 k hk
      simp only [ey] at e3
      have := em_sub e3 (rfl : s (q' / P ^ C) k % P = s (q' / P ^ C) k % P)
      simpa using this
    rw [← Nat.div_add_mod q (P ^ C), ← Nat.div_add_mod q' (P ^ C), ey, en]
  · rw [← cnt_mul]
    have : P ^ C = cntN (P ^ C) (fun _ => true) := (cnt_all fun _ _ => rfl).symm
    refine Nat.le_trans (Nat.le_of_eq this) ?_
    have ny : ∀ n, num P r (apX C u (vec P n)) < P ^ r := fun n => num_lt p0 _ _
    have nx : ∀ x, num P C x < P ^ C := fun x => num_lt p0 _ _
    refine cnt_inj _ _ _ _ (fun n => num P r (apX C u (vec P n)) * P ^ C + num P C (fun j => vec P n j - s (num P r (apX C u (vec P n))) j)) (fun n hn _ => ⟨?_, ?_⟩) (fun n n' hn hn' _ _ he => ?_)
    · have h1 := ny n
      have h2 := nx (fun j => vec P n j - s (num P r (apX C u (vec P n))) j)
      have h3 : num P r (apX C u (vec P n)) * P ^ C + P ^ C ≤ P ^ r * P ^ C := by rw [← Nat.succ_mul]; exact Nat.mul_le_mul_right _ h1
      omega
    · rw [(div_pair (nx _)).2, hk _ (nx _)]
      intro k hk
      have e1 : ∀ j, j < C → vec P (num P C (fun j => vec P n j - s (num P r (apX C u (vec P n))) j)) j % P = (vec P n j - s (num P r (apX C u (vec P n))) j) % P := fun j hj => by
        rw [vec_num p0 _ _ _ hj, Int.emod_emod_of_dvd _ (Int.dvd_refl _)]
      rw [apX_mod e1, apX_sub, Int.sub_emod, ss _ k hk, vec_num p0 _ _ _ hk, Int.emod_emod_of_dvd _ (Int.dvd_refl _), Int.sub_self]; rfl
    · have ey : num P r (apX C u (vec P n)) = num P r (apX C u (vec P n')) := by rw [← (div_pair (a := num P r (apX C u (vec P n))) (nx _)).1, he, (div_pair (nx _)).1]
      have en := (div_pair (a := num P r (apX C u (vec P n))) (nx (fun j => vec P n j - s (num P r (apX C u (vec P n))) j))).2
      rw [he, (div_pair (nx _)).2, ey] at en
      refine vec_inj p0 hn hn' fun k hk => ?_
      have e3 := num_inj p0 en.symm k hk
      have := em_add e3 (rfl : s (num P r (apX C u (vec P n'))) k % P = s (num P r (apX C u (vec P n'))) k % P)
      simpa using this
end
end Go.Proofs.Ytmalpmnmknpphaa.TM
namespace Go.Proofs.Ytmalpmnmknpphaa.TM
open Go Go.RowKit
def updr (A : Mx) (k : Nat) (u : Nat → Int) : Mx := fun i j => if i = k then u j else A i j
theorem updr_same (A : Mx) (k : Nat) (u : Nat → Int) : updr A k u k = u := by funext j; exact if_pos rfl
theorem updr_ne {A : Mx} {k i : Nat} (h : i ≠ k) (u : Nat → Int) : updr A k u i = A i := by funext j; exact if_neg h
theorem updr_id (A : Mx) (k : Nat) : updr A k (A k) = A := by funext i j; unfold updr; split <;> simp_all
theorem updr_comm {A : Mx} {k m : Nat} (h : k ≠ m) (u v : Nat → Int) : updr (updr A k u) m v = updr (updr A m v) k u := by
  funext i j
  unfold updr
  by_cases a : i = m
  · by_cases b : i = k
    · omega
    · simp [a, b]; omega
  · simp [a]
structure Alt (p : Int) (n : Nat) (F : Mx → Int) : Prop where
  cg : ∀ A B : Mx, (∀ i j, i < n → j < n → A i j % p = B i j % p) → F A % p = F B % p
  lin : ∀ (A : Mx) (i : Nat) (u v : Nat → Int) (c : Int), i < n → F (updr A i (fun j => u j + c * v j)) = F (updr A i u) + c * F (updr A i v)
  adj : ∀ (A : Mx) (i : Nat), i + 1 < n → A i = A (i + 1) → F A = 0
def swp (A : Mx) (i j : Nat) : Mx := fun a => A (if a = i then j else if a = j then i else a)
theorem swp_updr {A : Mx} {i j : Nat} (h : i ≠ j) : swp A i j = updr (updr A i (A j)) j (A i) := by
  funext a b
  unfold swp updr
  by_cases e : a = j
  · subst e; rw [if_neg (fun e => h e.symm), if_pos rfl, if_pos rfl]
  · rw [if_neg e]
    by_cases d : a = i
    · rw [if_pos d, if_pos d, if_neg e]
    · rw [if_neg d, if_neg d, if_neg e]
theorem Alt.add {p : Int} {n : Nat} {F : Mx → Int} (H : Alt p n F) (A : Mx) {i : Nat} (u v : Nat → Int) (hi : i < n) : F (updr A i (fun j => u j + v j)) = F (updr A i u) + F (updr A i v) := by
  have := H.lin A i u v 1 hi
  simpa using this
theorem Alt.swap0 {p : Int} {n : Nat} {F : Mx → Int} (H : Alt p n F) {i j : Nat} (hi : i < n) (hj : j < n) (hne : i ≠ j) (h0 : ∀ A : Mx, A i = A j → F A = 0) (A : Mx) : F (swp A i j) = - F A := by
  have key : ∀ u v : Nat → Int, F (updr (updr A i u) j v) = - F (updr (updr A i v) j u) := by
    intro u v
    have z : ∀ w : Nat → Int, F (updr (updr A i w) j w) = 0 := fun w => h0 _ (by rw [updr_same, updr_ne hne, updr_same])
    have e := z (fun k => u k + v k)
    rw [H.add _ u v hj, updr_comm hne, updr_comm hne, H.add _ u v hi, H.add _ u v hi, ← updr_comm hne, ← updr_comm hne, ← updr_comm hne, ← updr_comm hne, z, z] at e
    omega
  rw [swp_updr hne, key]
  rw [updr_id, updr_id]
theorem Alt.alike {p : Int} {n : Nat} {F : Mx → Int} (H : Alt p n F) : ∀ (d i : Nat) (A : Mx), i + d + 1 < n → A i = A (i + d + 1) → F A = 0
  | 0, i, A, h, he => H.adj A i h he
  | d + 1, i, A, h, he => by
    have sw := H.swap0 (i := i + d + 1) (j := i + d + 2) (by omega) (by omega) (by omega) (fun B hB => H.adj B (i + d + 1) (by omega) hB) A
    have z : F (swp A (i + d + 1) (i + d + 2)) = 0 := by
      refine Alt.alike H d i _ (by omega) ?_
      show A (if i = i + d + 1 then _ else if i = i + d + 2 then _ else i) = A (if i + d + 1 = i + d + 1 then _ else _)
      rw [if_neg (by omega), if_neg (by omega), if_pos rfl, he]
      rfl
    omega
theorem Alt.alt {p : Int} {n : Nat} {F : Mx → Int} (H : Alt p n F) {i j : Nat} (hi : i < n) (hj : j < n) (hne : i ≠ j) (A : Mx) (he : A i = A j) : F A = 0 := by
  rcases Nat.lt_or_ge i j with h | h
  · exact H.alike (j - i - 1) i A (by omega) (by rw [he]; congr 1; omega)
  · exact H.alike (i - j - 1) j A (by omega) (by rw [← he]; congr 1; omega)
theorem Alt.swap {p : Int} {n : Nat} {F : Mx → Int} (H : Alt p n F) {i j : Nat} (hi : i < n) (hj : j < n) (hne : i ≠ j) (A : Mx) : F (swp A i j) = - F A :=
  H.swap0 hi hj hne (fun B hB => H.alt hi hj hne B hB) A
theorem Alt.scale {p : Int} {n : Nat} {F : Mx → Int} (H : Alt p n F) (A : Mx) {i : Nat} (v : Nat → Int) (c : Int) (hi : i < n) : F (updr A i (fun j => c * v j)) = c * F (updr A i v) := by
  have h1 := H.lin A i (fun _ => 0) v c hi
  have h2 := H.lin A i (fun _ => 0) (fun _ => 0) 1 hi
  simp at h1 h2
  omega
theorem Alt.zero {p : Int} {n : Nat} {F : Mx → Int} (H : Alt p n F) (A : Mx) {i : Nat} (hi : i < n) (h0 : ∀ j, A i j = 0) : F A = 0 := by
  have h := H.scale A (A i) 0 hi
  rw [Int.zero_mul] at h
  rw [← updr_id A i, ← h]
  congr 2
  funext j
  rw [h0, Int.mul_zero]
theorem Alt.comb {p : Int} {n : Nat} {F : Mx → Int} (H : Alt p n F) (A : Mx) {i : Nat} (hi : i < n) (s : Nat → Nat) (c : Nat → Int) (u : Nat → Int) :
    ∀ m, (∀ k, k < m → c k = 0 ∨ (s k < n ∧ s k ≠ i)) → F (updr A i (fun j => u j + sumN m (fun k => c k * A (s k) j))) = F (updr A i u)
  | 0, _ => by simp [sumN]
  | m + 1, h => by
    have ih := Alt.comb H A hi s c u m fun k hk => h k (by omega)
    have e : (fun j => u j + sumN (m + 1) (fun k => c k * A (s k) j)) = fun j => (u j + sumN m (fun k => c k * A (s k) j)) + c m * A (s m) j := by
      funext j; rw [sumN]; omega
    rw [e, H.lin A i _ _ _ hi, ih]
    rcases h m (by omega) with h1 | ⟨h1, h2⟩
    · rw [h1, Int.zero_mul, Int.add_zero]
    · rw [H.alt hi h1 (Ne.symm h2) (updr A i (A (s m))) (by rw [updr_same, updr_ne h2]), Int.mul_zero, Int.add_zero]
theorem tr_updr (A : Mx) (k : Nat) (u : Nat → Int) : tr (updr A k u) = updc (tr A) k u := rfl
theorem Lp_alt (p : Int) (n : Nat) : Alt p n (Lp n) where
  cg A B h := Lp_mod n h
  lin A i u v c hi := by
    rw [Lp_tr, Lp_tr n (updr A i u), Lp_tr n (updr A i v), tr_updr, tr_updr, tr_updr, Lp_lin n _ _ _ _ _ hi]
  adj A i hi h := by
    rw [Lp_tr]
    exact Lp_adj n _ i hi fun j => congrFun h j
def mulX (m : Nat) (A B : Mx) : Mx := fun i j => sumN m (fun k => A i k * B k j)
theorem Lp_mul_alt (p : Int) (n : Nat) (B : Mx) : Alt p n (fun A => Lp n (mulX n A B)) where
  cg A A' h := Lp_mod n fun i j hi hj => sumN_mod fun k hk => by rw [Int.mul_emod, h i k hi hk, ← Int.mul_emod]
  lin A i u v c hi := by
    have e : ∀ w : Nat → Int, mulX n (updr A i w) B = updr (mulX n A B) i (fun j => sumN n (fun k => w k * B k j)) := fun w => by
      funext a j
      unfold mulX updr
      by_cases h : a = i
      · simp [h]
      · simp [h]
    simp only [e]
    rw [← (Lp_alt p n).lin _ i _ _ c hi]
    congr 2
    funext j
    rw [← sumN_mul, ← sumN_add]
    refine sumN_congr fun k _ => ?_
    grind
  adj A i hi h := (Lp_alt p n).adj _ i hi (by funext j; unfold mulX; rw [h])
end Go.Proofs.Ytmalpmnmknpphaa.TM
namespace Go.Proofs.Ytmalpmnmknpphaa.TM
open Go Go.RowKit
def eps (x y : Int) : Int := if x < y then 1 else -1
theorem eps_flip {x y : Int} (h : x ≠ y) : eps y x = - eps x y := by
  unfold eps
  by_cases c : x < y
  · rw [if_pos c, if_neg (by omega)]
  · rw [if_neg c, if_pos (by omega)]; rfl
def colP (f : Nat → Int) (y : Int) : Nat → Int
  | 0 => 1
  | k + 1 => colP f y k * eps (f k) y
def sgnI (f : Nat → Int) : Nat → Int
  | 0 => 1
  | j + 1 => sgnI f j * colP f (f j) j
def sw (a b : Nat) (f : Nat → Int) : Nat → Int := fun i => if i = a then f b else if i = b then f a else f i
theorem sw_a (a b : Nat) (f : Nat → Int) : sw a b f a = f b := if_pos rfl
theorem sw_b (a b : Nat) (f : Nat → Int) : sw a b f b = f a := by
  unfold sw
  by_cases h : b = a
  · subst h; rw [if_pos rfl]
  · rw [if_neg h, if_pos rfl]
theorem sw_o {a b i : Nat} (f : Nat → Int) (h1 : i ≠ a) (h2 : i ≠ b) : sw a b f i = f i := by unfold sw; rw [if_neg h1, if_neg h2]
theorem colP_congr {f g : Nat → Int} {y : Int} : ∀ {k : Nat}, (∀ i, i < k → f i = g i) → colP f y k = colP g y k
  | 0, _ => rfl
  | k + 1, h => by rw [colP, colP, colP_congr (fun i hi => h i (by omega)), h k (by omega)]
theorem sgnI_congr {f g : Nat → Int} : ∀ {n : Nat}, (∀ i, i < n → f i = g i) → sgnI f n = sgnI g n
  | 0, _ => rfl
  | n + 1, h => by rw [sgnI, sgnI, sgnI_congr (fun i hi => h i (by omega)), h n (by omega), colP_congr (fun i hi => h i (by omega))]
theorem colP_adj (f : Nat → Int) (y : Int) (a : Nat) : ∀ d, colP (sw a (a + 1) f) y (a + 2 + d) = colP f y (a + 2 + d)
  | 0 => by
    rw [Nat.add_zero, show a + 2 = (a + 1) + 1 from rfl, colP, colP, colP, colP, sw_a, sw_b, colP_congr (g := f) (fun i hi => sw_o f (by omega) (by omega)), Int.mul_assoc, Int.mul_assoc, Int.mul_comm (eps (f (a + 1)) y)]
  | d + 1 => by
    rw [show a + 2 + (d + 1) = (a + 2 + d) + 1 from rfl, colP, colP, colP_adj f y a d, sw_o f (by omega) (by omega)]
theorem sgnI_adj (f : Nat → Int) (a : Nat) (h : f a ≠ f (a + 1)) : ∀ d, sgnI (sw a (a + 1) f) (a + 2 + d) = - sgnI f (a + 2 + d)
  | 0 => by
    have e : ∀ y, colP (sw a (a + 1) f) y a = colP f y a := fun y => colP_congr (fun i hi => sw_o f (by omega) (by omega))
    rw [Nat.add_zero, show a + 2 = (a + 1) + 1 from rfl, sgnI, sgnI, sgnI, sgnI, colP, colP, sw_a, sw_b, e, e, sgnI_congr (g := f) (fun i hi => sw_o f (by omega) (by omega)), eps_flip h]
    generalize sgnI f a = s
    generalize colP f (f a) a = x
    generalize colP f (f (a + 1)) a = y
    generalize eps (f a) (f (a + 1)) = z
    rw [Int.mul_neg, Int.mul_neg]
    congr 1
    rw [Int.mul_assoc, Int.mul_assoc, ← Int.mul_assoc y x, ← Int.mul_assoc x y, Int.mul_comm y x]
  | d + 1 => by
    rw [show a + 2 + (d + 1) = (a + 2 + d) + 1 from rfl, sgnI, sgnI, sgnI_adj f a h d, sw_o f (by omega) (by omega), colP_adj, Int.neg_mul]
def InjN (f : Nat → Int) (n : Nat) : Prop := ∀ i j, i < n → j < n → f i = f j → i = j
theorem InjN.sw {f : Nat → Int} {n a b : Nat} (h : InjN f n) (ha : a < n) (hb : b < n) : InjN (sw a b f) n := by
  have key : ∀ i, i < n → ∃ i', i' < n ∧ TM.sw a b f i = f i' ∧ (i' = if i = a then b else if i = b then a else i) := fun i hi => by
    unfold TM.sw
    by_cases h1 : i = a
    · exact ⟨b, hb, by rw [if_pos h1], by rw [if_pos h1]⟩
    · by_cases h2 : i = b
      · exact ⟨a, ha, by rw [if_neg h1, if_pos h2], by rw [if_neg h1, if_pos h2]⟩
      · exact ⟨i, hi, by rw [if_neg h1, if_neg h2], by rw [if_neg h1, if_neg h2]⟩
  intro i j hi hj he
  obtain ⟨i', hi', e1, e2⟩ := key i hi
  obtain ⟨j', hj', e3, e4⟩ := key j hj
  have := h i' j' hi' hj' (by rw [← e1, ← e3]; exact he)
  rw [e2, e4] at this
  split at this <;> split at this <;> (try split at this) <;> (try split at this) <;> omega
theorem sgnI_sw : ∀ (d a n : Nat) (f : Nat → Int), InjN f n → a + 1 + d < n → sgnI (sw a (a + 1 + d) f) n = - sgnI f n
  | 0, a, n, f, hi, hn => by
    obtain ⟨e, rfl⟩ : ∃ e, n = a + 2 + e := ⟨n - (a + 2), by omega⟩
    exact sgnI_adj f a (fun he => by have := hi a (a + 1) (by omega) (by omega) he; omega) e
  | d + 1, a, n, f, hi, hn => by
    obtain ⟨e, he⟩ : ∃ e, n = (a + 1 + d) + 2 + e := ⟨n - (a + 1 + d + 2), by omega⟩
    have h1 : sw a (a + 1 + (d + 1)) f = sw (a + 1 + d) (a + 1 + d + 1) (sw a (a + 1 + d) (sw (a + 1 + d) (a + 1 + d + 1) f)) := by
      rw [show a + 1 + (d + 1) = a + 1 + d + 1 from rfl]
      funext i
      unfold sw
      have n1 : ¬ a = a + 1 + d := by omega
      have n2 : ¬ a = a + 1 + d + 1 := by omega
      have n3 : ¬ a + 1 + d + 1 = a := by omega
      have n4 : ¬ a + 1 + d = a := by omega
      have n5 : ¬ a + 1 + d + 1 = a + 1 + d := by omega
      have n6 : ¬ a + 1 + d = a + 1 + d + 1 := by omega
      by_cases c1 : i = a
      · subst c1; simp only [if_true, n1, n2, n3, n4, n5, n6, if_false]
      · by_cases c2 : i = a + 1 + d
        · subst c2; simp only [if_true, n1, n2, n3, n4, n5, n6, if_false]
        · by_cases c3 : i = a + 1 + d + 1
          · subst c3; simp only [if_true, n1, n2, n3, n4, n5, n6, if_false]
          · simp only [c1, c2, c3, if_false]
    have i1 := hi.sw (a := a + 1 + d) (b := a + 1 + d + 1) (by omega) (by omega)
    have i2 := i1.sw (a := a) (b := a + 1 + d) (by omega) (by omega)
    have adj : ∀ g : Nat → Int, InjN g n → sgnI (sw (a + 1 + d) (a + 1 + d + 1) g) n = - sgnI g n := fun g hg => by
      rw [he]
      exact sgnI_adj g (a + 1 + d) (fun h => by have := hg (a + 1 + d) (a + 1 + d + 1) (by omega) (by omega) h; omega) e
    rw [h1, adj _ i2, sgnI_sw d a n _ i1 (by omega), adj _ hi]
    omega
end Go.Proofs.Ytmalpmnmknpphaa.TM
namespace Go.Proofs.Ytmalpmnmknpphaa.TM
open Go Go.RowKit
attribute [local irreducible] K W WOps Effs Xg Xo Xr Xdg Xdo Xdr Xif CallsP CallR
def seenC (s : List Int) : List IV := (List.range 64).map fun (i : Nat) => IV.v (Value.bool (decide ((i : Int) ∈ s)))
theorem seenC_len (s : List Int) : (seenC s).length = 64 := by simp [seenC]
theorem seenC_nil : [IV.v (Value.bool false), IV.v (Value.bool false), IV.v (Value.bool false), IV.v (Value.bool false), IV.v (Value.bool false), IV.v (Value.bool false), IV.v (Value.bool false), IV.v (Value.bool false), IV.v (Value.bool false), IV.v (Value.bool false), IV.v (Value.bool false), IV.v (Value.bool false), IV.v (Value.bool false), IV.v (Value.bool false), IV.v (Value.bool false), IV.v (Value.bool false), IV.v (Value.bool false), IV.v (Value.bool false), IV.v (Value.bool false), IV.v (Value.bool false), IV.v (Value.bool false), IV.v (Value.bool false), IV.v (Value.bool false), IV.v (Value.bool false), IV.v (Value.bool false), IV.v (Value.bool false), IV.v (Value.bool false), IV.v (Value.bool false), IV.v (Value.bool false), IV.v (Value.bool false), IV.v (Value.bool false), IV.v (Value.bool false), IV.v (Value.bool false), IV.v (Value.bool false), IV.v (Value.bool false), IV.v (Value.bool false), IV.v (Value.bool false), IV.v (Value.bool false), IV.v (Value.bool false), IV.v (Value.bool false), IV.v (Value.bool false), IV.v (Value.bool false), IV.v (Value.bool false), IV.v (Value.bool false), IV.v (Value.bool false), IV.v (Value.bool false), IV.v (Value.bool false), IV.v (Value.bool false), IV.v (Value.bool false), IV.v (Value.bool false), IV.v (Value.bool false), IV.v (Value.bool false), IV.v (Value.bool false), IV.v (Value.bool false), IV.v (Value.bool false), IV.v (Value.bool false), IV.v (Value.bool false), IV.v (Value.bool false), IV.v (Value.bool false), IV.v (Value.bool false), IV.v (Value.bool false), IV.v (Value.bool false), IV.v (Value.bool false), IV.v (Value.bool false)] = seenC [] := rfl
theorem seenC_get (s : List Int) {a : Int} (h0 : 0 ≤ a) (h1 : a < 64) : (seenC s)[a.toNat]? = some (IV.v (Value.bool (decide (a ∈ s)))) := by
  have h2 : a.toNat < 64 := by omega
  unfold seenC
  rw [List.getElem?_map, List.getElem?_range h2]
  simp only [Option.map_some, Int.toNat_of_nonneg h0]
theorem seenC_put (s : List Int) {a : Int} (h0 : 0 ≤ a) (h1 : a < 64) : (seenC s).take a.toNat ++ [IV.v (Value.bool true)] ++ (seenC s).drop (a.toNat + 1) = seenC (s ++ [a]) := by
  have h2 : a.toNat < 64 := by omega
  have hl := seenC_len s
  apply List.ext_getElem?
  intro i
  by_cases hi : i < 64
  · rw [List.append_assoc, List.getElem?_append, List.length_take, hl, show min a.toNat 64 = a.toNat by omega]
    have hr : (seenC (s ++ [a]))[i]? = some (IV.v (Value.bool (decide ((i : Int) ∈ s ++ [a])))) := by
      unfold seenC; rw [List.getElem?_map, List.getElem?_range hi]; rfl
    have hs : (seenC s)[i]? = some (IV.v (Value.bool (decide ((i : Int) ∈ s)))) := by
      unfold seenC; rw [List.getElem?_map, List.getElem?_range hi]; rfl
    rw [hr]
    by_cases c1 : i < a.toNat
    · rw [if_pos c1, List.getElem?_take, if_pos c1, hs]
      have : (i : Int) ≠ a := by omega
      simp [this]
    · rw [if_neg c1]
      by_cases c2 : i = a.toNat
      · have : (i : Int) = a := by omega
        rw [show i - a.toNat = 0 by omega]
        simp [this]
      · rw [List.getElem?_append_right (by simp; omega), List.getElem?_drop, List.length_singleton, show a.toNat + 1 + (i - a.toNat - 1) = i by omega, hs]
        have : (i : Int) ≠ a := by omega
        simp [this]
  · rw [List.getElem?_eq_none (by simp [hl]; omega), List.getElem?_eq_none (by rw [seenC_len]; omega)]
def ordF (n : Int) : List Int → List Int → Bool
  | _, [] => true
  | s, a :: l => !(decide (a < 0)) && (!(decide (n ≤ a)) && (!(decide (64 ≤ a)) && (!(decide (a ∈ s)) && ordF n (s ++ [a]) l)))
def orderB (l : List Int) : Bool := ordF l.length [] l && decide (1 ≤ (l.length : Int))
theorem ordF_drop (n : Int) (s : List Int) {l : List Int} {j : Nat} (h : j < l.length) : ordF n s (l.drop j) = (!(decide (l[j] < 0)) && (!(decide (n ≤ l[j])) && (!(decide (64 ≤ l[j])) && (!(decide (l[j] ∈ s)) && ordF n (s ++ [l[j]]) (l.drop (j + 1)))))) := by
  rw [List.drop_eq_getElem_cons h]; rfl
theorem order_right_walk (l : List Int) (hl : l.length ≤ maxLen) : CallsP Try.prog 135 [li l] (bl (orderB l)) := by
  unfold orderB
  have hm : maxLen = 9223372036854775807 := rfl
  refine X_startP (n := 35) (m := 1) (rs := [.tmp 2]) Try.func135 rfl rfl rfl rfl (by decide) fun base => ?_
  repeat (first | refine X_opc rfl ?_ | refine X_dopc rfl ?_ | refine ⟨(by show drawK _ _ = true; kernel_rfl : drawX _ _ _), ?_⟩ | exact (by show drawK _ _ = true; kernel_rfl : drawX _ _ _) | simp -dsimp (maxSteps := 20000000) (disch := omega) only [simx, zzC, zzB, tys, ite_self, opnL, callB, callX, readsB, stepOp, nilCmp, ofVal, opBuiltin, opLen, PV.sk, scalBin, scalUn, intBin, opLoad, natOf, opConvert, opField, cellsP, oneP, Value.oneCell', opStore, toIV, scalT, scalA, scalC, boxesA, boxesC, zipB_none, zipB_mx, isZ, opZip, zeroP, opAppendZ, opMakeMap, opLookup, mboxB, opUpdate, ↓reduceIte, Nat.reduceSub, Nat.reduceEqDiff, Nat.reduceAdd, Nat.reduceMul, Nat.reduceLT, Nat.reduceLeDiff, Int.reduceToNat, Int.reduceLE, Int.reduceLT, Int.reduceNeg, reduceCtorEq, gos, Int.reduceAdd, Int.reduceSub, Int.reduceMul, Int.reduceEq, seenC_nil])
  refine X_loopH [0, 3, 6, 7, 8] [] (0) (l.length) (fun j => ordF l.length (l.take j) (l.drop j) = ordF l.length [] l) (fun j => [(8, i64 j)]) (fun j => Heap.none.put ((1, 0) :: base) (.row false (seenC (l.take j)))) ?_ ?_ ?_ ?_ ?_ (by decide) ?_
  · exact (fgt_nil)
  · ((simp -dsimp (disch := omega) only [simx, zzB, tys, ite_self, opnL, callB, callX, readsB, stepOp, nilCmp, ofVal, opBuiltin, opLen, PV.sk, scalBin, scalUn, intBin, opLoad, natOf, opConvert, opField, cellsP, oneP, Value.oneCell', opStore, toIV, scalT, scalA, scalC, boxesA, boxesC, zipB_none, zipB_mx, isZ, opZip, zeroP, opAppendZ, opMakeMap, opLookup, mboxB, opUpdate, ↓reduceIte, Nat.reduceSub, Nat.reduceEqDiff, Nat.reduceAdd, Nat.reduceMul, Nat.reduceLT, Nat.reduceLeDiff, Int.reduceToNat, Int.reduceLE, Int.reduceLT, Int.reduceNeg, reduceCtorEq, gos, Int.reduceAdd, Int.reduceSub, Int.reduceMul, Int.reduceEq]) <;> first | rfl | simp)
  · exact drop_nil _
  · omega
  · rfl
  · intro j hj hf
    by_cases cj : j < l.length
    · have g1 : l[j]? = some l[j] := List.getElem?_eq_getElem cj
      have tk : l.take (j + 1) = l.take j ++ [l[j]] := (List.take_append_getElem cj).symm
      rw [ordF_drop _ _ cj] at hf
      generalize l[j] = a at g1 tk hf
      by_cases c1 : a < 0
      · rw [← hf]
        repeat (first | refine X_opc rfl ?_ | refine X_dopc rfl ?_ | refine ⟨(by show drawK _ _ = true; kernel_rfl : drawX _ _ _), ?_⟩ | exact (by show drawK _ _ = true; kernel_rfl : drawX _ _ _) | simp -dsimp (maxSteps := 20000000) (disch := omega) only [simx, zzC, zzB, tys, ite_self, opnL, callB, callX, readsB, stepOp, nilCmp, ofVal, opBuiltin, opLen, PV.sk, scalBin, scalUn, intBin, opLoad, natOf, opConvert, opField, cellsP, oneP, Value.oneCell', opStore, toIV, scalT, scalA, scalC, boxesA, boxesC, zipB_none, zipB_mx, isZ, opZip, zeroP, opAppendZ, opMakeMap, opLookup, mboxB, opUpdate, ↓reduceIte, Nat.reduceSub, Nat.reduceEqDiff, Nat.reduceAdd, Nat.reduceMul, Nat.reduceLT, Nat.reduceLeDiff, Int.reduceToNat, Int.reduceLE, Int.reduceLT, Int.reduceNeg, reduceCtorEq, zzR, gos, Int.reduceAdd, Int.reduceSub, Int.reduceMul, Int.reduceEq, cj, g1, c1, decide_true, Bool.not_true, Bool.false_and])
      · have h0 : 0 ≤ a := by omega
        have c1' : ¬ a < 0 := c1
        by_cases c2 : (l.length : Int) ≤ a
        · rw [← hf]
          repeat (first | refine X_opc rfl ?_ | refine X_dopc rfl ?_ | refine ⟨(by show drawK _ _ = true; kernel_rfl : drawX _ _ _), ?_⟩ | exact (by show drawK _ _ = true; kernel_rfl : drawX _ _ _) | simp -dsimp (maxSteps := 20000000) (disch := omega) only [simx, zzC, zzB, tys, ite_self, opnL, callB, callX, readsB, stepOp, nilCmp, ofVal, opBuiltin, opLen, PV.sk, scalBin, scalUn, intBin, opLoad, natOf, opConvert, opField, cellsP, oneP, Value.oneCell', opStore, toIV, scalT, scalA, scalC, boxesA, boxesC, zipB_none, zipB_mx, isZ, opZip, zeroP, opAppendZ, opMakeMap, opLookup, mboxB, opUpdate, ↓reduceIte, Nat.reduceSub, Nat.reduceEqDiff, Nat.reduceAdd, Nat.reduceMul, Nat.reduceLT, Nat.reduceLeDiff, Int.reduceToNat, Int.reduceLE, Int.reduceLT, Int.reduceNeg, reduceCtorEq, zzR, gos, Int.reduceAdd, Int.reduceSub, Int.reduceMul, Int.reduceEq, cj, g1, c1', c2, decide_true, decide_false, Bool.not_true, Bool.not_false, Bool.false_and, Bool.true_and])
        · by_cases c3 : 64 ≤ a
          · rw [← hf]
            repeat (first | refine X_opc rfl ?_ | refine X_dopc rfl ?_ | refine ⟨(by show drawK _ _ = true; kernel_rfl : drawX _ _ _), ?_⟩ | exact (by show drawK _ _ = true; kernel_rfl : drawX _ _ _) | simp -dsimp (maxSteps := 20000000) (disch := omega) only [simx, zzC, zzB, tys, ite_self, opnL, callB, callX, readsB, stepOp, nilCmp, ofVal, opBuiltin, opLen, PV.sk, scalBin, scalUn, intBin, opLoad, natOf, opConvert, opField, cellsP, oneP, Value.oneCell', opStore, toIV, scalT, scalA, scalC, boxesA, boxesC, zipB_none, zipB_mx, isZ, opZip, zeroP, opAppendZ, opMakeMap, opLookup, mboxB, opUpdate, ↓reduceIte, Nat.reduceSub, Nat.reduceEqDiff, Nat.reduceAdd, Nat.reduceMul, Nat.reduceLT, Nat.reduceLeDiff, Int.reduceToNat, Int.reduceLE, Int.reduceLT, Int.reduceNeg, reduceCtorEq, zzR, gos, Int.reduceAdd, Int.reduceSub, Int.reduceMul, Int.reduceEq, cj, g1, c1', c2, c3, decide_true, decide_false, Bool.not_true, Bool.not_false, Bool.false_and, Bool.true_and])
          · have g2 := seenC_get (l.take j) h0 (by omega : a < 64)
            have c4 : a.toNat < 64 := by omega
            by_cases c5 : a ∈ l.take j
            · rw [← hf]
              repeat (first | refine X_opc rfl ?_ | refine X_dopc rfl ?_ | refine ⟨(by show drawK _ _ = true; kernel_rfl : drawX _ _ _), ?_⟩ | exact (by show drawK _ _ = true; kernel_rfl : drawX _ _ _) | simp -dsimp (maxSteps := 20000000) (disch := omega) only [simx, zzC, zzB, tys, ite_self, opnL, callB, callX, readsB, stepOp, nilCmp, ofVal, opBuiltin, opLen, PV.sk, scalBin, scalUn, intBin, opLoad, natOf, opConvert, opField, cellsP, oneP, Value.oneCell', opStore, toIV, scalT, scalA, scalC, boxesA, boxesC, zipB_none, zipB_mx, isZ, opZip, zeroP, opAppendZ, opMakeMap, opLookup, mboxB, opUpdate, ↓reduceIte, Nat.reduceSub, Nat.reduceEqDiff, Nat.reduceAdd, Nat.reduceMul, Nat.reduceLT, Nat.reduceLeDiff, Int.reduceToNat, Int.reduceLE, Int.reduceLT, Int.reduceNeg, reduceCtorEq, zzR, gos, Int.reduceAdd, Int.reduceSub, Int.reduceMul, Int.reduceEq, cj, g1, c1', c2, c3, c4, c5, h0, g2, seenC_len, decide_true, decide_false, Bool.not_true, Bool.not_false, Bool.false_and, Bool.true_and])
            · have g3 := seenC_put (l.take j) h0 (by omega : a < 64)
              have c6 : a.toNat + 1 ≤ 64 := c4
              simp only [c1, c2, c3, c5, decide_false, Bool.not_false, Bool.true_and] at hf
              rw [← tk] at hf g3
              repeat (first | refine X_opc rfl ?_ | refine X_dopc rfl ?_ | refine ⟨(by show drawK _ _ = true; kernel_rfl : drawX _ _ _), ?_⟩ | exact (by show drawK _ _ = true; kernel_rfl : drawX _ _ _) | simp -dsimp (maxSteps := 20000000) (disch := omega) only [simx, zzC, zzB, tys, ite_self, opnL, callB, callX, readsB, stepOp, nilCmp, ofVal, opBuiltin, opLen, PV.sk, scalBin, scalUn, intBin, opLoad, natOf, opConvert, opField, cellsP, oneP, Value.oneCell', opStore, toIV, scalT, scalA, scalC, boxesA, boxesC, zipB_none, zipB_mx, isZ, opZip, zeroP, opAppendZ, opMakeMap, opLookup, mboxB, opUpdate, ↓reduceIte, Nat.reduceSub, Nat.reduceEqDiff, Nat.reduceAdd, Nat.reduceMul, Nat.reduceLT, Nat.reduceLeDiff, Int.reduceToNat, Int.reduceLE, Int.reduceLT, Int.reduceNeg, reduceCtorEq, gos, Int.reduceAdd, Int.reduceSub, Int.reduceMul, Int.reduceEq, cj, g1, c1', c2, c3, c4, c5, c6, h0, g2, g3, seenC_len])
              refine ⟨cj, (fgt_nil), hf, rfl, ?_⟩
              funext c
              simp (maxSteps := 20000000) only [Heap.drop_at, rowH_app, Heap.put_at, Heap.none_at, List.mem_cons, List.not_mem_nil, or_false]
              by_cases e0 : c = (1, 0) :: base
              · subst e0; simp []
              simp [e0]
    · have hj : j = l.length := by omega
      subst hj
      rw [List.drop_length] at hf
      rw [← hf]
      simp only [ordF, Bool.true_and]
      repeat (first | refine X_opc rfl ?_ | refine X_dopc rfl ?_ | refine ⟨(by show drawK _ _ = true; kernel_rfl : drawX _ _ _), ?_⟩ | exact (by show drawK _ _ = true; kernel_rfl : drawX _ _ _) | simp -dsimp (maxSteps := 20000000) (disch := omega) only [simx, zzC, zzB, tys, ite_self, opnL, callB, callX, readsB, stepOp, nilCmp, ofVal, opBuiltin, opLen, PV.sk, scalBin, scalUn, intBin, opLoad, natOf, opConvert, opField, cellsP, oneP, Value.oneCell', opStore, toIV, scalT, scalA, scalC, boxesA, boxesC, zipB_none, zipB_mx, isZ, opZip, zeroP, opAppendZ, opMakeMap, opLookup, mboxB, opUpdate, ↓reduceIte, Nat.reduceSub, Nat.reduceEqDiff, Nat.reduceAdd, Nat.reduceMul, Nat.reduceLT, Nat.reduceLeDiff, Int.reduceToNat, Int.reduceLE, Int.reduceLT, Int.reduceNeg, reduceCtorEq, zzR, gos, Int.reduceAdd, Int.reduceSub, Int.reduceMul, Int.reduceEq])
end Go.Proofs.Ytmalpmnmknpphaa.TM
namespace Go.Proofs.Ytmalpmnmknpphaa.TM
open Go Go.RowKit
attribute [local irreducible] K W WOps Effs Xg Xo Xr Xdg Xdo Xdr Xif CallsP CallR
theorem pright_walk (l : List Int) (hl : l.length ≤ maxLen) : CallsP Try.prog 116 [li l] (bl (orderB l)) := by
  have d := order_right_walk l hl
  refine X_startP (n := 7) (m := 1) (rs := [.tmp 2]) Try.func116 rfl rfl rfl rfl (by decide) fun base => ?_
  repeat (first | ((first | refine X_call_fn2 rfl (by simp only [tys]) ?_ | refine X_dcall_fn2 rfl (by simp only [tys]) ?_); apply Exists.intro; apply And.intro; (focus (simp -dsimp only [simx, zzC, zzB, tys, ite_self, opnL, callB, callX, readsB, stepOp, nilCmp, ofVal, opBuiltin, opLen, PV.sk, scalBin, scalUn, intBin, opLoad, natOf, opConvert, opField, cellsP, oneP, Value.oneCell', opStore, toIV, scalT, scalA, scalC, boxesA, boxesC, zipB_none, zipB_mx, isZ, opZip, zeroP, opAppendZ, opMakeMap, opLookup, mboxB, opUpdate, ↓reduceIte, Nat.reduceSub, Nat.reduceEqDiff, Nat.reduceAdd, Nat.reduceMul, Nat.reduceLT, Nat.reduceLeDiff, Int.reduceToNat, Int.reduceLE, Int.reduceLT, Int.reduceNeg, reduceCtorEq, zzL, if_true, if_false] <;> rfl)); apply Exists.intro; apply And.intro; (focus (first | exact d))) | (refine X_call_val2 rfl ?_; apply Exists.intro; apply And.intro; (focus (simp -dsimp only [simx, zzC, zzB, tys, ite_self, opnL, callB, callX, readsB, stepOp, nilCmp, ofVal, opBuiltin, opLen, PV.sk, scalBin, scalUn, intBin, opLoad, natOf, opConvert, opField, cellsP, oneP, Value.oneCell', opStore, toIV, scalT, scalA, scalC, boxesA, boxesC, zipB_none, zipB_mx, isZ, opZip, zeroP, opAppendZ, opMakeMap, opLookup, mboxB, opUpdate, ↓reduceIte, Nat.reduceSub, Nat.reduceEqDiff, Nat.reduceAdd, Nat.reduceMul, Nat.reduceLT, Nat.reduceLeDiff, Int.reduceToNat, Int.reduceLE, Int.reduceLT, Int.reduceNeg, reduceCtorEq, zzL, if_true, if_false] <;> rfl)); apply And.intro; (focus (first | simp only [tys] | exact such_enter _)); apply Exists.intro; apply And.intro; (focus (simp -dsimp only [simx, zzC, zzB, tys, ite_self, opnL, callB, callX, readsB, stepOp, nilCmp, ofVal, opBuiltin, opLen, PV.sk, scalBin, scalUn, intBin, opLoad, natOf, opConvert, opField, cellsP, oneP, Value.oneCell', opStore, toIV, scalT, scalA, scalC, boxesA, boxesC, zipB_none, zipB_mx, isZ, opZip, zeroP, opAppendZ, opMakeMap, opLookup, mboxB, opUpdate, ↓reduceIte, Nat.reduceSub, Nat.reduceEqDiff, Nat.reduceAdd, Nat.reduceMul, Nat.reduceLT, Nat.reduceLeDiff, Int.reduceToNat, Int.reduceLE, Int.reduceLT, Int.reduceNeg, reduceCtorEq, zzL, if_true, if_false] <;> rfl)); apply Exists.intro; apply And.intro; (focus (first | exact d))) | refine X_opc rfl ?_ | refine X_dopc rfl ?_ | refine ⟨(by show drawK _ _ = true; kernel_rfl : drawX _ _ _), ?_⟩ | exact (by show drawK _ _ = true; kernel_rfl : drawX _ _ _) | simp -dsimp (maxSteps := 20000000) (disch := omega) only [simx, zzC, zzB, tys, ite_self, opnL, callB, callX, readsB, stepOp, nilCmp, ofVal, opBuiltin, opLen, PV.sk, scalBin, scalUn, intBin, opLoad, natOf, opConvert, opField, cellsP, oneP, Value.oneCell', opStore, toIV, scalT, scalA, scalC, boxesA, boxesC, zipB_none, zipB_mx, isZ, opZip, zeroP, opAppendZ, opMakeMap, opLookup, mboxB, opUpdate, ↓reduceIte, Nat.reduceSub, Nat.reduceEqDiff, Nat.reduceAdd, Nat.reduceMul, Nat.reduceLT, Nat.reduceLeDiff, Int.reduceToNat, Int.reduceLE, Int.reduceLT, Int.reduceNeg, reduceCtorEq, zzR, gos, Int.reduceAdd, Int.reduceSub, Int.reduceMul, Int.reduceEq])
structure Ord (l : List Int) : Prop where
  pos : 1 ≤ l.length
  le : l.length ≤ 64
  mem : ∀ a ∈ l, 0 ≤ a ∧ a < l.length
  nd : l.Nodup
theorem ordF_spec (n : Int) : ∀ (l s : List Int), ordF n s l = true ↔ (∀ a ∈ l, 0 ≤ a ∧ a < n ∧ a < 64) ∧ l.Nodup ∧ ∀ a ∈ l, a ∉ s
  | [], s => by simp [ordF]
  | a :: l, s => by
    rw [ordF]
    simp only [Bool.and_eq_true, Bool.not_eq_true', decide_eq_false_iff_not, ordF_spec n l (s ++ [a])]
    constructor
    · rintro ⟨h1, h2, h3, h4, h5, h6, h7⟩
      refine ⟨fun b hb => ?_, List.nodup_cons.2 ⟨fun h => ?_, h6⟩, fun b hb => ?_⟩
      · rcases List.mem_cons.1 hb with rfl | hb
        · omega
        · exact h5 b hb
      · exact h7 a h (by simp)
      · rcases List.mem_cons.1 hb with rfl | hb
        · exact h4
        · exact fun h => h7 b hb (List.mem_append.2 (.inl h))
    · rintro ⟨h1, h2, h3⟩
      obtain ⟨h4, h5⟩ := List.nodup_cons.1 h2
      have := h1 a (by simp)
      refine ⟨by omega, by omega, by omega, h3 a (by simp), fun b hb => h1 b (by simp [hb]), h5, fun b hb h => ?_⟩
      rcases List.mem_append.1 h with h | h
      · exact h3 b (by simp [hb]) h
      · have : b = a := by simpa using h
        subst this
        exact h4 hb
theorem nodup_bound {n : Nat} : ∀ {l : List Int}, l.Nodup → (∀ a ∈ l, 0 ≤ a ∧ a < n) → l.length ≤ n := by
  induction n with
  | zero =>
    intro l _ h
    cases l with
    | nil => simp
    | cons a l => have := h a (by simp); omega
  | succ n ih =>
    intro l hn h
    by_cases hm : (n : Int) ∈ l
    · have h1 := List.length_erase_of_mem hm
      have h2 := ih (l := l.erase (n : Int)) (hn.erase _) (fun a ha => by
        have h3 := h a (List.mem_of_mem_erase ha)
        have h4 : a ≠ (n : Int) := fun e => by
          subst e
          exact (List.Nodup.not_mem_erase hn) ha
        omega)
      omega
    · have := ih hn (fun a ha => by
        have h3 := h a ha
        have : a ≠ (n : Int) := fun e => hm (e ▸ ha)
        omega)
      omega
theorem orderB_iff (l : List Int) : orderB l = true ↔ Ord l := by
  unfold orderB
  rw [Bool.and_eq_true, ordF_spec, decide_eq_true_eq]
  constructor
  · rintro ⟨⟨h1, h2, _⟩, h3⟩
    exact ⟨by omega, nodup_bound h2 (fun a ha => by have := h1 a ha; omega), fun a ha => by have := h1 a ha; omega, h2⟩
  · rintro ⟨h1, h2, h3, h4⟩
    exact ⟨⟨fun a ha => by have := h3 a ha; omega, h4, fun a _ => by simp⟩, by omega⟩
end Go.Proofs.Ytmalpmnmknpphaa.TM
namespace Go.Proofs.Ytmalpmnmknpphaa.TM
open Go Go.RowKit
def InN (q : Nat → Int) (n : Nat) : Prop := ∀ i, i < n → 0 ≤ q i ∧ q i < n
theorem tbl_nodup {q : Nat → Int} : ∀ {n : Nat}, InjN q n → (tbl n q).Nodup
  | 0, _ => List.nodup_nil
  | n + 1, h => by
    rw [tbl_succ, List.nodup_append]
    refine ⟨tbl_nodup fun i j hi hj => h i j (by omega) (by omega), by simp, fun x hx y hy he => ?_⟩
    obtain ⟨i, hi, e⟩ := tbl_mem hx
    have hy' : y = q n := by simpa using hy
    have := h i n (by omega) (by omega) (by rw [e, he, hy'])
    omega
theorem surjN {q : Nat → Int} {n : Nat} (h : InjN q n) (hr : InN q n) (m : Nat) (hm : m < n) : ∃ i, i < n ∧ q i = m := by
  by_cases c : (m : Int) ∈ tbl n q
  · exact tbl_mem c
  · have h1 : ((m : Int) :: tbl n q).Nodup := List.nodup_cons.2 ⟨c, tbl_nodup h⟩
    have h2 := nodup_bound h1 (n := n) (fun a ha => by
      rcases List.mem_cons.1 ha with rfl | ha
      · omega
      · obtain ⟨i, hi, rfl⟩ := tbl_mem ha; exact hr i hi)
    rw [List.length_cons, tbl_len] at h2
    omega
theorem colP_id (y : Int) : ∀ k : Nat, (k : Int) ≤ y → colP (fun i => (i : Int)) y k = 1
  | 0, _ => rfl
  | k + 1, h => by rw [colP, colP_id y k (by omega), eps, if_pos (by omega)]; rfl
theorem sgnI_id : ∀ n, sgnI (fun i => (i : Int)) n = 1
  | 0 => rfl
  | n + 1 => by rw [sgnI, sgnI_id n, colP_id _ _ (by omega)]; rfl
theorem sw_in {q : Nat → Int} {n a b : Nat} (h : InN q n) (ha : a < n) (hb : b < n) : InN (sw a b q) n := fun i hi => by
  unfold sw
  by_cases c1 : i = a
  · rw [if_pos c1]; exact h b hb
  · by_cases c2 : i = b
    · rw [if_neg c1, if_pos c2]; exact h a ha
    · rw [if_neg c1, if_neg c2]; exact h i hi
end Go.Proofs.Ytmalpmnmknpphaa.TM
namespace Go.Proofs.Ytmalpmnmknpphaa.TM
open Go Go.RowKit
attribute [local irreducible] K W WOps Effs Xg Xo Xr Xdg Xdo Xdr Xif CallsP CallR
def itn (l : List Int) (a : Int) : Nat → Int
  | 0 => a
  | k + 1 => l.getD (itn l a k).toNat 0
def orb (l : List Int) (a : Int) (k : Nat) : List Int := (List.range k).map (itn l a)
theorem orb_len (l : List Int) (a : Int) (k : Nat) : (orb l a k).length = k := by simp [orb]
theorem orb_succ (l : List Int) (a : Int) (k : Nat) : orb l a (k + 1) = orb l a k ++ [itn l a k] := by unfold orb; rw [List.range_succ, List.map_append]; rfl
theorem orb_zero (l : List Int) (a : Int) : orb l a 0 = [] := rfl
def ringN (l s : List Int) (a : Int) : Nat := ((List.range (l.length + 1)).find? fun k => decide (itn l a k ∈ s ++ orb l a k)).getD 0
theorem itn_in {l : List Int} (o : Ord l) {a : Int} (h0 : 0 ≤ a) (h1 : a < l.length) : ∀ k, 0 ≤ itn l a k ∧ itn l a k < l.length
  | 0 => ⟨h0, h1⟩
  | k + 1 => by
    have := itn_in o h0 h1 k
    have h2 : (itn l a k).toNat < l.length := by omega
    rw [itn, List.getD_eq_getElem?_getD, List.getElem?_eq_getElem h2]
    exact o.mem _ (List.getElem_mem h2)
theorem orb_nodup {l s : List Int} {a : Int} : ∀ k, (∀ i, i < k → itn l a i ∉ s ++ orb l a i) → (orb l a k).Nodup
  | 0, _ => List.nodup_nil
  | k + 1, h => by
    rw [orb_succ, List.nodup_append]
    refine ⟨orb_nodup k fun i hi => h i (by omega), by simp, fun x hx y hy => ?_⟩
    have : y = itn l a k := by simpa using hy
    subst this
    intro e
    exact h k (by omega) (List.mem_append.2 (.inr (e ▸ hx)))
theorem ringN_spec {l : List Int} (o : Ord l) (s : List Int) {a : Int} (h0 : 0 ≤ a) (h1 : a < l.length) :
    itn l a (ringN l s a) ∈ s ++ orb l a (ringN l s a) ∧ (∀ i, i < ringN l s a → itn l a i ∉ s ++ orb l a i) ∧ ringN l s a ≤ l.length := by
  unfold ringN
  cases hf : (List.range (l.length + 1)).find? fun k => decide (itn l a k ∈ s ++ orb l a k) with
  | none =>
    exfalso
    have h2 : ∀ i, i < l.length + 1 → itn l a i ∉ s ++ orb l a i := fun i hi => by
      have := List.find?_eq_none.1 hf i (List.mem_range.2 hi)
      simpa using this
    have h3 := orb_nodup (l.length + 1) h2
    have h4 := nodup_bound h3 (n := l.length) (fun x hx => by
      obtain ⟨i, _, rfl⟩ := List.mem_map.1 hx
      exact itn_in o h0 h1 i)
    rw [orb_len] at h4
    omega
  | some m =>
    rw [List.find?_range_eq_some] at hf
    obtain ⟨h2, h3, h4⟩ := hf
    simp only [Option.getD_some]
    refine ⟨by simpa using h2, fun i hi => ?_, ?_⟩
    · have := h4 i hi
      simpa using this
    · have := List.mem_range.1 h3; omega
def rgs (l : List Int) : Nat → List (List Int) × List Int
  | 0 => ([], [])
  | j + 1 => if (j : Int) ∈ (rgs l j).2 then rgs l j else ((rgs l j).1 ++ [orb l j (ringN l (rgs l j).2 j)], (rgs l j).2 ++ orb l j (ringN l (rgs l j).2 j))
def ringsI (l : List Int) : List (List Int) := (rgs l l.length).1
abbrev ivl (l : List Int) : IV := .l l.length (l.map ii)
abbrev lli (x : List (List Int)) : PV := .i (.l x.length (x.map ivl))
def trM (s : List Int) : List (Int × Value) := s.map fun a => (a, Value.bool true)
theorem getM_tr (n : Int) : ∀ s : List Int, getM n (trM s) = if n ∈ s then some (Value.bool true) else none
  | [] => by simp [trM, getM]
  | a :: s => by
    have ih := getM_tr n s
    unfold trM at ih ⊢
    rw [List.map_cons, getM]
    by_cases h : n = a
    · simp [h]
    · rw [if_neg h, ih]; simp [h]
theorem putM_tr (n : Int) : ∀ s : List Int, n ∉ s → putM n (Value.bool true) (trM s) = trM (s ++ [n])
  | [], _ => rfl
  | a :: s, hn => by
    have h1 : n ≠ a := fun e => hn (by simp [e])
    have ih := putM_tr n s fun h => hn (by simp [h])
    unfold trM at ih ⊢
    rw [List.cons_append, List.map_cons, List.map_cons, putM, if_neg h1, ih]
theorem rgs_len (l : List Int) : ∀ j, (rgs l j).1.length ≤ j
  | 0 => Nat.le_refl _
  | j + 1 => by
    have := rgs_len l j
    rw [rgs]
    split
    · omega
    · simp; omega
set_option maxHeartbeats 2000000 in
theorem rings_walk (l : List Int) (o : Ord l) : CallsP Try.prog 117 [li l] (lli (ringsI l)) := by
  have o1 := o.le
  have o2 := o.pos
  unfold ringsI
  refine X_startP (n := 38) (m := 1) (rs := [.tmp 2]) Try.func117 rfl rfl rfl rfl (by decide) fun base => ?_
  repeat (first | refine X_opc rfl ?_ | refine X_dopc rfl ?_ | refine ⟨(by show drawK _ _ = true; kernel_rfl : drawX _ _ _), ?_⟩ | exact (by show drawK _ _ = true; kernel_rfl : drawX _ _ _) | simp -dsimp (maxSteps := 20000000) (disch := omega) only [simx, zzC, zzB, tys, ite_self, opnL, callB, callX, readsB, stepOp, nilCmp, ofVal, opBuiltin, opLen, PV.sk, scalBin, scalUn, intBin, opLoad, natOf, opConvert, opField, cellsP, oneP, Value.oneCell', opStore, toIV, scalT, scalA, scalC, boxesA, boxesC, zipB_none, zipB_mx, isZ, opZip, zeroP, opAppendZ, opMakeMap, opLookup, mboxB, opUpdate, ↓reduceIte, Nat.reduceSub, Nat.reduceEqDiff, Nat.reduceAdd, Nat.reduceMul, Nat.reduceLT, Nat.reduceLeDiff, Int.reduceToNat, Int.reduceLE, Int.reduceLT, Int.reduceNeg, reduceCtorEq, gos, Int.reduceAdd, Int.reduceSub, Int.reduceMul, Int.reduceEq])
  refine X_loopH [0, 3, 4, 10, 11] [(12, 2) :: base, (12, 3) :: base, (13, 2) :: base] (0) (l.length) (fun j => True) (fun j => [(4, rowP ((13, 3) :: base) 1 (rgs l j).1.length ((rgs l j).1.map ivl)), (11, i64 j)]) (fun j => rowH (Heap.none.put ((1, 0) :: base) (.map .i64 (trM (rgs l j).2))) ((13, 3) :: base) (rgs l j).1.length ((rgs l j).1.map ivl)) ?_ ?_ ?_ ?_ ?_ (by decide) ?_
  · exact (fgt_cons (by simp only [Heap.none_at]) (by (simp -dsimp only [zzB, tys, ite_self, opnL, callB, callX, readsB, stepOp, nilCmp, ofVal, opBuiltin, opLen, PV.sk, scalBin, scalUn, intBin, opLoad, natOf, opConvert, opField, cellsP, oneP, Value.oneCell', opStore, toIV, scalT, scalA, scalC, boxesA, boxesC, zipB_none, zipB_mx, isZ, opZip, zeroP, opAppendZ, opMakeMap, opLookup, mboxB, opUpdate, ↓reduceIte, Nat.reduceSub, Nat.reduceEqDiff, Nat.reduceAdd, Nat.reduceMul, Nat.reduceLT, Nat.reduceLeDiff, Int.reduceToNat, Int.reduceLE, Int.reduceLT, Int.reduceNeg, reduceCtorEq, notIn_cons, notIn_nil]) <;> simp [refsL, refsP, mem_refs_rowP]) (by repeat (first | exact noVar_none _ | refine noVar_row ?_ | refine noVar_map ?_ | refine noVar_rowH ?_ | refine noVar_var ?_ (by simp [refsL, refsP, mem_refs_rowP]))) (fgt_cons (by simp only [Heap.none_at]) (by (simp -dsimp only [zzB, tys, ite_self, opnL, callB, callX, readsB, stepOp, nilCmp, ofVal, opBuiltin, opLen, PV.sk, scalBin, scalUn, intBin, opLoad, natOf, opConvert, opField, cellsP, oneP, Value.oneCell', opStore, toIV, scalT, scalA, scalC, boxesA, boxesC, zipB_none, zipB_mx, isZ, opZip, zeroP, opAppendZ, opMakeMap, opLookup, mboxB, opUpdate, ↓reduceIte, Nat.reduceSub, Nat.reduceEqDiff, Nat.reduceAdd, Nat.reduceMul, Nat.reduceLT, Nat.reduceLeDiff, Int.reduceToNat, Int.reduceLE, Int.reduceLT, Int.reduceNeg, reduceCtorEq, notIn_cons, notIn_nil]) <;> simp [refsL, refsP, mem_refs_rowP]) (by repeat (first | exact noVar_none _ | refine noVar_row ?_ | refine noVar_map ?_ | refine noVar_rowH ?_ | refine noVar_var ?_ (by simp [refsL, refsP, mem_refs_rowP]))) (fgt_cons (by simp only [Heap.none_at]) (by (simp -dsimp only [zzB, tys, ite_self, opnL, callB, callX, readsB, stepOp, nilCmp, ofVal, opBuiltin, opLen, PV.sk, scalBin, scalUn, intBin, opLoad, natOf, opConvert, opField, cellsP, oneP, Value.oneCell', opStore, toIV, scalT, scalA, scalC, boxesA, boxesC, zipB_none, zipB_mx, isZ, opZip, zeroP, opAppendZ, opMakeMap, opLookup, mboxB, opUpdate, ↓reduceIte, Nat.reduceSub, Nat.reduceEqDiff, Nat.reduceAdd, Nat.reduceMul, Nat.reduceLT, Nat.reduceLeDiff, Int.reduceToNat, Int.reduceLE, Int.reduceLT, Int.reduceNeg, reduceCtorEq, notIn_cons, notIn_nil]) <;> simp [refsL, refsP, mem_refs_rowP]) (by repeat (first | exact noVar_none _ | refine noVar_row ?_ | refine noVar_map ?_ | refine noVar_rowH ?_ | refine noVar_var ?_ (by simp [refsL, refsP, mem_refs_rowP]))) (fgt_nil))))
  · ((simp -dsimp (disch := omega) only [simx, zzB, tys, ite_self, opnL, callB, callX, readsB, stepOp, nilCmp, ofVal, opBuiltin, opLen, PV.sk, scalBin, scalUn, intBin, opLoad, natOf, opConvert, opField, cellsP, oneP, Value.oneCell', opStore, toIV, scalT, scalA, scalC, boxesA, boxesC, zipB_none, zipB_mx, isZ, opZip, zeroP, opAppendZ, opMakeMap, opLookup, mboxB, opUpdate, ↓reduceIte, Nat.reduceSub, Nat.reduceEqDiff, Nat.reduceAdd, Nat.reduceMul, Nat.reduceLT, Nat.reduceLeDiff, Int.reduceToNat, Int.reduceLE, Int.reduceLT, Int.reduceNeg, reduceCtorEq, gos, Int.reduceAdd, Int.reduceSub, Int.reduceMul, Int.reduceEq]) <;> first | rfl | simp [rowP, rgs])
  · funext c
    simp (maxSteps := 20000000) only [Heap.drop_at, rowH_app, Heap.put_at, Heap.none_at, List.mem_cons, List.not_mem_nil, or_false]
    by_cases e0 : c = (1, 0) :: base
    · subst e0; simp [rgs, trM]
    by_cases e1 : c = (12, 2) :: base
    · subst e1; simp [rgs, trM]
    by_cases e2 : c = (12, 3) :: base
    · subst e2; simp [rgs, trM]
    by_cases e3 : c = (13, 2) :: base
    · subst e3; simp [rgs, trM]
    simp [e0, e1, e2, e3, rgs, trM]
  · omega
  · trivial
  · intro j hj _
    by_cases cj : j < l.length
    · have gl := rgs_len l j
      have rs : rgs l (j + 1) = if (j : Int) ∈ (rgs l j).2 then rgs l j else ((rgs l j).1 ++ [orb l j (ringN l (rgs l j).2 j)], (rgs l j).2 ++ orb l j (ringN l (rgs l j).2 j)) := rfl
      generalize rgs l j = q at gl rs ⊢
      generalize hq' : rgs l (j + 1) = q' at rs
      obtain ⟨out, s⟩ := q
      simp only at gl rs ⊢
      have gm := getM_tr (j : Int) s
      by_cases c1 : (j : Int) ∈ s
      · rw [if_pos c1] at rs gm
        subst rs
        repeat (first | refine X_opc rfl ?_ | refine X_dopc rfl ?_ | refine ⟨(by show drawK _ _ = true; kernel_rfl : drawX _ _ _), ?_⟩ | exact (by show drawK _ _ = true; kernel_rfl : drawX _ _ _) | simp -dsimp (maxSteps := 20000000) (disch := omega) only [simx, zzC, zzB, tys, ite_self, opnL, callB, callX, readsB, stepOp, nilCmp, ofVal, opBuiltin, opLen, PV.sk, scalBin, scalUn, intBin, opLoad, natOf, opConvert, opField, cellsP, oneP, Value.oneCell', opStore, toIV, scalT, scalA, scalC, boxesA, boxesC, zipB_none, zipB_mx, isZ, opZip, zeroP, opAppendZ, opMakeMap, opLookup, mboxB, opUpdate, ↓reduceIte, Nat.reduceSub, Nat.reduceEqDiff, Nat.reduceAdd, Nat.reduceMul, Nat.reduceLT, Nat.reduceLeDiff, Int.reduceToNat, Int.reduceLE, Int.reduceLT, Int.reduceNeg, reduceCtorEq, gos, Int.reduceAdd, Int.reduceSub, Int.reduceMul, Int.reduceEq, cj, gm, Option.getD_some])
        refine ⟨cj, (fgt_cons (by simp only [Heap.none_at]) (by (simp -dsimp only [zzB, tys, ite_self, opnL, callB, callX, readsB, stepOp, nilCmp, ofVal, opBuiltin, opLen, PV.sk, scalBin, scalUn, intBin, opLoad, natOf, opConvert, opField, cellsP, oneP, Value.oneCell', opStore, toIV, scalT, scalA, scalC, boxesA, boxesC, zipB_none, zipB_mx, isZ, opZip, zeroP, opAppendZ, opMakeMap, opLookup, mboxB, opUpdate, ↓reduceIte, Nat.reduceSub, Nat.reduceEqDiff, Nat.reduceAdd, Nat.reduceMul, Nat.reduceLT, Nat.reduceLeDiff, Int.reduceToNat, Int.reduceLE, Int.reduceLT, Int.reduceNeg, reduceCtorEq, notIn_cons, notIn_nil]) <;> simp [refsL, refsP, mem_refs_rowP]) (by repeat (first | exact noVar_none _ | refine noVar_row ?_ | refine noVar_map ?_ | refine noVar_rowH ?_ | refine noVar_var ?_ (by simp [refsL, refsP, mem_refs_rowP]))) (fgt_cons (by simp only [Heap.none_at]) (by (simp -dsimp only [zzB, tys, ite_self, opnL, callB, callX, readsB, stepOp, nilCmp, ofVal, opBuiltin, opLen, PV.sk, scalBin, scalUn, intBin, opLoad, natOf, opConvert, opField, cellsP, oneP, Value.oneCell', opStore, toIV, scalT, scalA, scalC, boxesA, boxesC, zipB_none, zipB_mx, isZ, opZip, zeroP, opAppendZ, opMakeMap, opLookup, mboxB, opUpdate, ↓reduceIte, Nat.reduceSub, Nat.reduceEqDiff, Nat.reduceAdd, Nat.reduceMul, Nat.reduceLT, Nat.reduceLeDiff, Int.reduceToNat, Int.reduceLE, Int.reduceLT, Int.reduceNeg, reduceCtorEq, notIn_cons, notIn_nil]) <;> simp [refsL, refsP, mem_refs_rowP]) (by repeat (first | exact noVar_none _ | refine noVar_row ?_ | refine noVar_map ?_ | refine noVar_rowH ?_ | refine noVar_var ?_ (by simp [refsL, refsP, mem_refs_rowP]))) (fgt_cons (by simp only [Heap.none_at]) (by (simp -dsimp only [zzB, tys, ite_self, opnL, callB, callX, readsB, stepOp, nilCmp, ofVal, opBuiltin, opLen, PV.sk, scalBin, scalUn, intBin, opLoad, natOf, opConvert, opField, cellsP, oneP, Value.oneCell', opStore, toIV, scalT, scalA, scalC, boxesA, boxesC, zipB_none, zipB_mx, isZ, opZip, zeroP, opAppendZ, opMakeMap, opLookup, mboxB, opUpdate, ↓reduceIte, Nat.reduceSub, Nat.reduceEqDiff, Nat.reduceAdd, Nat.reduceMul, Nat.reduceLT, Nat.reduceLeDiff, Int.reduceToNat, Int.reduceLE, Int.reduceLT, Int.reduceNeg, reduceCtorEq, notIn_cons, notIn_nil]) <;> simp [refsL, refsP, mem_refs_rowP]) (by repeat (first | exact noVar_none _ | refine noVar_row ?_ | refine noVar_map ?_ | refine noVar_rowH ?_ | refine noVar_var ?_ (by simp [refsL, refsP, mem_refs_rowP]))) (fgt_nil)))), ⟨?_, rfl⟩, ?_⟩
        · rw [hq']
        · rw [hq']
          funext c
          simp (maxSteps := 20000000) only [Heap.drop_at, rowH_app, Heap.put_at, Heap.none_at, List.mem_cons, List.not_mem_nil, or_false]
          by_cases e0 : c = (1, 0) :: base
          · subst e0; simp []
          by_cases e1 : c = (12, 2) :: base
          · subst e1; simp []
          by_cases e2 : c = (12, 3) :: base
          · subst e2; simp []
          by_cases e3 : c = (13, 2) :: base
          · subst e3; simp []
          by_cases e4 : c = (13, 3) :: base
          · subst e4; simp []
          simp [e0, e1, e2, e3, e4]
      · rw [if_neg c1] at rs gm
        subst rs
        obtain ⟨n1, n2, n3⟩ := ringN_spec o s (a := (j : Int)) (by omega) (by omega)
        generalize ringN l s j = m at n1 n2 n3 hq'
        have it := itn_in o (a := (j : Int)) (by omega) (by omega)
        repeat (first | refine X_opc rfl ?_ | refine X_dopc rfl ?_ | refine ⟨(by show drawK _ _ = true; kernel_rfl : drawX _ _ _), ?_⟩ | exact (by show drawK _ _ = true; kernel_rfl : drawX _ _ _) | simp -dsimp (maxSteps := 20000000) (disch := omega) only [simx, zzC, zzB, tys, ite_self, opnL, callB, callX, readsB, stepOp, nilCmp, ofVal, opBuiltin, opLen, PV.sk, scalBin, scalUn, intBin, opLoad, natOf, opConvert, opField, cellsP, oneP, Value.oneCell', opStore, toIV, scalT, scalA, scalC, boxesA, boxesC, zipB_none, zipB_mx, isZ, opZip, zeroP, opAppendZ, opMakeMap, opLookup, mboxB, opUpdate, ↓reduceIte, Nat.reduceSub, Nat.reduceEqDiff, Nat.reduceAdd, Nat.reduceMul, Nat.reduceLT, Nat.reduceLeDiff, Int.reduceToNat, Int.reduceLE, Int.reduceLT, Int.reduceNeg, reduceCtorEq, gos, Int.reduceAdd, Int.reduceSub, Int.reduceMul, Int.reduceEq, cj, gm, Option.getD_none])
        obtain ⟨J, hJ⟩ : ∃ J : Int, J = (j : Int) := ⟨_, rfl⟩
        rw [← hJ] at n1 n2 it hq' gm ⊢
        refine X_loopH [0, 3, 4, 6, 7, 10, 11] [(12, 2) :: base] (0) (m) (fun j => True) (fun j => [(6, rowP ((12, 3) :: base) 1 j ((orb l J j).map ii)), (7, i64 (itn l J j))]) (fun j => rowH (rowH (Heap.none.put ((1, 0) :: base) (.map .i64 (trM (s ++ orb l J j)))) ((13, 3) :: base) out.length (out.map ivl)) ((12, 3) :: base) j ((orb l J j).map ii)) ?_ ?_ ?_ ?_ ?_ (by decide) ?_
        · exact (fgt_cons (by simp only [Heap.none_at]) (by (simp -dsimp only [zzB, tys, ite_self, opnL, callB, callX, readsB, stepOp, nilCmp, ofVal, opBuiltin, opLen, PV.sk, scalBin, scalUn, intBin, opLoad, natOf, opConvert, opField, cellsP, oneP, Value.oneCell', opStore, toIV, scalT, scalA, scalC, boxesA, boxesC, zipB_none, zipB_mx, isZ, opZip, zeroP, opAppendZ, opMakeMap, opLookup, mboxB, opUpdate, ↓reduceIte, Nat.reduceSub, Nat.reduceEqDiff, Nat.reduceAdd, Nat.reduceMul, Nat.reduceLT, Nat.reduceLeDiff, Int.reduceToNat, Int.reduceLE, Int.reduceLT, Int.reduceNeg, reduceCtorEq, notIn_cons, notIn_nil]) <;> simp [refsL, refsP, mem_refs_rowP]) (by repeat (first | exact noVar_none _ | refine noVar_row ?_ | refine noVar_map ?_ | refine noVar_rowH ?_ | refine noVar_var ?_ (by simp [refsL, refsP, mem_refs_rowP]))) (fgt_nil))
        · ((simp -dsimp (disch := omega) only [simx, zzB, tys, ite_self, opnL, callB, callX, readsB, stepOp, nilCmp, ofVal, opBuiltin, opLen, PV.sk, scalBin, scalUn, intBin, opLoad, natOf, opConvert, opField, cellsP, oneP, Value.oneCell', opStore, toIV, scalT, scalA, scalC, boxesA, boxesC, zipB_none, zipB_mx, isZ, opZip, zeroP, opAppendZ, opMakeMap, opLookup, mboxB, opUpdate, ↓reduceIte, Nat.reduceSub, Nat.reduceEqDiff, Nat.reduceAdd, Nat.reduceMul, Nat.reduceLT, Nat.reduceLeDiff, Int.reduceToNat, Int.reduceLE, Int.reduceLT, Int.reduceNeg, reduceCtorEq, gos, Int.reduceAdd, Int.reduceSub, Int.reduceMul, Int.reduceEq]) <;> first | rfl | simp [rowP, orb, itn])
        · funext c
          simp (maxSteps := 20000000) only [Heap.drop_at, rowH_app, Heap.put_at, Heap.none_at, List.mem_cons, List.not_mem_nil, or_false]
          by_cases e0 : c = (1, 0) :: base
          · subst e0; simp [orb]
          by_cases e1 : c = (12, 2) :: base
          · subst e1; simp [orb]
          by_cases e2 : c = (12, 3) :: base
          · subst e2; simp [orb]
          by_cases e3 : c = (13, 2) :: base
          · subst e3; simp [orb]
          by_cases e4 : c = (13, 3) :: base
          · subst e4; simp [orb]
          simp [e0, e1, e2, e3, e4, orb]
        · omega
        · trivial
        · intro k hk _
          have gk := getM_tr (itn l J k) (s ++ orb l J k)
          by_cases ck : k < m
          · have nk := n2 k ck
            rw [if_neg nk] at gk
            have pk := putM_tr (itn l J k) (s ++ orb l J k) nk
            have os := orb_succ l J k
            rw [List.append_assoc, ← os] at pk
            have ol := orb_len l J k
            obtain ⟨a0, a1⟩ := it k
            have a2 : (itn l J k).toNat < l.length := by omega
            have g2 : l[(itn l J k).toNat]? = some (itn l J (k + 1)) := by
              rw [itn, List.getD_eq_getElem?_getD, List.getElem?_eq_getElem a2]; rfl
            generalize itn l J k = a at gk pk os a0 a2 g2 ⊢
            have a3 : (k + 1) * 8 ≤ 140737488355328 := by omega
            repeat (first | refine X_opc rfl ?_ | refine X_dopc rfl ?_ | refine ⟨(by show drawK _ _ = true; kernel_rfl : drawX _ _ _), ?_⟩ | exact (by show drawK _ _ = true; kernel_rfl : drawX _ _ _) | simp -dsimp (maxSteps := 20000000) (disch := omega) only [simx, zzC, zzB, tys, ite_self, opnL, callB, callX, readsB, stepOp, nilCmp, ofVal, opBuiltin, opLen, PV.sk, scalBin, scalUn, intBin, opLoad, natOf, opConvert, opField, cellsP, oneP, Value.oneCell', opStore, toIV, scalT, scalA, scalC, boxesA, boxesC, zipB_none, zipB_mx, isZ, opZip, zeroP, opAppendZ, opMakeMap, opLookup, mboxB, opUpdate, ↓reduceIte, Nat.reduceSub, Nat.reduceEqDiff, Nat.reduceAdd, Nat.reduceMul, Nat.reduceLT, Nat.reduceLeDiff, Int.reduceToNat, Int.reduceLE, Int.reduceLT, Int.reduceNeg, reduceCtorEq, gos, Int.reduceAdd, Int.reduceSub, Int.reduceMul, Int.reduceEq, gk, pk, Option.getD_none])
            refine X_append_one 3 [.int .i64 0] [ii a] (by simp only [tys]) (by simp only [tys]) rfl (by decide) (by simp [ol]) (by simp [Heap.put_at, Heap.none_at, rowH_app]) (by simp [Heap.put_at, rowH_app]; rfl) rfl (by simp only [tys]; exact a3) (by rw [mx_len]; omega) ?_
            repeat (first | refine X_opc rfl ?_ | refine X_dopc rfl ?_ | refine ⟨(by show drawK _ _ = true; kernel_rfl : drawX _ _ _), ?_⟩ | exact (by show drawK _ _ = true; kernel_rfl : drawX _ _ _) | simp -dsimp (maxSteps := 20000000) (disch := omega) only [simx, zzC, zzB, tys, ite_self, opnL, callB, callX, readsB, stepOp, nilCmp, ofVal, opBuiltin, opLen, PV.sk, scalBin, scalUn, intBin, opLoad, natOf, opConvert, opField, cellsP, oneP, Value.oneCell', opStore, toIV, scalT, scalA, scalC, boxesA, boxesC, zipB_none, zipB_mx, isZ, opZip, zeroP, opAppendZ, opMakeMap, opLookup, mboxB, opUpdate, ↓reduceIte, Nat.reduceSub, Nat.reduceEqDiff, Nat.reduceAdd, Nat.reduceMul, Nat.reduceLT, Nat.reduceLeDiff, Int.reduceToNat, Int.reduceLE, Int.reduceLT, Int.reduceNeg, reduceCtorEq, gos, Int.reduceAdd, Int.reduceSub, Int.reduceMul, Int.reduceEq, a0, a2, g2])
            refine ⟨ck, (fgt_cons (by simp only [Heap.none_at]) (by (simp -dsimp only [zzB, tys, ite_self, opnL, callB, callX, readsB, stepOp, nilCmp, ofVal, opBuiltin, opLen, PV.sk, scalBin, scalUn, intBin, opLoad, natOf, opConvert, opField, cellsP, oneP, Value.oneCell', opStore, toIV, scalT, scalA, scalC, boxesA, boxesC, zipB_none, zipB_mx, isZ, opZip, zeroP, opAppendZ, opMakeMap, opLookup, mboxB, opUpdate, ↓reduceIte, Nat.reduceSub, Nat.reduceEqDiff, Nat.reduceAdd, Nat.reduceMul, Nat.reduceLT, Nat.reduceLeDiff, Int.reduceToNat, Int.reduceLE, Int.reduceLT, Int.reduceNeg, reduceCtorEq, notIn_cons, notIn_nil]) <;> simp [refsL, refsP, mem_refs_rowP]) (by repeat (first | exact noVar_none _ | refine noVar_row ?_ | refine noVar_map ?_ | refine noVar_rowH ?_ | refine noVar_var ?_ (by simp [refsL, refsP, mem_refs_rowP]))) (fgt_nil)), ?_, ?_⟩
            · rw [os]; simp
            · funext c
              simp (maxSteps := 20000000) only [Heap.drop_at, rowH_app, Heap.put_at, Heap.none_at, List.mem_cons, List.not_mem_nil, or_false]
              by_cases e0 : c = (1, 0) :: base
              · subst e0; simp [os]
              by_cases e1 : c = (12, 2) :: base
              · subst e1; simp [os]
              by_cases e2 : c = (12, 3) :: base
              · subst e2; simp [os]
              by_cases e3 : c = (13, 2) :: base
              · subst e3; simp [os]
              by_cases e4 : c = (13, 3) :: base
              · subst e4; simp [os]
              simp [e0, e1, e2, e3, e4, os]
          · have hkm : k = m := by omega
            subst hkm
            rw [if_pos n1] at gk
            have ol := orb_len l J k
            have kp : ∃ q, k = q + 1 := by
              cases k with
              | zero => rw [show itn l J 0 = J from rfl, orb_zero, List.append_nil] at n1; exact absurd n1 (hJ ▸ c1)
              | succ q => exact ⟨q, rfl⟩
            obtain ⟨q, rfl⟩ := kp
            have e2 : ((orb l J (q + 1)).map ii).take (q + 1) = (orb l J (q + 1)).map ii := List.take_of_length_le (by simp [ol])
            repeat (first | refine X_opc rfl ?_ | refine X_dopc rfl ?_ | refine ⟨(by show drawK _ _ = true; kernel_rfl : drawX _ _ _), ?_⟩ | exact (by show drawK _ _ = true; kernel_rfl : drawX _ _ _) | simp -dsimp (maxSteps := 20000000) (disch := omega) only [simx, zzC, zzB, tys, ite_self, opnL, callB, callX, readsB, stepOp, nilCmp, ofVal, opBuiltin, opLen, PV.sk, scalBin, scalUn, intBin, opLoad, natOf, opConvert, opField, cellsP, oneP, Value.oneCell', opStore, toIV, scalT, scalA, scalC, boxesA, boxesC, zipB_none, zipB_mx, isZ, opZip, zeroP, opAppendZ, opMakeMap, opLookup, mboxB, opUpdate, ↓reduceIte, Nat.reduceSub, Nat.reduceEqDiff, Nat.reduceAdd, Nat.reduceMul, Nat.reduceLT, Nat.reduceLeDiff, Int.reduceToNat, Int.reduceLE, Int.reduceLT, Int.reduceNeg, reduceCtorEq, gos, Int.reduceAdd, Int.reduceSub, Int.reduceMul, Int.reduceEq, gk, Option.getD_some, rowP_succ, rowH_succ, List.length_map, ol, e2])
            have e3 : ivl (orb l J (q + 1)) = IV.l (q + 1) ((orb l J (q + 1)).map ii) := by rw [ivl, ol]
            have e4 : (out.length + 1) * 24 ≤ 140737488355328 := by omega
            refine X_append_one 52 [.slice none 0 0] [IV.l (q + 1) ((orb l J (q + 1)).map ii)] (by simp only [tys]) (by simp only [tys]) rfl (by decide) (by simp) (by simp [Heap.put_at, Heap.none_at, rowH_app]) (by simp [Heap.put_at, rowH_app]; rfl) rfl (by simp only [tys]; exact e4) (by rw [mx_len]; omega) ?_
            rw [← e3]
            repeat (first | refine X_opc rfl ?_ | refine X_dopc rfl ?_ | refine ⟨(by show drawK _ _ = true; kernel_rfl : drawX _ _ _), ?_⟩ | exact (by show drawK _ _ = true; kernel_rfl : drawX _ _ _) | simp -dsimp (maxSteps := 20000000) (disch := omega) only [simx, zzC, zzB, tys, ite_self, opnL, callB, callX, readsB, stepOp, nilCmp, ofVal, opBuiltin, opLen, PV.sk, scalBin, scalUn, intBin, opLoad, natOf, opConvert, opField, cellsP, oneP, Value.oneCell', opStore, toIV, scalT, scalA, scalC, boxesA, boxesC, zipB_none, zipB_mx, isZ, opZip, zeroP, opAppendZ, opMakeMap, opLookup, mboxB, opUpdate, ↓reduceIte, Nat.reduceSub, Nat.reduceEqDiff, Nat.reduceAdd, Nat.reduceMul, Nat.reduceLT, Nat.reduceLeDiff, Int.reduceToNat, Int.reduceLE, Int.reduceLT, Int.reduceNeg, reduceCtorEq, gos, Int.reduceAdd, Int.reduceSub, Int.reduceMul, Int.reduceEq, hJ])
            refine ⟨cj, (fgt_cons (by simp only [Heap.none_at]) (by (simp -dsimp only [zzB, tys, ite_self, opnL, callB, callX, readsB, stepOp, nilCmp, ofVal, opBuiltin, opLen, PV.sk, scalBin, scalUn, intBin, opLoad, natOf, opConvert, opField, cellsP, oneP, Value.oneCell', opStore, toIV, scalT, scalA, scalC, boxesA, boxesC, zipB_none, zipB_mx, isZ, opZip, zeroP, opAppendZ, opMakeMap, opLookup, mboxB, opUpdate, ↓reduceIte, Nat.reduceSub, Nat.reduceEqDiff, Nat.reduceAdd, Nat.reduceMul, Nat.reduceLT, Nat.reduceLeDiff, Int.reduceToNat, Int.reduceLE, Int.reduceLT, Int.reduceNeg, reduceCtorEq, notIn_cons, notIn_nil]) <;> simp [refsL, refsP, mem_refs_rowP]) (by repeat (first | exact noVar_none _ | refine noVar_row ?_ | refine noVar_map ?_ | refine noVar_rowH ?_ | refine noVar_var ?_ (by simp [refsL, refsP, mem_refs_rowP]))) (fgt_cons (by simp only [Heap.none_at]) (by (simp -dsimp only [zzB, tys, ite_self, opnL, callB, callX, readsB, stepOp, nilCmp, ofVal, opBuiltin, opLen, PV.sk, scalBin, scalUn, intBin, opLoad, natOf, opConvert, opField, cellsP, oneP, Value.oneCell', opStore, toIV, scalT, scalA, scalC, boxesA, boxesC, zipB_none, zipB_mx, isZ, opZip, zeroP, opAppendZ, opMakeMap, opLookup, mboxB, opUpdate, ↓reduceIte, Nat.reduceSub, Nat.reduceEqDiff, Nat.reduceAdd, Nat.reduceMul, Nat.reduceLT, Nat.reduceLeDiff, Int.reduceToNat, Int.reduceLE, Int.reduceLT, Int.reduceNeg, reduceCtorEq, notIn_cons, notIn_nil]) <;> simp [refsL, refsP, mem_refs_rowP]) (by repeat (first | exact noVar_none _ | refine noVar_row ?_ | refine noVar_map ?_ | refine noVar_rowH ?_ | refine noVar_var ?_ (by simp [refsL, refsP, mem_refs_rowP]))) (fgt_cons (by simp only [Heap.none_at]) (by (simp -dsimp only [zzB, tys, ite_self, opnL, callB, callX, readsB, stepOp, nilCmp, ofVal, opBuiltin, opLen, PV.sk, scalBin, scalUn, intBin, opLoad, natOf, opConvert, opField, cellsP, oneP, Value.oneCell', opStore, toIV, scalT, scalA, scalC, boxesA, boxesC, zipB_none, zipB_mx, isZ, opZip, zeroP, opAppendZ, opMakeMap, opLookup, mboxB, opUpdate, ↓reduceIte, Nat.reduceSub, Nat.reduceEqDiff, Nat.reduceAdd, Nat.reduceMul, Nat.reduceLT, Nat.reduceLeDiff, Int.reduceToNat, Int.reduceLE, Int.reduceLT, Int.reduceNeg, reduceCtorEq, notIn_cons, notIn_nil]) <;> simp [refsL, refsP, mem_refs_rowP]) (by repeat (first | exact noVar_none _ | refine noVar_row ?_ | refine noVar_map ?_ | refine noVar_rowH ?_ | refine noVar_var ?_ (by simp [refsL, refsP, mem_refs_rowP]))) (fgt_nil)))), ⟨?_, rfl⟩, ?_⟩
            · rw [hq', hJ]; simp
            · rw [hq', hJ]
              funext c
              simp (maxSteps := 20000000) only [Heap.drop_at, rowH_app, Heap.put_at, Heap.none_at, List.mem_cons, List.not_mem_nil, or_false]
              by_cases e0 : c = (1, 0) :: base
              · subst e0; simp [List.length_append, List.length_singleton, List.map_append, List.map_cons, List.map_nil]
              by_cases e1 : c = (12, 2) :: base
              · subst e1; simp [List.length_append, List.length_singleton, List.map_append, List.map_cons, List.map_nil]
              by_cases e2 : c = (12, 3) :: base
              · subst e2; simp [List.length_append, List.length_singleton, List.map_append, List.map_cons, List.map_nil]
              by_cases e3 : c = (13, 2) :: base
              · subst e3; simp [List.length_append, List.length_singleton, List.map_append, List.map_cons, List.map_nil]
              by_cases e4 : c = (13, 3) :: base
              · subst e4; simp [List.length_append, List.length_singleton, List.map_append, List.map_cons, List.map_nil]
              simp [e0, e1, e2, e3, e4, List.length_append, List.length_singleton, List.map_append, List.map_cons, List.map_nil]
    · have hj : j = l.length := by omega
      subst hj
      generalize (rgs l l.length).2 = s
      generalize (rgs l l.length).1 = out
      cases out with
      | nil =>
        repeat (first | refine X_opc rfl ?_ | refine X_dopc rfl ?_ | refine ⟨(by show drawK _ _ = true; kernel_rfl : drawX _ _ _), ?_⟩ | exact (by show drawK _ _ = true; kernel_rfl : drawX _ _ _) | simp -dsimp (maxSteps := 20000000) (disch := omega) only [simx, zzC, zzB, tys, ite_self, opnL, callB, callX, readsB, stepOp, nilCmp, ofVal, opBuiltin, opLen, PV.sk, scalBin, scalUn, intBin, opLoad, natOf, opConvert, opField, cellsP, oneP, Value.oneCell', opStore, toIV, scalT, scalA, scalC, boxesA, boxesC, zipB_none, zipB_mx, isZ, opZip, zeroP, opAppendZ, opMakeMap, opLookup, mboxB, opUpdate, ↓reduceIte, Nat.reduceSub, Nat.reduceEqDiff, Nat.reduceAdd, Nat.reduceMul, Nat.reduceLT, Nat.reduceLeDiff, Int.reduceToNat, Int.reduceLE, Int.reduceLT, Int.reduceNeg, reduceCtorEq, zzR, gos, Int.reduceAdd, Int.reduceSub, Int.reduceMul, Int.reduceEq, rowP_zero])
        rfl
      | cons r out =>
        have e1 : (r :: out).length = out.length + 1 := rfl
        have e2 : ((r :: out).map ivl).take (out.length + 1) = (r :: out).map ivl := List.take_of_length_le (by simp)
        have e3 : ((r :: out).map ivl).length = out.length + 1 := by simp
        rw [lli, e1]
        generalize (r :: out).map ivl = cs at e2 e3 ⊢
        repeat (first | refine X_opc rfl ?_ | refine X_dopc rfl ?_ | refine ⟨(by show drawK _ _ = true; kernel_rfl : drawX _ _ _), ?_⟩ | exact (by show drawK _ _ = true; kernel_rfl : drawX _ _ _) | simp -dsimp (maxSteps := 20000000) (disch := omega) only [simx, zzC, zzB, tys, ite_self, opnL, callB, callX, readsB, stepOp, nilCmp, ofVal, opBuiltin, opLen, PV.sk, scalBin, scalUn, intBin, opLoad, natOf, opConvert, opField, cellsP, oneP, Value.oneCell', opStore, toIV, scalT, scalA, scalC, boxesA, boxesC, zipB_none, zipB_mx, isZ, opZip, zeroP, opAppendZ, opMakeMap, opLookup, mboxB, opUpdate, ↓reduceIte, Nat.reduceSub, Nat.reduceEqDiff, Nat.reduceAdd, Nat.reduceMul, Nat.reduceLT, Nat.reduceLeDiff, Int.reduceToNat, Int.reduceLE, Int.reduceLT, Int.reduceNeg, reduceCtorEq, zzR, gos, Int.reduceAdd, Int.reduceSub, Int.reduceMul, Int.reduceEq, rowP_succ, rowH_succ, e2, e3])
end Go.Proofs.Ytmalpmnmknpphaa.TM
namespace Go.Proofs.Ytmalpmnmknpphaa.TM
open Go Go.RowKit
attribute [local irreducible] K W WOps Effs Xg Xo Xr Xdg Xdo Xdr Xif CallsP CallR
def sgnP (x : List (List Int)) : Nat → Int
  | 0 => 1
  | j + 1 => if (x.getD j []).length % 2 = 0 then - sgnP x j else sgnP x j
theorem sgnP_one (x : List (List Int)) : ∀ j, sgnP x j = 1 ∨ sgnP x j = -1
  | 0 => .inl rfl
  | j + 1 => by
    rw [sgnP]
    rcases sgnP_one x j with h | h <;> rw [h] <;> split <;> simp
def sgnR (l : List Int) : Int := sgnP (ringsI l) (ringsI l).length
def signR (l : List Int) : Int × Int := if orderB l then (sgnR l, 0) else (0, 1)
theorem sign_walk (l : List Int) (hl : l.length ≤ maxLen) : CallsP Try.prog 80 [li l] (.tup [i64 (signR l).1, i64 (signR l).2]) := by
  have q1 := pright_walk l hl
  unfold signR
  cases h1 : orderB l with
  | false =>
    rw [h1] at q1
    refine X_startP (n := 25) (m := 1) (rs := [.tmp 2, .tmp 3]) Try.func80 rfl rfl rfl rfl (by decide) fun base => ?_
    repeat (first | ((first | refine X_call_fn2 rfl (by simp only [tys]) ?_ | refine X_dcall_fn2 rfl (by simp only [tys]) ?_); apply Exists.intro; apply And.intro; (focus (simp -dsimp only [simx, zzC, zzB, tys, ite_self, opnL, callB, callX, readsB, stepOp, nilCmp, ofVal, opBuiltin, opLen, PV.sk, scalBin, scalUn, intBin, opLoad, natOf, opConvert, opField, cellsP, oneP, Value.oneCell', opStore, toIV, scalT, scalA, scalC, boxesA, boxesC, zipB_none, zipB_mx, isZ, opZip, zeroP, opAppendZ, opMakeMap, opLookup, mboxB, opUpdate, ↓reduceIte, Nat.reduceSub, Nat.reduceEqDiff, Nat.reduceAdd, Nat.reduceMul, Nat.reduceLT, Nat.reduceLeDiff, Int.reduceToNat, Int.reduceLE, Int.reduceLT, Int.reduceNeg, reduceCtorEq, zzL, if_true, if_false] <;> rfl)); apply Exists.intro; apply And.intro; (focus (first | exact q1))) | refine X_opc rfl ?_ | refine X_dopc rfl ?_ | refine ⟨(by show drawK _ _ = true; kernel_rfl : drawX _ _ _), ?_⟩ | exact (by show drawK _ _ = true; kernel_rfl : drawX _ _ _) | simp -dsimp (maxSteps := 20000000) (disch := omega) only [simx, zzC, zzB, tys, ite_self, opnL, callB, callX, readsB, stepOp, nilCmp, ofVal, opBuiltin, opLen, PV.sk, scalBin, scalUn, intBin, opLoad, natOf, opConvert, opField, cellsP, oneP, Value.oneCell', opStore, toIV, scalT, scalA, scalC, boxesA, boxesC, zipB_none, zipB_mx, isZ, opZip, zeroP, opAppendZ, opMakeMap, opLookup, mboxB, opUpdate, ↓reduceIte, Nat.reduceSub, Nat.reduceEqDiff, Nat.reduceAdd, Nat.reduceMul, Nat.reduceLT, Nat.reduceLeDiff, Int.reduceToNat, Int.reduceLE, Int.reduceLT, Int.reduceNeg, reduceCtorEq, zzR, gos, Int.reduceAdd, Int.reduceSub, Int.reduceMul, Int.reduceEq])
  | true =>
    rw [h1] at q1
    have o := (orderB_iff l).1 h1
    have d := rings_walk l o
    have rl : (ringsI l).length ≤ 64 := Nat.le_trans (rgs_len l l.length) o.le
    have rm : ∀ r ∈ ringsI l, True := fun _ _ => trivial
    simp only [if_true]
    unfold sgnR
    generalize ringsI l = x at d rl ⊢
    refine X_startP (n := 25) (m := 1) (rs := [.tmp 2, .tmp 3]) Try.func80 rfl rfl rfl rfl (by decide) fun base => ?_
    repeat (first | ((first | refine X_call_fn2 rfl (by simp only [tys]) ?_ | refine X_dcall_fn2 rfl (by simp only [tys]) ?_); apply Exists.intro; apply And.intro; (focus (simp -dsimp only [simx, zzC, zzB, tys, ite_self, opnL, callB, callX, readsB, stepOp, nilCmp, ofVal, opBuiltin, opLen, PV.sk, scalBin, scalUn, intBin, opLoad, natOf, opConvert, opField, cellsP, oneP, Value.oneCell', opStore, toIV, scalT, scalA, scalC, boxesA, boxesC, zipB_none, zipB_mx, isZ, opZip, zeroP, opAppendZ, opMakeMap, opLookup, mboxB, opUpdate, ↓reduceIte, Nat.reduceSub, Nat.reduceEqDiff, Nat.reduceAdd, Nat.reduceMul, Nat.reduceLT, Nat.reduceLeDiff, Int.reduceToNat, Int.reduceLE, Int.reduceLT, Int.reduceNeg, reduceCtorEq, zzL, if_true, if_false] <;> rfl)); apply Exists.intro; apply And.intro; (focus (first | exact q1 | exact d))) | refine X_opc rfl ?_ | refine X_dopc rfl ?_ | refine ⟨(by show drawK _ _ = true; kernel_rfl : drawX _ _ _), ?_⟩ | exact (by show drawK _ _ = true; kernel_rfl : drawX _ _ _) | simp -dsimp (maxSteps := 20000000) (disch := omega) only [simx, zzC, zzB, tys, ite_self, opnL, callB, callX, readsB, stepOp, nilCmp, ofVal, opBuiltin, opLen, PV.sk, scalBin, scalUn, intBin, opLoad, natOf, opConvert, opField, cellsP, oneP, Value.oneCell', opStore, toIV, scalT, scalA, scalC, boxesA, boxesC, zipB_none, zipB_mx, isZ, opZip, zeroP, opAppendZ, opMakeMap, opLookup, mboxB, opUpdate, ↓reduceIte, Nat.reduceSub, Nat.reduceEqDiff, Nat.reduceAdd, Nat.reduceMul, Nat.reduceLT, Nat.reduceLeDiff, Int.reduceToNat, Int.reduceLE, Int.reduceLT, Int.reduceNeg, reduceCtorEq, gos, Int.reduceAdd, Int.reduceSub, Int.reduceMul, Int.reduceEq])
    refine X_loopH [4, 11, 12, 13] [] (0) (x.length) (fun j => True) (fun j => [(4, i64 (sgnP x j)), (13, i64 j)]) (fun j => Heap.none) ?_ ?_ ?_ ?_ ?_ (by decide) ?_
    · exact (fgt_nil)
    · ((simp -dsimp (disch := omega) only [simx, zzB, tys, ite_self, opnL, callB, callX, readsB, stepOp, nilCmp, ofVal, opBuiltin, opLen, PV.sk, scalBin, scalUn, intBin, opLoad, natOf, opConvert, opField, cellsP, oneP, Value.oneCell', opStore, toIV, scalT, scalA, scalC, boxesA, boxesC, zipB_none, zipB_mx, isZ, opZip, zeroP, opAppendZ, opMakeMap, opLookup, mboxB, opUpdate, ↓reduceIte, Nat.reduceSub, Nat.reduceEqDiff, Nat.reduceAdd, Nat.reduceMul, Nat.reduceLT, Nat.reduceLeDiff, Int.reduceToNat, Int.reduceLE, Int.reduceLT, Int.reduceNeg, reduceCtorEq, gos, Int.reduceAdd, Int.reduceSub, Int.reduceMul, Int.reduceEq]) <;> first | rfl | simp [sgnP])
    · exact drop_nil _
    · omega
    · trivial
    · intro j hj _
      by_cases cj : j < x.length
      · have g1 : x[j]? = some x[j] := List.getElem?_eq_getElem cj
        have sg : sgnP x (j + 1) = if (x.getD j []).length % 2 = 0 then - sgnP x j else sgnP x j := rfl
        rw [List.getD_eq_getElem?_getD, g1, Option.getD_some] at sg
        have s1 := sgnP_one x j
        generalize x[j] = r at g1 sg
        have e1 : Int.tmod (r.length : Int) 2 = ((r.length % 2 : Nat) : Int) := rfl
        by_cases c : r.length % 2 = 0
        · rw [if_pos c] at sg
          have e2 : IntKind.i64.wrap (0 - sgnP x j) = - sgnP x j := by
            rw [iw_of (by omega) (by omega)]; omega
          have e3 : ((r.length % 2 : Nat) : Int) = 0 := by omega
          repeat (first | refine X_opc rfl ?_ | refine X_dopc rfl ?_ | refine ⟨(by show drawK _ _ = true; kernel_rfl : drawX _ _ _), ?_⟩ | exact (by show drawK _ _ = true; kernel_rfl : drawX _ _ _) | simp -dsimp (maxSteps := 20000000) (disch := omega) only [simx, zzC, zzB, tys, ite_self, opnL, callB, callX, readsB, stepOp, nilCmp, ofVal, opBuiltin, opLen, PV.sk, scalBin, scalUn, intBin, opLoad, natOf, opConvert, opField, cellsP, oneP, Value.oneCell', opStore, toIV, scalT, scalA, scalC, boxesA, boxesC, zipB_none, zipB_mx, isZ, opZip, zeroP, opAppendZ, opMakeMap, opLookup, mboxB, opUpdate, ↓reduceIte, Nat.reduceSub, Nat.reduceEqDiff, Nat.reduceAdd, Nat.reduceMul, Nat.reduceLT, Nat.reduceLeDiff, Int.reduceToNat, Int.reduceLE, Int.reduceLT, Int.reduceNeg, reduceCtorEq, gos, Int.reduceAdd, Int.reduceSub, Int.reduceMul, Int.reduceEq, cj, g1, ivl, e1, e3, e2])
          refine ⟨cj, (fgt_nil), ⟨?_, rfl⟩, drop_nil _⟩
          rw [sg]
        · rw [if_neg c] at sg
          have e3 : ¬ ((r.length % 2 : Nat) : Int) = 0 := by omega
          repeat (first | refine X_opc rfl ?_ | refine X_dopc rfl ?_ | refine ⟨(by show drawK _ _ = true; kernel_rfl : drawX _ _ _), ?_⟩ | exact (by show drawK _ _ = true; kernel_rfl : drawX _ _ _) | simp -dsimp (maxSteps := 20000000) (disch := omega) only [simx, zzC, zzB, tys, ite_self, opnL, callB, callX, readsB, stepOp, nilCmp, ofVal, opBuiltin, opLen, PV.sk, scalBin, scalUn, intBin, opLoad, natOf, opConvert, opField, cellsP, oneP, Value.oneCell', opStore, toIV, scalT, scalA, scalC, boxesA, boxesC, zipB_none, zipB_mx, isZ, opZip, zeroP, opAppendZ, opMakeMap, opLookup, mboxB, opUpdate, ↓reduceIte, Nat.reduceSub, Nat.reduceEqDiff, Nat.reduceAdd, Nat.reduceMul, Nat.reduceLT, Nat.reduceLeDiff, Int.reduceToNat, Int.reduceLE, Int.reduceLT, Int.reduceNeg, reduceCtorEq, gos, Int.reduceAdd, Int.reduceSub, Int.reduceMul, Int.reduceEq, cj, g1, ivl, e1, e3])
          refine ⟨cj, (fgt_nil), ⟨?_, rfl⟩, drop_nil _⟩
          rw [sg]
      · have hj : j = x.length := by omega
        subst hj
        repeat (first | refine X_opc rfl ?_ | refine X_dopc rfl ?_ | refine ⟨(by show drawK _ _ = true; kernel_rfl : drawX _ _ _), ?_⟩ | exact (by show drawK _ _ = true; kernel_rfl : drawX _ _ _) | simp -dsimp (maxSteps := 20000000) (disch := omega) only [simx, zzC, zzB, tys, ite_self, opnL, callB, callX, readsB, stepOp, nilCmp, ofVal, opBuiltin, opLen, PV.sk, scalBin, scalUn, intBin, opLoad, natOf, opConvert, opField, cellsP, oneP, Value.oneCell', opStore, toIV, scalT, scalA, scalC, boxesA, boxesC, zipB_none, zipB_mx, isZ, opZip, zeroP, opAppendZ, opMakeMap, opLookup, mboxB, opUpdate, ↓reduceIte, Nat.reduceSub, Nat.reduceEqDiff, Nat.reduceAdd, Nat.reduceMul, Nat.reduceLT, Nat.reduceLeDiff, Int.reduceToNat, Int.reduceLE, Int.reduceLT, Int.reduceNeg, reduceCtorEq, zzR, gos, Int.reduceAdd, Int.reduceSub, Int.reduceMul, Int.reduceEq])
end Go.Proofs.Ytmalpmnmknpphaa.TM
namespace Go.Proofs.Ytmalpmnmknpphaa.TM
open Go Go.RowKit
def nx (l : List Int) (a : Int) : Int := l.getD a.toNat 0
theorem itn_nx (l : List Int) (a : Int) (k : Nat) : itn l a (k + 1) = nx l (itn l a k) := rfl
theorem nx_inj {l : List Int} (o : Ord l) {a b : Int} (ha : 0 ≤ a ∧ a < l.length) (hb : 0 ≤ b ∧ b < l.length) (h : nx l a = nx l b) : a = b := by
  have h1 : a.toNat < l.length := by omega
  have h2 : b.toNat < l.length := by omega
  unfold nx at h
  rw [List.getD_eq_getElem?_getD, List.getD_eq_getElem?_getD, List.getElem?_eq_getElem h1, List.getElem?_eq_getElem h2] at h
  simp only [Option.getD_some] at h
  have hp := List.pairwise_iff_getElem.1 o.nd
  rcases Nat.lt_trichotomy a.toNat b.toNat with c | c | c
  · exact absurd h (hp _ _ h1 h2 c)
  · omega
  · exact absurd h.symm (hp _ _ h2 h1 c)
def Cl (l s : List Int) : Prop := ∀ a : Int, 0 ≤ a → a < l.length → (a ∈ s ↔ nx l a ∈ s)
theorem orb_mem {l : List Int} {a x : Int} {k : Nat} : x ∈ orb l a k ↔ ∃ i, i < k ∧ itn l a i = x := by
  unfold orb
  rw [List.mem_map]
  constructor
  · rintro ⟨i, hi, e⟩; exact ⟨i, List.mem_range.1 hi, e⟩
  · rintro ⟨i, hi, e⟩; exact ⟨i, List.mem_range.2 hi, e⟩
theorem ring_back {l s : List Int} (o : Ord l) (hc : Cl l s) {J : Int} (h0 : 0 ≤ J) (h1 : J < l.length) (hJ : J ∉ s) {m : Nat} (n1 : itn l J m ∈ s ++ orb l J m) (n2 : ∀ i, i < m → itn l J i ∉ s ++ orb l J i) : 0 < m ∧ itn l J m = J := by
  have it := itn_in o h0 h1
  cases m with
  | zero =>
    rw [orb_zero, List.append_nil] at n1
    exact absurd n1 hJ
  | succ q =>
    refine ⟨by omega, ?_⟩
    have hq := n2 q (by omega)
    rcases List.mem_append.1 n1 with h | h
    · rw [itn_nx] at h
      exact absurd (List.mem_append.2 (.inl ((hc _ (it q).1 (it q).2).2 h))) hq
    · obtain ⟨i, hi, e⟩ := orb_mem.1 h
      cases i with
      | zero => exact e.symm
      | succ i =>
        rw [itn_nx, itn_nx] at e
        have := nx_inj o (it i) (it q) e
        exact absurd (List.mem_append.2 (.inr (orb_mem.2 ⟨i, by omega, this⟩))) hq
theorem cl_next {l s : List Int} (o : Ord l) (hc : Cl l s) {J : Int} (h0 : 0 ≤ J) (h1 : J < l.length) {m : Nat} (hm : 0 < m) (hb : itn l J m = J) : Cl l (s ++ orb l J m) := by
  have it := itn_in o h0 h1
  intro a a0 a1
  rw [List.mem_append, List.mem_append, hc a a0 a1]
  refine or_congr Iff.rfl ?_
  rw [orb_mem, orb_mem]
  constructor
  · rintro ⟨i, hi, rfl⟩
    by_cases c : i + 1 < m
    · exact ⟨i + 1, c, itn_nx _ _ _⟩
    · have : i + 1 = m := by omega
      refine ⟨0, hm, ?_⟩
      rw [← itn_nx, this, hb]; rfl
  · rintro ⟨i, hi, e⟩
    cases i with
    | zero =>
      obtain ⟨q, rfl⟩ : ∃ q, m = q + 1 := ⟨m - 1, by omega⟩
      refine ⟨q, by omega, ?_⟩
      refine nx_inj o (it q) ⟨a0, a1⟩ ?_
      rw [← itn_nx, hb, ← e]; rfl
    | succ i =>
      rw [itn_nx] at e
      exact ⟨i, by omega, nx_inj o (it i) ⟨a0, a1⟩ e⟩
end Go.Proofs.Ytmalpmnmknpphaa.TM
namespace Go.Proofs.Ytmalpmnmknpphaa.TM
open Go Go.RowKit
theorem sw_comm (a b : Nat) (f : Nat → Int) : sw a b f = sw b a f := by
  funext i
  unfold sw
  by_cases c1 : i = a
  · by_cases c2 : i = b
    · rw [if_pos c1, if_pos c2, ← c1, ← c2]
    · rw [if_pos c1, if_neg c2, if_pos c1]
  · by_cases c2 : i = b
    · rw [if_neg c1, if_pos c2, if_pos c2]
    · rw [if_neg c1, if_neg c2, if_neg c2, if_neg c1]
theorem sgnI_swap {a b n : Nat} {f : Nat → Int} (h : InjN f n) (ha : a < n) (hb : b < n) (hab : a ≠ b) : sgnI (sw a b f) n = - sgnI f n := by
  rcases Nat.lt_or_gt_of_ne hab with c | c
  · obtain ⟨d, rfl⟩ : ∃ d, b = a + 1 + d := ⟨b - (a + 1), by omega⟩
    exact sgnI_sw d a n f h hb
  · obtain ⟨d, rfl⟩ : ∃ d, a = b + 1 + d := ⟨a - (b + 1), by omega⟩
    rw [sw_comm]
    exact sgnI_sw d b n f h ha
def put1 (l s : List Int) : Nat → Int := fun i => if (i : Int) ∈ s then l.getD i 0 else i
def ringG (l s : List Int) (J : Int) (k : Nat) : Nat → Int := fun i => if (i : Int) ∈ s ++ orb l J k then l.getD i 0 else if (i : Int) = itn l J k then J else i
theorem put1_inj {l s : List Int} (o : Ord l) (hc : Cl l s) : InjN (put1 l s) l.length := by
  intro i j hi hj he
  unfold put1 at he
  have e1 : l.getD i 0 = nx l (i : Int) := rfl
  have e2 : l.getD j 0 = nx l (j : Int) := rfl
  by_cases c1 : (i : Int) ∈ s
  · by_cases c2 : (j : Int) ∈ s
    · rw [if_pos c1, if_pos c2, e1, e2] at he
      have := nx_inj o (a := (i : Int)) (b := (j : Int)) (by omega) (by omega) he
      omega
    · rw [if_pos c1, if_neg c2, e1] at he
      have := (hc (i : Int) (by omega) (by omega)).1 c1
      rw [he] at this
      exact absurd this c2
  · by_cases c2 : (j : Int) ∈ s
    · rw [if_neg c1, if_pos c2, e2] at he
      have := (hc (j : Int) (by omega) (by omega)).1 c2
      rw [← he] at this
      exact absurd this c1
    · rw [if_neg c1, if_neg c2] at he
      omega
theorem ringG_zero {l s : List Int} {J : Int} : ringG l s J 0 = put1 l s := by
  funext i
  unfold ringG put1
  rw [orb_zero, List.append_nil]
  by_cases c1 : (i : Int) ∈ s
  · rw [if_pos c1, if_pos c1]
  · rw [if_neg c1, if_neg c1]
    by_cases c2 : (i : Int) = itn l J 0
    · rw [if_pos c2, c2]; rfl
    · rw [if_neg c2]
theorem ringG_succ {l s : List Int} (o : Ord l) {J : Int} (h0 : 0 ≤ J) (h1 : J < l.length) {k : Nat} (n1 : itn l J k ∉ s ++ orb l J k) (n2 : itn l J (k + 1) ∉ s ++ orb l J (k + 1)) :
    ringG l s J (k + 1) = sw (itn l J k).toNat (itn l J (k + 1)).toNat (ringG l s J k) := by
  have it := itn_in o h0 h1
  have a0 := (it k).1
  have b0 := (it (k + 1)).1
  have n3 : itn l J (k + 1) ∉ s ++ orb l J k := fun h => n2 (by
    rw [orb_succ, ← List.append_assoc]; exact List.mem_append.2 (.inl h))
  have n4 : itn l J (k + 1) ≠ itn l J k := fun h => n2 (by
    rw [orb_succ, ← List.append_assoc]; exact List.mem_append.2 (.inr (by simp [h])))
  have mem : ∀ x : Int, x ∈ s ++ orb l J (k + 1) ↔ x ∈ s ++ orb l J k ∨ x = itn l J k := fun x => by
    rw [orb_succ, ← List.append_assoc, List.mem_append, List.mem_singleton]
  funext i
  by_cases c1 : (i : Int) = itn l J k
  · have hi : i = (itn l J k).toNat := by omega
    have hb : ((itn l J (k + 1)).toNat : Int) = itn l J (k + 1) := by omega
    rw [← hi, sw_a]
    unfold ringG
    rw [if_pos ((mem _).2 (.inr c1)), hb, if_neg n3, if_neg n4, itn_nx, nx, ← hi]
  · by_cases c2 : (i : Int) = itn l J (k + 1)
    · have hi : i = (itn l J (k + 1)).toNat := by omega
      have ha : ((itn l J k).toNat : Int) = itn l J k := by omega
      rw [← hi, sw_b]
      unfold ringG
      rw [ha, if_neg n1, if_pos rfl, c2, if_neg n2, if_pos rfl]
    · rw [sw_o _ (by omega) (by omega)]
      unfold ringG
      rw [if_neg c1, if_neg c2]
      by_cases c3 : (i : Int) ∈ s ++ orb l J k
      · rw [if_pos c3, if_pos ((mem _).2 (.inl c3))]
      · rw [if_neg c3, if_neg fun h => ((mem _).1 h).elim c3 c1]
theorem ringG_last {l s : List Int} {J : Int} (h0 : 0 ≤ J) {q : Nat} (hq : 0 ≤ itn l J q) (hb : itn l J (q + 1) = J) : ringG l s J q = put1 l (s ++ orb l J (q + 1)) := by
  funext i
  unfold ringG put1
  have mem : ∀ x : Int, x ∈ s ++ orb l J (q + 1) ↔ x ∈ s ++ orb l J q ∨ x = itn l J q := fun x => by
    rw [orb_succ, ← List.append_assoc, List.mem_append, List.mem_singleton]
  by_cases c1 : (i : Int) ∈ s ++ orb l J q
  · rw [if_pos c1, if_pos ((mem _).2 (.inl c1))]
  · by_cases c2 : (i : Int) = itn l J q
    · rw [if_neg c1, if_pos c2, if_pos ((mem _).2 (.inr c2)), ← hb, itn_nx, nx, ← c2]; rfl
    · rw [if_neg c1, if_neg c2, if_neg fun h => ((mem _).1 h).elim c1 c2]
def alt : Nat → Int
  | 0 => 1
  | k + 1 => - alt k
theorem ringG_sgn {l s : List Int} (o : Ord l) (hc : Cl l s) {J : Int} (h0 : 0 ≤ J) (h1 : J < l.length) : ∀ k, (∀ i, i ≤ k → itn l J i ∉ s ++ orb l J i) →
    InjN (ringG l s J k) l.length ∧ sgnI (ringG l s J k) l.length = alt k * sgnI (put1 l s) l.length
  | 0, _ => by rw [ringG_zero]; exact ⟨put1_inj o hc, by simp [alt]⟩
  | k + 1, h => by
    have it := itn_in o h0 h1
    obtain ⟨i1, i2⟩ := ringG_sgn o hc h0 h1 k fun i hi => h i (by omega)
    have a := it k
    have b := it (k + 1)
    have n4 : itn l J (k + 1) ≠ itn l J k := fun e => h (k + 1) (Nat.le_refl _) (by
      rw [orb_succ, ← List.append_assoc]; exact List.mem_append.2 (.inr (by simp [e])))
    rw [ringG_succ o h0 h1 (h k (by omega)) (h (k + 1) (Nat.le_refl _))]
    refine ⟨i1.sw (by omega) (by omega), ?_⟩
    rw [sgnI_swap i1 (by omega) (by omega) (by omega), i2, alt, Int.neg_mul]
end Go.Proofs.Ytmalpmnmknpphaa.TM
namespace Go.Proofs.Ytmalpmnmknpphaa.TM
open Go Go.RowKit
theorem sgnP_app (x y : List (List Int)) : ∀ k, k ≤ x.length → sgnP (x ++ y) k = sgnP x k
  | 0, _ => rfl
  | k + 1, h => by
    rw [sgnP, sgnP, sgnP_app x y k (by omega), List.getD_eq_getElem?_getD, List.getElem?_append_left (by omega), ← List.getD_eq_getElem?_getD]
theorem alt_eq : ∀ q, alt q = if (q + 1) % 2 = 0 then -1 else 1
  | 0 => rfl
  | q + 1 => by
    rw [alt, alt_eq q]
    by_cases c : (q + 1) % 2 = 0
    · rw [if_pos c, if_neg (by omega)]; rfl
    · rw [if_neg c, if_pos (by omega)]
theorem rgs_sgn {l : List Int} (o : Ord l) : ∀ j, j ≤ l.length → Cl l (rgs l j).2 ∧ (∀ i : Nat, i < j → (i : Int) ∈ (rgs l j).2) ∧ sgnP (rgs l j).1 (rgs l j).1.length = sgnI (put1 l (rgs l j).2) l.length
  | 0, _ => ⟨fun a _ _ => by simp [rgs], fun i hi => by omega, by
      rw [sgnI_congr (f := put1 l (rgs l 0).2) (g := fun i => (i : Int)) (fun i _ => by simp [put1, rgs]), sgnI_id]; rfl⟩
  | j + 1, hj => by
    obtain ⟨h1, h2, h3⟩ := rgs_sgn o j (by omega)
    rw [rgs]
    generalize rgs l j = p at h1 h2 h3 ⊢
    obtain ⟨out, s⟩ := p
    simp only at h1 h2 h3 ⊢
    by_cases c : (j : Int) ∈ s
    · rw [if_pos c]
      refine ⟨h1, fun i hi => ?_, h3⟩
      by_cases e : i = j
      · subst e; exact c
      · exact h2 i (by omega)
    · rw [if_neg c]
      have j0 : (0 : Int) ≤ j := by omega
      have j1 : (j : Int) < l.length := by omega
      obtain ⟨n1, n2, n3⟩ := ringN_spec o s j0 j1
      generalize ringN l s j = m at n1 n2 n3 ⊢
      obtain ⟨m0, mb⟩ := ring_back o h1 j0 j1 c n1 n2
      obtain ⟨q, rfl⟩ : ∃ q, m = q + 1 := ⟨m - 1, by omega⟩
      have cl := cl_next o h1 j0 j1 m0 mb
      refine ⟨cl, fun i hi => ?_, ?_⟩
      · by_cases e : i = j
        · subst e; exact List.mem_append.2 (.inr (orb_mem.2 ⟨0, by omega, rfl⟩))
        · exact List.mem_append.2 (.inl (h2 i (by omega)))
      · have g := (ringG_sgn o h1 j0 j1 q fun i hi => n2 i (by omega)).2
        rw [ringG_last j0 (itn_in o j0 j1 q).1 mb] at g
        rw [g, List.length_append, List.length_singleton, sgnP, sgnP_app _ _ _ (Nat.le_refl _), h3, List.getD_eq_getElem?_getD, List.getElem?_append_right (Nat.le_refl _), Nat.sub_self]
        simp only [List.getElem?_cons_zero, Option.getD_some, orb_len]
        rw [alt_eq]
        by_cases e : (q + 1) % 2 = 0
        · rw [if_pos e, if_pos e]; omega
        · rw [if_neg e, if_neg e]; omega
def fnI (l : List Int) : Nat → Int := fun i => l.getD i 0
theorem sgnR_eq {l : List Int} (o : Ord l) : sgnR l = sgnI (fnI l) l.length := by
  obtain ⟨_, h2, h3⟩ := rgs_sgn o l.length (Nat.le_refl _)
  unfold sgnR ringsI
  rw [h3]
  exact sgnI_congr fun i hi => by unfold put1; rw [if_pos (h2 i hi)]; rfl
end Go.Proofs.Ytmalpmnmknpphaa.TM
namespace Go.Proofs.Ytmalpmnmknpphaa.TM
open Go Go.RowKit
theorem ord_tbl {n : Nat} {f : Nat → Int} (h1 : 1 ≤ n) (h2 : n ≤ 64) (hi : InjN f n) (hr : InN f n) : Ord (tbl n f) := by
  refine ⟨by rw [tbl_len]; exact h1, by rw [tbl_len]; exact h2, fun a ha => ?_, tbl_nodup hi⟩
  obtain ⟨i, hlt, rfl⟩ := tbl_mem ha
  rw [tbl_len]
  exact hr i hlt
theorem sgn_tbl {n : Nat} {f : Nat → Int} (o : Ord (tbl n f)) : sgnR (tbl n f) = sgnI f n := by
  rw [sgnR_eq o, tbl_len]
  exact sgnI_congr fun i hi => tbl_getD f hi
theorem sgnI_one (f : Nat → Int) : ∀ n, sgnI f n = 1 ∨ sgnI f n = -1
  | 0 => .inl rfl
  | n + 1 => by
    have key : ∀ (y : Int) (k : Nat), colP f y k = 1 ∨ colP f y k = -1 := fun y k => by
      induction k with
      | zero => exact .inl rfl
      | succ k ih =>
        rw [colP, eps]
        rcases ih with h | h <;> rw [h] <;> split <;> simp
    rw [sgnI]
    rcases sgnI_one f n with h | h <;> rcases key (f n) n with e | e <;> rw [h, e] <;> simp
end Go.Proofs.Ytmalpmnmknpphaa.TM
namespace Go.Proofs.Ytmalpmnmknpphaa.TM
open Go Go.RowKit
def idX : Mx := fun i j => if j = i then 1 else 0
def pmX (f : Nat → Int) : Mx := fun i j => if (j : Int) = f i then 1 else 0
def prodN : Nat → (Nat → Int) → Int
  | 0, _ => 1
  | n + 1, f => prodN n f * f n
theorem em_refl {p a : Int} : a % p % p = a % p := Int.emod_emod_of_dvd _ (Int.dvd_refl _)
theorem Alt.perm {p : Int} {n : Nat} {F : Mx → Int} (H : Alt p n F) : ∀ (m : Nat) (f : Nat → Int), m ≤ n → InjN f n → InN f n → (∀ i, m ≤ i → i < n → f i = i) → F (pmX f) % p = sgnI f n * F idX % p
  | 0, f, _, _, _, hf => by
    rw [sgnI_congr (g := fun i => (i : Int)) fun i hi => hf i (Nat.zero_le _) hi, sgnI_id, Int.one_mul]
    refine H.cg _ _ fun i j hi hj => ?_
    unfold pmX idX
    rw [hf i (Nat.zero_le _) hi]
    by_cases e : j = i
    · rw [if_pos (by omega), if_pos e]
    · rw [if_neg (by omega), if_neg e]
  | m + 1, f, hm, hi, hr, hf => by
    obtain ⟨i0, h0, h1⟩ := surjN hi hr m (by omega)
    by_cases e : i0 = m
    · subst e
      exact Alt.perm H i0 f (by omega) hi hr fun i a b => by
        by_cases c : i = i0
        · subst c; exact h1
        · exact hf i (by omega) b
    · have hlt : i0 < m := by
        rcases Nat.lt_or_ge i0 (m + 1) with c | c
        · omega
        · have := hf i0 c h0; omega
      have ih := Alt.perm H m (sw i0 m f) (by omega) (hi.sw h0 (by omega)) (sw_in hr h0 (by omega)) fun i a b => by
        by_cases c : i = m
        · subst c; rw [sw_b]; exact h1
        · rw [sw_o _ (by omega) c]; exact hf i (by omega) b
      have e2 : pmX (sw i0 m f) = swp (pmX f) i0 m := by
        funext a b
        unfold pmX swp sw
        by_cases c : a = i0
        · simp [c]
        · by_cases d : a = m
          · subst d; simp only [c, if_false, if_true]
          · simp [c, d]
      rw [e2, H.swap h0 (by omega) e, sgnI_swap hi h0 (by omega) e, Int.neg_mul] at ih
      have h9 : (0 - - F (pmX f)) % p = (0 - - (sgnI f n * F idX)) % p := em_sub rfl ih
      rw [Int.zero_sub, Int.neg_neg, Int.zero_sub, Int.neg_neg] at h9
      exact h9
def hdX (m : Nat) (A B : Mx) : Mx := fun i => if i < m then A i else B i
theorem hdX_lt {m i : Nat} (h : i < m) (A B : Mx) : hdX m A B i = A i := if_pos h
theorem hdX_ge {m i : Nat} (h : ¬ i < m) (A B : Mx) : hdX m A B i = B i := if_neg h
theorem hdX_zero (A B : Mx) : hdX 0 A B = B := by funext i; exact hdX_ge (by omega) A B
theorem hdX_upd (m : Nat) (A B : Mx) : updr (hdX m A B) m (A m) = hdX (m + 1) A B := by
  funext i j
  unfold updr
  by_cases a : i = m
  · subst a; rw [if_pos rfl, hdX_lt (by omega)]
  · rw [if_neg a]
    by_cases b : i < m
    · rw [hdX_lt b, hdX_lt (by omega)]
    · rw [hdX_ge b, hdX_ge (by omega)]
theorem hdX_upd' (m : Nat) (A B : Mx) : updr (hdX m A B) m (B m) = hdX m A B := by
  funext i j
  unfold updr
  by_cases a : i = m
  · subst a; rw [if_pos rfl, hdX_ge (by omega)]
  · rw [if_neg a]
section
variable {P n r : Nat} {A : Mx} {rw cw : Nat → Nat} {c u : Mx} {F : Mx → Int}
def rstX (r : Nat) (rw : Nat → Nat) (u : Mx) : Mx := fun i j => sumN r (fun k => if rw k = i then u k j else 0)
theorem rstX_at (h : ∀ j k, j < k → k < r → rw j < rw k) {k : Nat} (hk : k < r) (j : Nat) : rstX r rw u (rw k) j = u k j := by
  unfold rstX
  rw [← sumN_one (fun m => u m j) hk]
  refine sumN_congr fun m hm => ?_
  by_cases e : m = k
  · subst e; rw [if_pos rfl, if_pos rfl]
  · rw [if_neg e, if_neg]
    intro he
    rcases Nat.lt_or_ge m k with a | a
    · have := h m k a hk; omega
    · have := h k m (by omega) hm; omega
theorem Cp.alt_rest (hA : Alt P n F) (H : Cp P n n r A rw cw c u) : F A % P = F (rstX r rw u) % P := by
  have key : ∀ m, m ≤ n → F A % P = F (hdX m (rstX r rw u) A) % P := by
    intro m
    induction m with
    | zero => intro _; rw [hdX_zero]
    | succ m ih =>
      intro hm
      rw [ih (by omega)]
      have h1 := hA.comb (hdX m (rstX r rw u) A) (i := m) (by omega) rw (fun k => if rw k < m then c m k else 0) (rstX r rw u m) r (fun k hk => by
        by_cases e : rw k < m
        · right; exact ⟨H.rlt k hk, by omega⟩
        · left; exact if_neg e)
      rw [hdX_upd] at h1
      rw [← h1]
      refine hA.cg _ _ fun i j hi hj => ?_
      unfold updr
      by_cases a : i = m
      · subst a
        rw [hdX_ge (by omega), if_pos rfl, H.made i hi j hj]
        have e0 : rstX r rw u i j = sumN r (fun k => if rw k = i then u k j else 0) := rfl
        (try dsimp only)
        rw [e0, ← sumN_add]
        refine sumN_mod fun k hk => ?_
        rcases Nat.lt_trichotomy (rw k) i with e | e | e
        · rw [if_neg (by omega), if_pos e, hdX_lt e, rstX_at H.rinc hk j, Int.zero_add]
        · rw [if_pos e, if_neg (by omega), Int.zero_mul, Int.add_zero]
          have h1 := H.c1 k hk
          rw [e] at h1
          rw [Int.mul_emod, h1, Int.one_mul, em_refl]
        · rw [if_neg (by omega), if_neg (by omega), Int.zero_mul, Int.add_zero]
          have h1 := H.cz k hk i e
          rw [em_z h1]; rfl
      · rw [if_neg a]
  rw [key n (Nat.le_refl n)]
  refine hA.cg _ _ fun i j hi hj => ?_
  rw [hdX_lt hi]
theorem Cp.alt_zero (hA : Alt P n F) (H : Cp P n n r A rw cw c u) (hr : r < n) : F A % P = 0 := by
  rw [H.alt_rest hA]
  have : ∃ i, i < n ∧ ∀ k, k < r → rw k ≠ i := by
    refine Classical.byContradiction fun hn => ?_
    have hs : ∀ i, i < n → ∃ k, k < r ∧ rw k = i := fun i hi => Classical.byContradiction fun h => hn ⟨i, hi, fun k hk e => h ⟨k, hk, e⟩⟩
    have := pigeon r n (fun i => if h : ∃ k, k < r ∧ rw k = i then Classical.choose h else 0) (fun i hi => by
      simp only [dif_pos (hs i hi)]; exact (Classical.choose_spec (hs i hi)).1) (fun i j hij hj he => by
      simp only [dif_pos (hs i (by omega)), dif_pos (hs j hj)] at he
      have h1 := (Classical.choose_spec (hs i (by omega))).2
      have h2 := (Classical.choose_spec (hs j hj)).2
      rw [he, h2] at h1; omega)
    omega
  obtain ⟨i, hi, h⟩ := this
  rw [hA.zero _ hi fun j => sumN_z fun k hk => if_neg (h k hk)]; rfl
theorem incr_id {rw : Nat → Nat} (h : ∀ j k, j < k → k < n → rw j < rw k) (hl : ∀ k, k < n → rw k < n) : ∀ k, k < n → rw k = k := by
  have lo : ∀ k, k < n → k ≤ rw k := by
    intro k
    induction k with
    | zero => exact fun _ => Nat.zero_le _
    | succ k ih => intro hk; have := ih (by omega); have := h k (k + 1) (by omega) hk; omega
  have hi : ∀ d k, k + d + 1 = n → rw k ≤ k := by
    intro d
    induction d with
    | zero => intro k hk; have := hl k (by omega); omega
    | succ d ih => intro k hk; have := ih (k + 1) (by omega); have := h k (k + 1) (by omega) (by omega); omega
  intro k hk
  exact Nat.le_antisymm (hi (n - k - 1) k (by omega)) (lo k hk)
theorem Cp.alt_full (hA : Alt P n F) (H : Cp P n n n A rw cw c u) : F A % P = prodN n (fun k => u k (cw k)) * F (pmX (fun k => (cw k : Int))) % P := by
  have rid := incr_id H.rinc H.rlt
  have e0 : F A % P = F u % P := by
    rw [H.alt_rest hA]
    refine hA.cg _ _ fun i j hi hj => ?_
    have := rstX_at (u := u) H.rinc hi j
    rw [rid i hi] at this
    rw [this]
  rw [e0]
  have inj : InjN (fun k => (cw k : Int)) n := fun i j hi hj he => H.cdis hi hj (by (try dsimp only at he); omega)
  have inn : InN (fun k => (cw k : Int)) n := fun i hi => ⟨by (try dsimp only); omega, by have := H.clt i hi; (try dsimp only); omega⟩
  have surj : ∀ j, j < n → ∃ k, k < n ∧ cw k = j := fun j hj => by
    obtain ⟨i, h1, h2⟩ := surjN inj inn j hj
    exact ⟨i, h1, by omega⟩
  have p1 : ∀ k, pmX (fun k => (cw k : Int)) k (cw k) = 1 := fun k => if_pos rfl
  have p0 : ∀ k q, k < n → q < n → k ≠ q → pmX (fun k => (cw k : Int)) k (cw q) = 0 := fun k q hk hq hn => if_neg fun h => hn (H.cdis hk hq (by simp only at h; omega))
  generalize hG : pmX (fun k => (cw k : Int)) = G at p1 p0 ⊢
  have key : ∀ m, m ≤ n → F (hdX m u G) % P = prodN m (fun k => u k (cw k)) * F G % P := by
    intro m
    induction m with
    | zero => intro _; rw [hdX_zero, prodN, Int.one_mul]
    | succ m ih =>
      intro hm
      have e1 : F (hdX (m + 1) u G) % P = F (updr (hdX m u G) m (fun j => u m (cw m) * G m j + sumN n (fun k => (if m < k then u m (cw k) else 0) * hdX m u G k j))) % P := by
        refine hA.cg _ _ fun i j hi hj => ?_
        unfold updr
        by_cases a : i = m
        · subst a
          rw [hdX_lt (by omega), if_pos rfl]
          obtain ⟨q, hq, rfl⟩ := surj j hj
          have zk : ∀ k, k < n → k ≠ q → (if i < k then u i (cw k) else 0) * hdX i u G k (cw q) = 0 := fun k hk hkq => by
            by_cases f : i < k
            · rw [hdX_ge (by omega), p0 k q hk hq hkq, Int.mul_zero]
            · rw [if_neg f, Int.zero_mul]
          have zs : sumN n (fun k => (if i < k then u i (cw k) else 0) * hdX i u G k (cw q)) = (if i < q then u i (cw q) else 0) * hdX i u G q (cw q) := by
            rw [← sumN_one (fun k => (if i < k then u i (cw k) else 0) * hdX i u G k (cw q)) hq]
            refine sumN_congr fun k hk => ?_
            by_cases g : k = q
            · rw [if_pos g]
            · rw [if_neg g, zk k hk g]
          (try dsimp only)
          rw [zs]
          rcases Nat.lt_trichotomy q i with e | e | e
          · rw [if_neg (by omega), p0 i q hi hq (by omega), Int.mul_zero, Int.zero_mul, H.uz q i e hi]; rfl
          · subst e
            rw [if_neg (by omega), p1, Int.mul_one, Int.zero_mul, Int.add_zero]
          · rw [if_pos e, hdX_ge (by omega), p1, p0 i q hi hq (by omega), Int.mul_one, Int.mul_zero, Int.zero_add]
        · rw [if_neg a]
          by_cases b : i < m
          · rw [hdX_lt b, hdX_lt (by omega)]
          · rw [hdX_ge b, hdX_ge (by omega)]
      rw [e1, hA.comb _ (by omega) (fun k => k) (fun k => if m < k then u m (cw k) else 0) _ n (fun k hk => by
        by_cases f : m < k
        · right; exact ⟨hk, by omega⟩
        · left; exact if_neg f), hA.scale _ _ _ (by omega), hdX_upd', prodN, em_mul rfl (ih (by omega))]
      congr 1
      grind
  have := key n (Nat.le_refl n)
  rw [← this]
  exact hA.cg _ _ fun i j hi hj => by rw [hdX_lt hi]
def pdX (n r : Nat) (cw : Nat → Nat) (u : Mx) : Int := if r = n then prodN n (fun k => u k (cw k)) * sgnI (fun k => (cw k : Int)) n else 0
theorem Cp.rle {R C : Nat} (H : Cp P R C r A rw cw c u) : r ≤ R := by
  rcases Nat.eq_zero_or_pos r with h | h
  · omega
  · have lo : ∀ k, k < r → k ≤ rw k := by
      intro k
      induction k with
      | zero => exact fun _ => Nat.zero_le _
      | succ k ih => intro hk; have := ih (by omega); have := H.rinc k (k + 1) (by omega) hk; omega
    have := lo (r - 1) (by omega)
    have := H.rlt (r - 1) (by omega)
    omega
theorem Cp.det (hA : Alt P n F) (H : Cp P n n r A rw cw c u) : F A % P = pdX n r cw u * F idX % P := by
  unfold pdX
  by_cases h : r = n
  · subst h
    rw [if_pos rfl, H.alt_full hA, em_mul rfl (hA.perm r (fun k => (cw k : Int)) (Nat.le_refl _) (fun i j hi hj he => H.cdis hi hj (by (try dsimp only at he); omega)) (fun i hi => ⟨by (try dsimp only); omega, by have := H.clt i hi; (try dsimp only); omega⟩) fun i a b => by omega), ← Int.mul_assoc]
  · have := H.rle
    rw [if_neg h, Int.zero_mul, H.alt_zero hA (by omega)]; rfl
end
end Go.Proofs.Ytmalpmnmknpphaa.TM
namespace Go.Proofs.Ytmalpmnmknpphaa.TM
open Go Go.RowKit
def Rk (P R C r : Nat) (A : Mx) : Prop := ∃ rw cw c u, Cp P R C r A rw cw c u
section
variable {P R C D S r s t : Nat} {A B : Mx}
theorem Cp.cong {rw cw : Nat → Nat} {c u : Mx} (H : Cp P R C r A rw cw c u) (h : ∀ i j, i < R → j < C → A i j % P = B i j % P) : Cp P R C r B rw cw c u :=
  ⟨H.rlt, H.rinc, H.clt, H.upiv, H.uz, H.uh, H.c1, H.cz, fun i hi j hj => by rw [← h i j hi hj]; exact H.made i hi j hj⟩
theorem rk_ex (hP : Prm P) (hp : Md P) (R C : Nat) (A : Mx) : ∃ r, Rk P R C r A := by
  have K := tkN_C (R := R) (C := C) (l := tbl (R * C) (fun q => A (q / C) (q % C) % P)) hP hp (tbl_len ..) (fun a ha => by
    obtain ⟨q, _, rfl⟩ := tbl_mem ha; exact in_emod hp _) R (Nat.le_refl R)
  refine ⟨_, _, _, _, _, K.H.cong fun i j hi hj => ?_⟩
  rw [cl_tbl _ hi hj, dc_div hj, dc_mod hj, em_refl]
theorem pow_le {P a b : Nat} (hP : Prm P) (h : P ^ a ≤ P ^ b) : a ≤ b := (Nat.pow_le_pow_iff_right hP.1).1 h
noncomputable def kB (P R C : Nat) (A : Mx) : Nat → Bool := fun n => by classical exact decide (∀ i, i < R → apX C A (vec P n) i % P = 0)
theorem kB_iff (n : Nat) : kB P R C A n = true ↔ ∀ i, i < R → apX C A (vec P n) i % P = 0 := by unfold kB; simp
theorem Rk.kc (hP : Prm P) (H : Rk P R C r A) : P ^ r * cntN (P ^ C) (kB P R C A) = P ^ C := by
  obtain ⟨_, _, _, _, H⟩ := H
  exact H.kcnt hP fun n _ => kB_iff n
theorem Rk.ker_le (hP : Prm P) (H : Rk P R C r A) (K : Rk P S C s B) (h : ∀ x : Nat → Int, (∀ i, i < R → apX C A x i % P = 0) → ∀ i, i < S → apX C B x i % P = 0) : s ≤ r := by
  have h1 := H.kc hP
  have h2 := K.kc hP
  have p0 : 0 < P := by have := hP.1; omega
  have h3 : cntN (P ^ C) (kB P R C A) ≤ cntN (P ^ C) (kB P S C B) := cnt_mono fun n _ hn => (kB_iff n).2 (h _ ((kB_iff n).1 hn))
  refine pow_le hP ?_
  have h4 : 0 < cntN (P ^ C) (kB P S C B) := by
    rcases Nat.eq_zero_or_pos (cntN (P ^ C) (kB P S C B)) with e | e
    · rw [e, Nat.mul_zero] at h2; have := Nat.pow_pos (n := C) p0; omega
    · exact e
  refine Nat.le_of_mul_le_mul_right ?_ h4
  exact Nat.le_trans (Nat.le_of_eq (h2.trans h1.symm)) (Nat.mul_le_mul_left _ h3)
theorem apX_mul (K C : Nat) (A B : Mx) (x : Nat → Int) (i : Nat) : apX C (mulX K A B) x i = apX K A (apX C B x) i := by
  unfold apX mulX
  rw [sumN_congr fun k _ => (sumN_mul C (A i k) (fun j => B k j * x j)).symm, sumN_swap]
  refine sumN_congr fun j _ => ?_
  rw [← sumN_mulr]
  exact sumN_congr fun k _ => by rw [Int.mul_assoc]
theorem apX_z {p : Int} {C : Nat} {A : Mx} {x : Nat → Int} (h : ∀ j, j < C → x j % p = 0) (i : Nat) : apX C A x i % p = 0 := sumN_0 fun j hj => em_z' (h j hj)
theorem Rk.mul_right (hP : Prm P) (K : Rk P S C s B) (M : Rk P R C t (mulX S A B)) : t ≤ s :=
  K.ker_le hP M fun x hx i _ => by rw [apX_mul]; exact apX_z hx i
end
section
variable {P n r : Nat} {A B : Mx} {rw cw : Nat → Nat} {c u : Mx}
theorem Lp_id : ∀ n, Lp n idX = 1
  | 0 => rfl
  | n + 1 => by
    rw [Lp_succ]
    have : sumN (n + 1) (fun k => sg k * idX 0 k * Lp n (mnr idX k)) = sumN (n + 1) (fun k => if k = 0 then (fun _ => (1 : Int)) k else 0) := sumN_congr fun k hk => by
      by_cases e : k = 0
      · subst e
        rw [if_pos rfl, sg_zero, show idX 0 0 = 1 from rfl]
        have : Lp n (mnr idX 0) = Lp n idX := Lp_congr n fun i j _ _ => by
          show (if skip 0 j = i + 1 then _ else _) = if j = i then _ else _
          rw [show skip 0 j = j + 1 from rfl]
          by_cases e : j = i
          · rw [if_pos (by omega), if_pos e]
          · rw [if_neg (by omega), if_neg e]
        rw [this, Lp_id n]; rfl
      · rw [if_neg e, show idX 0 k = 0 from if_neg e, Int.mul_zero, Int.zero_mul]
    rw [this, sumN_one _ (by omega)]
theorem Cp.lp (H : Cp P n n r A rw cw c u) : Lp n A % P = pdX n r cw u % P := by
  rw [H.det (Lp_alt P n), Lp_id, Int.mul_one]
theorem Lp_mulX (hP : Prm P) (hp : Md P) (n : Nat) (A B : Mx) : Lp n (mulX n A B) % P = Lp n A * Lp n B % P := by
  obtain ⟨r, _, _, _, _, H⟩ := rk_ex hP hp n n A
  have h1 := H.det (Lp_mul_alt P n B)
  have e : Lp n (mulX n idX B) = Lp n B := Lp_congr n fun i j hi hj => by
    unfold mulX
    rw [← sumN_one (fun k => B k j) hi]
    refine sumN_congr fun k _ => ?_
    unfold idX
    by_cases e : k = i
    · rw [if_pos e, if_pos e, Int.one_mul]
    · rw [if_neg e, if_neg e, Int.zero_mul]
  rw [e] at h1
  rw [h1]
  exact em_mul H.lp.symm rfl
theorem prodN_nz (hP : Prm P) {f : Nat → Int} : ∀ n, (∀ k, k < n → f k % P ≠ 0) → prodN n f % P ≠ 0
  | 0, _ => by rw [prodN, Int.emod_eq_of_lt (by decide) (by have := hP.1; omega)]; decide
  | n + 1, h => fun e => prodN_nz hP n (fun k hk => h k (by omega)) (by
      refine Classical.byContradiction fun hn => h n (by omega) (prm_mul0 hP e hn))
theorem sgn_nz {f : Nat → Int} {n : Nat} : sgnI f n * sgnI f n = 1 := by
  rcases sgnI_one f n with h | h <;> rw [h] <;> rfl
theorem Cp.det_nz (hP : Prm P) (H : Cp P n n r A rw cw c u) : pdX n r cw u % P ≠ 0 ↔ r = n := by
  unfold pdX
  constructor
  · intro h
    refine Classical.byContradiction fun hn => h ?_
    rw [if_neg hn]; rfl
  · rintro rfl
    rw [if_pos rfl]
    intro h
    refine prodN_nz hP _ (fun k hk => H.upiv k hk) ?_
    have : prodN r (fun k => u k (cw k)) = prodN r (fun k => u k (cw k)) * sgnI (fun k => (cw k : Int)) r * sgnI (fun k => (cw k : Int)) r := by
      rw [Int.mul_assoc, sgn_nz, Int.mul_one]
    rw [this]; exact em_z h
end
end Go.Proofs.Ytmalpmnmknpphaa.TM
namespace Go.Proofs.Ytmalpmnmknpphaa.TM
open Go Go.RowKit
def rwC (c : CupT) (k : Nat) : Nat := (c.1.getD k 0).toNat
def cwC (c : CupT) (k : Nat) : Nat := (c.2.1.getD k 0).toNat
def ccC (c : CupT) : Mx := fun i k => (c.2.2.1.getD i []).getD k 0
def uuC (c : CupT) : Mx := fun k j => (c.2.2.2.getD k []).getD j 0
abbrev CpC (P R C : Nat) (A : Mx) (c : CupT) : Prop := Cp P R C c.1.length A (rwC c) (cwC c) (ccC c) (uuC c)
theorem pad_get (r : Nat) (x : List Int) (k : Nat) : (padF r x).getD k 0 = x.getD k 0 := by
  unfold padF
  rw [List.getD_eq_getElem?_getD, List.getD_eq_getElem?_getD]
  by_cases h : k < x.length
  · rw [List.getElem?_append_left h]
  · rw [List.getElem?_append_right (by omega), List.getElem?_eq_none (l := x) (by omega), List.getElem?_replicate]
    split <;> rfl
theorem tkCup_Cp {P R C : Nat} {l : List Int} (hP : Prm P) (M : Mt P R C l) (hin : ∀ a ∈ l, In P a) : CpC P R C (cl C l) (tkCup P C R l) := by
  have K := tkN_C hP M.hp M.len hin R (Nat.le_refl R)
  have e1 : (tkCup P C R l).1.length = (tkN P C l R).us.length := K.I.rl
  have e2 : ccC (tkCup P C R l) = cF (tkN P C l R) := by
    funext i k
    show (((tkN P C l R).cs.map (padF (tkN P C l R).us.length)).getD i []).getD k 0 = (csF (tkN P C l R) i).getD k 0
    unfold csF
    by_cases h : i < (tkN P C l R).cs.length
    · rw [List.getD_eq_getElem?_getD (l := List.map _ _), List.getElem?_map, List.getElem?_eq_getElem h, Option.map_some, Option.getD_some, pad_get, List.getD_eq_getElem?_getD (l := (tkN P C l R).cs), List.getElem?_eq_getElem h]; rfl
    · rw [List.getD_eq_getElem?_getD (l := List.map _ _), List.getElem?_map, List.getElem?_eq_none (by omega), List.getD_eq_getElem?_getD (l := (tkN P C l R).cs), List.getElem?_eq_none (by omega)]; rfl
  unfold CpC
  rw [e1, e2]
  exact K.H
section
variable {P R C : Nat} {A : Mx} {c : CupT}
theorem sumN_le {n m : Nat} (h : m ≤ n) {f : Nat → Int} (hz : ∀ i, m ≤ i → i < n → f i = 0) : sumN n f = sumN m f := by
  obtain ⟨d, rfl⟩ : ∃ d, n = m + d := ⟨n - m, by omega⟩
  rw [sumN_split, sumN_z (n := d) fun i hi => hz _ (by omega) (by omega), Int.add_zero]
theorem hlX_sum (b z : List Int) (i : Nat) : ∀ j, hlX P c b z i j % P = (b.getD i 0 - sumN j (fun t => ccC c i t * z.getD t 0)) % P
  | 0 => by simp [hlX, sumN]
  | j + 1 => by
    rw [hlX, em_refl, em_sub (hlX_sum b z i j) em_refl, sumN]
    congr 1
    unfold ccC
    omega
theorem hlL_get (b : List Int) : ∀ k m, m < k → (hlL P c b k).getD m 0 = hlX P c b (hlL P c b m) (rwC c m) m
  | 0, m, h => by omega
  | k + 1, m, h => by
    rw [hlL, List.getD_eq_getElem?_getD]
    by_cases e : m < k
    · rw [List.getElem?_append_left (by rw [hlL_len]; exact e), ← List.getD_eq_getElem?_getD, hlL_get b k m e]
    · have : m = k := by omega
      subst this
      rw [List.getElem?_append_right (by rw [hlL_len]; omega), hlL_len, Nat.sub_self]; rfl
theorem hlL_pre (b : List Int) : ∀ k m t, m ≤ k → t < m → (hlL P c b m).getD t 0 = (hlL P c b k).getD t 0 := fun k m t h1 h2 => by
  rw [hlL_get b m t h2, hlL_get b k t (by omega)]
theorem halves_ok (hP : Prm P) (H : CpC P R C A c) (b : List Int) : ∀ m, m < c.1.length → sumN c.1.length (fun k => ccC c (rwC c m) k * (hlL P c b c.1.length).getD k 0) % P = b.getD (rwC c m) 0 % P := by
  intro m hm
  have e1 : sumN c.1.length (fun k => ccC c (rwC c m) k * (hlL P c b c.1.length).getD k 0) % P = sumN (m + 1) (fun k => ccC c (rwC c m) k * (hlL P c b c.1.length).getD k 0) % P := by
    rw [sumN_mod (g := fun k => if k < m + 1 then ccC c (rwC c m) k * (hlL P c b c.1.length).getD k 0 else 0) (fun k hk => by
      by_cases h : k < m + 1
      · rw [if_pos h]
      · rw [if_neg h, em_z (H.cz k hk _ (H.rinc m k (by omega) hk))]; rfl), sumN_le (m := m + 1) (by omega) fun i h1 _ => if_neg (by omega)]
    congr 1
    exact sumN_congr fun k hk => if_pos hk
  have hp1 : (1 : Int) < P := by have := hP.1; omega
  rw [e1, sumN, hlL_get b c.1.length m hm]
  have h1 := hlX_sum (P := P) (c := c) b (hlL P c b m) (rwC c m) m
  have h2 : ccC c (rwC c m) m * hlX P c b (hlL P c b m) (rwC c m) m % P = 1 * (b.getD (rwC c m) 0 - sumN m (fun t => ccC c (rwC c m) t * (hlL P c b m).getD t 0)) % P := em_mul ((H.c1 m hm).trans (Int.emod_eq_of_lt (by decide) hp1).symm) h1
  rw [em_add rfl h2, sumN_congr fun t ht => by rw [← hlL_pre b c.1.length m t (by omega) ht]]
  congr 1
  omega
theorem svN_sum {z x : List Int} {k : Nat} (hc : 0 ≤ c.2.1.getD k 0) : ∀ q, svN P c z k x q % P = (z.getD k 0 - sumN q (fun j => if j = cwC c k then 0 else uuC c k j * x.getD j 0)) % P
  | 0 => by simp [svN, sumN]
  | q + 1 => by
    rw [svN, sumN]
    by_cases e : (q : Int) = c.2.1.getD k 0
    · rw [if_pos e, if_pos (show q = cwC c k by unfold cwC; omega), svN_sum hc q]; congr 1; omega
    · rw [if_neg e, if_neg (show ¬ q = cwC c k by unfold cwC; omega), em_refl, em_sub (svN_sum hc q) em_refl]
      congr 1
      unfold uuC
      omega
theorem solved_ok (hP : Prm P) (hp : Md P) (hw : CupW P R C c) (H : CpC P R C A c) (z : List Int) {x : List Int} (hx : x.length = C) :
    ∀ d, d ≤ c.1.length → (∀ j, j < C → (∀ k, k < c.1.length → j ≠ cwC c k) → (svL P C c (invsT P c) z x d).getD j 0 = x.getD j 0) ∧ ∀ k, c.1.length - d ≤ k → k < c.1.length → apX C (uuC c) (fun j => (svL P C c (invsT P c) z x d).getD j 0) k % P = z.getD k 0 % P
  | 0, _ => ⟨fun _ _ _ => rfl, fun k h1 h2 => by omega⟩
  | d + 1, hd => by
    obtain ⟨h1, h2⟩ := solved_ok hP hp hw H z hx d (by omega)
    obtain ⟨m, hm⟩ : ∃ m, m = c.1.length - 1 - d := ⟨_, rfl⟩
    have hmr : m < c.1.length := by omega
    have xl := svL_len (p := P) (c := c) (vs := invsT P c) (z := z) hx d
    have hq := hw.qb (c.2.1.getD m 0) (getD_mm (by rw [hw.ql]; exact hmr))
    have hcw := H.clt m hmr
    have hv : (invsT P c).getD m 0 = finvC P (uuC c m (cwC c m)) := tbl_getD _ (by rw [hw.ul]; exact hmr)
    obtain ⟨u1, u2⟩ := hw.ur (c.2.2.2.getD m []) (getD_mm (by rw [hw.ul]; exact hmr))
    have hi := getD_of u2 (i := cwC c m) (by omega)
    have hinv : uuC c m (cwC c m) * (invsT P c).getD m 0 % P = 1 := by
      rw [hv]; exact (finvC_in hp.1 hp.2 hi (prm_gcd hP hi (hw.nz m hmr))).2
    have get : ∀ j, j < C → (svL P C c (invsT P c) z x (d + 1)).getD j 0 = if j = cwC c m then svN P c z m (svL P C c (invsT P c) z x d) C * (invsT P c).getD m 0 % P else (svL P C c (invsT P c) z x d).getD j 0 := fun j hj => by
      rw [svL, ← hm]; exact tbl_getD _ hj
    refine ⟨fun j hj hn => by rw [get j hj, if_neg (hn m hmr), h1 j hj hn], fun k h3 h4 => ?_⟩
    have e1 : apX C (uuC c) (fun j => (svL P C c (invsT P c) z x (d + 1)).getD j 0) k = sumN C (fun j => if j = cwC c m then 0 else uuC c k j * (svL P C c (invsT P c) z x d).getD j 0) + uuC c k (cwC c m) * (svN P c z m (svL P C c (invsT P c) z x d) C * (invsT P c).getD m 0 % P) := by
      unfold apX
      rw [← sumN_one (fun j => uuC c k j * (svN P c z m (svL P C c (invsT P c) z x d) C * (invsT P c).getD m 0 % P)) hcw, ← sumN_add]
      refine sumN_congr fun j hj => ?_
      (try dsimp only)
      rw [get j hj]
      by_cases e : j = cwC c m
      · rw [if_pos e, if_pos e, if_pos e, Int.zero_add]
      · rw [if_neg e, if_neg e, if_neg e, Int.add_zero]
    rw [e1]
    by_cases e : k = m
    · subst e
      have h5 := svN_sum (P := P) (c := c) (z := z) (x := svL P C c (invsT P c) z x d) (k := k) hq.1 C
      generalize sumN C (fun j => if j = cwC c k then 0 else uuC c k j * (svL P C c (invsT P c) z x d).getD j 0) = S at h5 ⊢
      generalize svN P c z k (svL P C c (invsT P c) z x d) C = N at h5 ⊢
      have h6 : uuC c k (cwC c k) * (N * (invsT P c).getD k 0 % P) % P = 1 * (z.getD k 0 - S) % P := by
        rw [em_mul rfl em_refl, show uuC c k (cwC c k) * (N * (invsT P c).getD k 0) = (uuC c k (cwC c k) * (invsT P c).getD k 0) * N by grind]
        exact em_mul (hinv.trans (Int.emod_eq_of_lt (by decide) (by have := hp.1; omega)).symm) h5
      rw [em_add rfl h6]
      congr 1
      omega
    · have h5 := h2 k (by omega) h4
      have h6 := H.uz m k (by omega) h4
      rw [← h5, Int.add_emod, em_z h6, Int.add_zero, em_refl]
      unfold apX
      refine sumN_mod fun j hj => ?_
      by_cases e : j = cwC c m
      · rw [if_pos e, e, em_z h6]; rfl
      · rw [if_neg e]
theorem rows_ok (hP : Prm P) (hp : Md P) (hw : CupW P R C c) (H : CpC P R C A c) {i : Nat} (hi : i < R) (hn : ∀ k, k < c.1.length → rwC c k ≠ i) :
    ∀ d, d ≤ c.1.length → (∀ m, m < R → m ≠ i → (∀ k, c.1.length - d ≤ k → k < c.1.length → m ≠ rwC c k) → (rwS P R c i d).2.getD m 0 = 0) ∧ (rwS P R c i d).2.getD i 0 = 1 ∧
      (∀ k, k < c.1.length → sumN R (fun m => (rwS P R c i d).2.getD m 0 * ccC c m k) % P = (if k < c.1.length - d then (rwS P R c i d).1.getD k 0 else 0) % P)
  | 0, _ => by
    have g : ∀ m, m < R → (rwS P R c i 0).2.getD m 0 = if m = i then 1 else 0 := fun m hm => tbl_getD _ hm
    refine ⟨fun m hm h _ => by rw [g m hm, if_neg h], by rw [g i hi, if_pos rfl], fun k hk => ?_⟩
    rw [if_pos (by omega), sumN_congr (g := fun m => if m = i then ccC c m k else 0) fun m hm => by
      rw [g m hm]
      by_cases e : m = i
      · rw [if_pos e, if_pos e, Int.one_mul]
      · rw [if_neg e, if_neg e, Int.zero_mul], sumN_one _ hi]; rfl
  | d + 1, hd => by
    obtain ⟨h1, h2, h3⟩ := rows_ok hP hp hw H hi hn d (by omega)
    obtain ⟨m0, hm⟩ : ∃ m, m = c.1.length - 1 - d := ⟨_, rfl⟩
    have hmr : m0 < c.1.length := by omega
    have hr := H.rlt m0 hmr
    have e0 : (c.1.getD m0 0).toNat = rwC c m0 := rfl
    have gy : ∀ m, m < R → (rwS P R c i (d + 1)).2.getD m 0 = if m = rwC c m0 then (0 - (rwS P R c i d).1.getD m0 0) % P else (rwS P R c i d).2.getD m 0 := fun m hm' => by
      rw [rwS, ← hm]; exact tbl_getD _ hm'
    have gl : ∀ k, k < c.1.length → (rwS P R c i (d + 1)).1.getD k 0 = if k < m0 then ((rwS P R c i d).1.getD k 0 - (rwS P R c i d).1.getD m0 0 * ccC c (rwC c m0) k % P) % P else (rwS P R c i d).1.getD k 0 := fun k hk => by
      rw [rwS, ← hm]; exact tbl_getD _ hk
    have y0 : (rwS P R c i d).2.getD (rwC c m0) 0 = 0 := h1 _ hr (hn m0 hmr) fun k h4 h5 e => by
      have := H.rinc m0 k (by omega) h5; omega
    refine ⟨fun m hm' h4 h5 => ?_, ?_, fun k hk => ?_⟩
    · rw [gy m hm', if_neg (h5 m0 (by omega) hmr)]
      exact h1 m hm' h4 fun k h6 h7 => h5 k (by omega) h7
    · rw [gy i hi, if_neg (fun e => hn m0 hmr e.symm)]; exact h2
    · have e1 : sumN R (fun m => (rwS P R c i (d + 1)).2.getD m 0 * ccC c m k) = sumN R (fun m => (rwS P R c i d).2.getD m 0 * ccC c m k) + ((0 - (rwS P R c i d).1.getD m0 0) % P) * ccC c (rwC c m0) k := by
        rw [← sumN_one (fun m => ((0 - (rwS P R c i d).1.getD m0 0) % P) * ccC c m k) hr, ← sumN_add]
        refine sumN_congr fun m hm' => ?_
        rw [gy m hm']
        by_cases e : m = rwC c m0
        · rw [if_pos e, if_pos e, e, y0, Int.zero_mul, Int.zero_add]
        · rw [if_neg e, if_neg e, Int.add_zero]
      have h4 := h3 k hk
      rw [e1, em_add h4 (em_mul em_refl rfl)]
      generalize hL : (rwS P R c i d).1.getD m0 0 = L0
      by_cases a : k < m0
      · rw [if_pos (by omega), if_pos (by omega), gl k hk, if_pos a, em_refl, hL, em_sub rfl em_refl]
        congr 1
        rw [Int.sub_mul, Int.zero_mul]; omega
      · by_cases b : k = m0
        · subst b
          rw [if_pos (by omega), if_neg (by omega), hL]
          have h5 := H.c1 k hmr
          have : (0 - L0) * ccC c (rwC c k) k % P = (0 - L0) * 1 % P := em_mul rfl (h5.trans (Int.emod_eq_of_lt (by decide) (by have := hp.1; omega)).symm)
          rw [em_add rfl this]
          congr 1
          omega
        · rw [if_neg (by omega), if_neg (by omega), Int.zero_add, em_z' (H.cz k hk _ (H.rinc m0 k (by omega) hk))]; rfl
end
end Go.Proofs.Ytmalpmnmknpphaa.TM
namespace Go.Proofs.Ytmalpmnmknpphaa.TM
open Go Go.RowKit
def Sol (P R C : Nat) (l b : List Int) : Prop := ∃ x : Nat → Int, ∀ i, i < R → apX C (cl C l) x i % P = b.getD i 0 % P
theorem timesM_ap {p : Int} {R C : Nat} {l x : List Int} (hl : l.length = R * C) (hx : x.length = C) {i : Nat} (hi : i < R) : (timesM p R C l x).getD i 0 = apX C (cl C l) (fun j => x.getD j 0) i % p := timesM_get hl hx hi
theorem in_mod {p a : Int} (h : In p a) : a % p = a := Int.emod_eq_of_lt h.1 h.2
theorem list_ext0 {a b : List Int} {n : Nat} (ha : a.length = n) (hb : b.length = n) (h : ∀ i, i < n → a.getD i 0 = b.getD i 0) : a = b := by
  rw [tbl_of ha, tbl_of hb]; exact tbl_congr h
section
variable {P R C : Nat} {l b : List Int}
theorem times_sol (hl : l.length = R * C) {x : List Int} (hx : x.length = C) (h : timesM P R C l x = b) : Sol P R C l b :=
  ⟨fun j => x.getD j 0, fun i hi => by rw [← h, timesM_ap hl hx hi, em_refl]⟩
theorem mem_iff {c : CupT} (hw : CupW P R C c) {i : Nat} : (i : Int) ∈ c.1 ↔ ∃ k, k < c.1.length ∧ rwC c k = i := by
  constructor
  · intro h
    obtain ⟨k, hk, e⟩ := List.getElem_of_mem h
    refine ⟨k, hk, ?_⟩
    unfold rwC
    rw [List.getD_eq_getElem?_getD, List.getElem?_eq_getElem hk, e]; rfl
  · rintro ⟨k, hk, e⟩
    have h1 : c.1.getD k 0 ∈ c.1 := getD_mm hk
    have h2 := hw.rb _ h1
    unfold rwC at e
    rw [show (i : Int) = c.1.getD k 0 by omega]
    exact h1
theorem memc_iff {c : CupT} (hw : CupW P R C c) {i : Nat} : (i : Int) ∈ c.2.1 ↔ ∃ k, k < c.1.length ∧ cwC c k = i := by
  constructor
  · intro h
    obtain ⟨k, hk, e⟩ := List.getElem_of_mem h
    refine ⟨k, by rw [← hw.ql]; exact hk, ?_⟩
    unfold cwC
    rw [List.getD_eq_getElem?_getD, List.getElem?_eq_getElem hk, e]; rfl
  · rintro ⟨k, hk, e⟩
    have h1 : c.2.1.getD k 0 ∈ c.2.1 := getD_mm (by rw [hw.ql]; exact hk)
    have h2 := hw.qb _ h1
    unfold cwC at e
    rw [show (i : Int) = c.2.1.getD k 0 by omega]
    exact h1
theorem solX_rows (hP : Prm P) (M : Mt P R C l) (hin : ∀ a ∈ l, In P a) (b : List Int) : ∀ k, k < (tkCup P C R l).1.length → apX C (cl C l) (fun j => (solX P C (tkCup P C R l) b).getD j 0) (rwC (tkCup P C R l) k) % P = b.getD (rwC (tkCup P C R l) k) 0 % P := by
  have H := tkCup_Cp hP M hin
  have hw := tkCup_W hP M hin
  intro k hk
  rw [H.ap (H.rlt k hk), ← halves_ok hP H b k hk]
  refine sumN_mod fun m hm => em_mul rfl ?_
  exact (solved_ok hP M.hp hw H _ (zeroV_len C) _ (Nat.le_refl _)).2 m (by omega) hm
theorem sol_iff (hP : Prm P) (M : Mt P R C l) (hin : ∀ a ∈ l, In P a) (hb : ∀ a ∈ b, In P a) (hbl : b.length = R) : timesM P R C l (solX P C (tkCup P C R l) b) = b ↔ Sol P R C l b := by
  have H := tkCup_Cp hP M hin
  constructor
  · exact times_sol M.len (solX_len ..)
  · rintro ⟨x, hx⟩
    refine list_ext0 (timesM_len ..) hbl fun i hi => ?_
    rw [timesM_ap M.len (solX_len ..) hi, ← in_mod (getD_of hb (i := i) (by omega)), ← hx i hi, H.ap hi, H.ap hi]
    refine sumN_mod fun k hk => em_mul rfl ?_
    have h0 := H.cinj (z := fun k => apX C (uuC (tkCup P C R l)) (fun j => (solX P C (tkCup P C R l) b).getD j 0) k - apX C (uuC (tkCup P C R l)) x k) fun m hm => by
      rw [sumN_congr fun k _ => Int.mul_sub .., sumN_sub]
      refine emod_sub0.1 ?_
      have h1 := solX_rows hP M hin b m hm
      have h2 := hx _ (H.rlt m hm)
      rw [H.ap (H.rlt m hm)] at h1 h2
      rw [h1, h2]
    exact emod_sub0.2 (h0 k hk)
structure RowV (P R C : Nat) (l : List Int) (c : CupT) (i : Nat) (y : List Int) : Prop where
  len : y.length = R
  inn : ∀ a ∈ y, In P a
  one : y.getD i 0 = 1
  sup : ∀ m, m < R → m ≠ i → (∀ k, k < c.1.length → m ≠ rwC c k) → y.getD m 0 = 0
  zero : ∀ j, j < C → sumN R (fun m => y.getD m 0 * cl C l m j) % P = 0
theorem rowsV_ok (hP : Prm P) (M : Mt P R C l) (hin : ∀ a ∈ l, In P a) {i : Nat} (hi : i < R) (hn : (i : Int) ∉ (tkCup P C R l).1) : RowV P R C l (tkCup P C R l) i (rowsV P R (tkCup P C R l) i) := by
  have H := tkCup_Cp hP M hin
  have hw := tkCup_W hP M hin
  obtain ⟨h1, h2, h3⟩ := rows_ok hP M.hp hw H hi (fun k hk e => hn ((mem_iff hw).2 ⟨k, hk, e⟩)) _ (Nat.le_refl _)
  refine ⟨rowsV_len hw hi, rowsV_in M.hp hw hi, h2, fun m hm he hk => h1 m hm he fun k _ hk' => hk k hk', fun j hj => ?_⟩
  have e : sumN R (fun m => (rowsV P R (tkCup P C R l) i).getD m 0 * cl C l m j) % P = sumN (tkCup P C R l).1.length (fun k => sumN R (fun m => (rowsV P R (tkCup P C R l) i).getD m 0 * ccC (tkCup P C R l) m k) * uuC (tkCup P C R l) k j) % P := by
    rw [sumN_mod fun m hm => em_mul (rfl : (rowsV P R (tkCup P C R l) i).getD m 0 % P = _) (H.made m hm j hj)]
    congr 1
    rw [sumN_congr fun m _ => (sumN_mul _ ((rowsV P R (tkCup P C R l) i).getD m 0) (fun k => ccC (tkCup P C R l) m k * uuC (tkCup P C R l) k j)).symm, sumN_swap]
    refine sumN_congr fun k _ => ?_
    rw [← sumN_mulr]
    exact sumN_congr fun m _ => by rw [Int.mul_assoc]
  rw [e]
  refine sumN_0 fun k hk => em_z ?_
  have := h3 k hk
  rw [if_neg (by omega)] at this
  exact this
theorem RowV.left {c : CupT} {i : Nat} {y : List Int} (hp : Md P) (V : RowV P R C l c i y) (hl : l.length = R * C) : leftM P y R C l = zeroV C :=
  list_ext0 (leftM_len ..) (zeroV_len C) fun k hk => by rw [leftM_get V.len hk, V.zero k hk]; exact (show (zeroV C).getD k 0 = 0 from tbl_getD _ hk).symm
theorem left_sol {y : List Int} (hl : l.length = R * C) (hyl : y.length = R) (hbl : b.length = R) (h : ∀ j, j < C → sumN R (fun m => y.getD m 0 * cl C l m j) % P = 0) (hs : Sol P R C l b) : dotI y b % P = 0 := by
  obtain ⟨x, hx⟩ := hs
  rw [dotI_eq R y b hyl hbl, sumN_mod fun i hi => em_mul (rfl : y.getD i 0 % P = _) (hx i hi).symm]
  have e : sumN R (fun i => y.getD i 0 * apX C (cl C l) x i) = sumN C (fun j => sumN R (fun m => y.getD m 0 * cl C l m j) * x j) := by
    unfold apX
    rw [sumN_congr fun m _ => (sumN_mul C (y.getD m 0) (fun j => cl C l m j * x j)).symm, sumN_swap]
    refine sumN_congr fun j _ => ?_
    rw [← sumN_mulr]
    exact sumN_congr fun m _ => by rw [Int.mul_assoc]
  rw [e]
  exact sumN_0 fun j hj => em_z (h j hj)
theorem sol_of_none (hP : Prm P) (M : Mt P R C l) (hin : ∀ a ∈ l, In P a) (hbl : b.length = R) (h : ∀ i, i < R → (i : Int) ∉ (tkCup P C R l).1 → dotI (rowsV P R (tkCup P C R l) i) b % P = 0) : Sol P R C l b := by
  have H := tkCup_Cp hP M hin
  have hw := tkCup_W hP M hin
  refine ⟨fun j => (solX P C (tkCup P C R l) b).getD j 0, fun i hi => ?_⟩
  by_cases hm : (i : Int) ∈ (tkCup P C R l).1
  · obtain ⟨k, hk, rfl⟩ := (mem_iff hw).1 hm
    exact solX_rows hP M hin b k hk
  · have V := rowsV_ok hP M hin hi hm
    have h1 := h i hi hm
    have hs : Sol P R C l (timesM P R C l (solX P C (tkCup P C R l) b)) := times_sol M.len (solX_len ..) rfl
    have h2 := left_sol M.len V.len (timesM_len ..) V.zero hs
    rw [dotI_eq R _ _ V.len hbl] at h1
    rw [dotI_eq R _ _ V.len (timesM_len ..)] at h2
    generalize rowsV P R (tkCup P C R l) i = y at V h1 h2
    have h3 : sumN R (fun m => y.getD m 0 * (apX C (cl C l) (fun j => (solX P C (tkCup P C R l) b).getD j 0) m - b.getD m 0)) % P = 0 := by
      rw [sumN_congr fun m _ => Int.mul_sub .., sumN_sub]
      refine emod_sub0.1 ?_
      refine Eq.trans ?_ (h2.trans h1.symm)
      exact sumN_mod fun m hm' => by rw [timesM_ap M.len (solX_len ..) hm', em_mul rfl em_refl]
    rw [sumN_only hi (fun m hm' hne => ?_), V.one, Int.one_mul] at h3
    · exact emod_sub0.2 h3
    · by_cases c1 : ∃ k, k < (tkCup P C R l).1.length ∧ rwC (tkCup P C R l) k = m
      · obtain ⟨k, hk, rfl⟩ := c1
        exact em_z' (emod_sub0.1 (solX_rows hP M hin b k hk))
      · rw [V.sup m hm' hne fun k hk e => c1 ⟨k, hk, e.symm⟩, Int.zero_mul]; rfl
theorem fstI_cases {rws : List Int} {S : Nat → Bool} {R : Nat} : (fstI rws S R = none ∧ ∀ i, i < R → (i : Int) ∉ rws → S i = false) ∨ ∃ i, fstI rws S R = some i ∧ i < R ∧ (i : Int) ∉ rws ∧ S i = true := by
  unfold fstI
  cases h : (List.range R).find? (fun i : Nat => !decide ((i : Int) ∈ rws) && S i) with
  | none =>
    refine .inl ⟨rfl, fun i hi hn => ?_⟩
    have := List.find?_eq_none.1 h i (List.mem_range.2 hi)
    simpa [hn] using this
  | some i =>
    have h1 := List.find?_some h
    have h2 := List.mem_range.1 (List.mem_of_find?_eq_some h)
    simp at h1
    exact .inr ⟨i, rfl, h2, h1.1, h1.2⟩
theorem against_iff (hP : Prm P) (M : Mt P R C l) (hin : ∀ a ∈ l, In P a) (hbl : b.length = R) : (fstI (tkCup P C R l).1 (fun i => dotNz P (rowsV P R (tkCup P C R l) i) b) R = none ↔ Sol P R C l b) := by
  rcases fstI_cases (rws := (tkCup P C R l).1) (S := fun i => dotNz P (rowsV P R (tkCup P C R l) i) b) (R := R) with ⟨h1, h2⟩ | ⟨i, h1, h2, h3, h4⟩
  · rw [h1]
    refine ⟨fun _ => sol_of_none hP M hin hbl fun i hi hn => ?_, fun _ => rfl⟩
    have := h2 i hi hn
    unfold dotNz at this
    simpa using this
  · rw [h1]
    refine ⟨(fun h => by cases h), fun hs => ?_⟩
    have V := rowsV_ok hP M hin h2 h3
    have := left_sol M.len V.len hbl V.zero hs
    unfold dotNz at h4
    simp [this] at h4
end
end Go.Proofs.Ytmalpmnmknpphaa.TM
namespace Go.Proofs.Ytmalpmnmknpphaa.TM
open Go Go.RowKit
theorem w64_of_in {P : Int} (hp : Md P) {l : List Int} (h : ∀ a ∈ l, In P a) : W64s l := fun a ha => in_w64 hp (h a ha)
theorem solve_sol {P R C : Nat} {l b : List Int} (hP : Prm P) (M : Mt P R C l) (hin : ∀ a ∈ l, In P a) (hb : ∀ a ∈ b, In P a) (hbl : b.length = R) (hs : Sol P R C l b) : CallsP Try.prog 25 [u64 P, matP R C l, lu b] (.tup [lu (solX P C (tkCup P C R l) b), i64 0]) := by
  have h := solve_yes hP M hin hb hbl
  rw [if_pos ((sol_iff hP M hin hb hbl).2 hs)] at h; exact h
theorem solve_none {P R C : Nat} {l b : List Int} (hP : Prm P) (M : Mt P R C l) (hin : ∀ a ∈ l, In P a) (hb : ∀ a ∈ b, In P a) (hbl : b.length = R) (hs : ¬ Sol P R C l b) : CallsP Try.prog 25 [u64 P, matP R C l, lu b] (.tup [lu [], i64 6]) := by
  have h := solve_yes hP M hin hb hbl
  rw [if_neg fun e => hs ((sol_iff hP M hin hb hbl).1 e)] at h; exact h
end Go.Proofs.Ytmalpmnmknpphaa.TM
namespace Go.Proofs.Ytmalpmnmknpphaa.TM
open Go Go.RowKit
section
variable {P R C : Nat} {l b : List Int}
theorem CpC.rle_c {A : Mx} {c : CupT} (H : CpC P R C A c) : c.1.length ≤ C :=
  pigeon C c.1.length (cwC c) (fun i hi => H.clt i hi) (fun i j hij hj he => by have := H.cdis (by omega) hj he; omega)
theorem free_none {c : CupT} (hw : CupW P R C c) {A : Mx} (H : CpC P R C A c) (h : ∀ j, j < C → (j : Int) ∈ c.2.1) : c.1.length = C := by
  refine Nat.le_antisymm H.rle_c ?_
  have hs : ∀ j, j < C → ∃ k, k < c.1.length ∧ cwC c k = j := fun j hj => (memc_iff hw).1 (h j hj)
  exact pigeon c.1.length C (fun j => if h : ∃ k, k < c.1.length ∧ cwC c k = j then Classical.choose h else 0) (fun j hj => by
    simp only [dif_pos (hs j hj)]; exact (Classical.choose_spec (hs j hj)).1) (fun i j hij hj he => by
    simp only [dif_pos (hs i (by omega)), dif_pos (hs j hj)] at he
    have h1 := (Classical.choose_spec (hs i (by omega))).2
    have h2 := (Classical.choose_spec (hs j hj)).2
    rw [he, h2] at h1; omega)
theorem free_some {c : CupT} (hw : CupW P R C c) {A : Mx} (H : CpC P R C A c) {f : Nat} (hf : f < C) (h : (f : Int) ∉ c.2.1) : c.1.length < C := by
  refine pigeon C (c.1.length + 1) (fun i => if i < c.1.length then cwC c i else f) (fun i hi => ?_) (fun i j hij hj he => ?_)
  · (try dsimp only)
    split
    · exact H.clt i (by assumption)
    · exact hf
  · (try dsimp only at he)
    rw [if_pos (by omega)] at he
    by_cases e : j < c.1.length
    · rw [if_pos e] at he
      have := H.cdis (by omega) e he; omega
    · rw [if_neg e] at he
      exact h ((memc_iff hw).2 ⟨i, by omega, he⟩)
theorem row_none {c : CupT} (hw : CupW P R C c) (h : ∀ j, j < R → (j : Int) ∈ c.1) : c.1.length = R := by
  refine Nat.le_antisymm hw.rle ?_
  have hs : ∀ j, j < R → ∃ k, k < c.1.length ∧ rwC c k = j := fun j hj => (mem_iff hw).1 (h j hj)
  exact pigeon c.1.length R (fun j => if h : ∃ k, k < c.1.length ∧ rwC c k = j then Classical.choose h else 0) (fun j hj => by
    simp only [dif_pos (hs j hj)]; exact (Classical.choose_spec (hs j hj)).1) (fun i j hij hj he => by
    simp only [dif_pos (hs i (by omega)), dif_pos (hs j hj)] at he
    have h1 := (Classical.choose_spec (hs i (by omega))).2
    have h2 := (Classical.choose_spec (hs j hj)).2
    rw [he, h2] at h1; omega)
theorem row_some {c : CupT} (hw : CupW P R C c) {A : Mx} (H : CpC P R C A c) {f : Nat} (hf : f < R) (h : (f : Int) ∉ c.1) : c.1.length < R := by
  refine pigeon R (c.1.length + 1) (fun i => if i < c.1.length then rwC c i else f) (fun i hi => ?_) (fun i j hij hj he => ?_)
  · (try dsimp only)
    split
    · exact H.rlt i (by assumption)
    · exact hf
  · (try dsimp only at he)
    rw [if_pos (by omega)] at he
    by_cases e : j < c.1.length
    · rw [if_pos e] at he
      have := H.rinc i j hij e; omega
    · rw [if_neg e] at he
      exact h ((mem_iff hw).2 ⟨i, by omega, he⟩)
theorem kerX_len (c : CupT) (f : Nat) : (kerX P C c f).length = C := svL_len (uniV_len C f) _
theorem kerX_in (hp : Md P) (c : CupT) (f : Nat) : ∀ a ∈ kerX P C c f, In P a := svL_in hp (uniV_in hp C f) (uniV_len C f) _
theorem kerX_one (hP : Prm P) (M : Mt P R C l) (hin : ∀ a ∈ l, In P a) {f : Nat} (hf : f < C) (h : (f : Int) ∉ (tkCup P C R l).2.1) : (kerX P C (tkCup P C R l) f).getD f 0 = 1 := by
  have hw := tkCup_W hP M hin
  have := (solved_ok hP M.hp hw (tkCup_Cp hP M hin) (zeroV (tkCup P C R l).1.length) (uniV_len C f) _ (Nat.le_refl _)).1 f hf fun k hk e => h ((memc_iff hw).2 ⟨k, hk, e.symm⟩)
  rw [show (kerX P C (tkCup P C R l) f).getD f 0 = _ from this]
  rw [show (uniV C f).getD f 0 = _ from tbl_getD _ hf, if_pos rfl]
theorem zeroV_get {n i : Nat} (h : i < n) : (zeroV n).getD i 0 = 0 := tbl_getD _ h
theorem kerX_zero (hP : Prm P) (M : Mt P R C l) (hin : ∀ a ∈ l, In P a) (f : Nat) : timesM P R C l (kerX P C (tkCup P C R l) f) = zeroV R := by
  have H := tkCup_Cp hP M hin
  refine list_ext0 (timesM_len ..) (zeroV_len R) fun i hi => ?_
  rw [timesM_ap M.len (kerX_len ..) hi, zeroV_get hi]
  refine H.ker.2 (fun k hk => ?_) i hi
  have := (solved_ok hP M.hp (tkCup_W hP M hin) H (zeroV (tkCup P C R l).1.length) (uniV_len C f) _ (Nat.le_refl _)).2 k (by omega) hk
  rw [zeroV_get hk] at this
  exact this
theorem kern_cases (hP : Prm P) (M : Mt P R C l) (hin : ∀ a ∈ l, In P a) : (kernR P C (tkCup P C R l) = ([], 6) ∧ (tkCup P C R l).1.length = C) ∨
    ∃ x, kernR P C (tkCup P C R l) = (x, 0) ∧ (tkCup P C R l).1.length < C ∧ x.length = C ∧ (∀ a ∈ x, In P a) ∧ timesM P R C l x = zeroV R ∧ x ≠ zeroV C := by
  have hw := tkCup_W hP M hin
  have H := tkCup_Cp hP M hin
  rcases fstI_cases (rws := (tkCup P C R l).2.1) (S := fun _ => true) (R := C) with ⟨e, h⟩ | ⟨f, e, h1, h2, _⟩
  · refine .inl ⟨by unfold kernR freeI; rw [e], free_none hw H fun j hj => Classical.byContradiction fun hn => by have := h j hj hn; cases this⟩
  · refine .inr ⟨kerX P C (tkCup P C R l) f, by unfold kernR freeI; rw [e], free_some hw H h1 h2, kerX_len _ f, kerX_in M.hp _ f, kerX_zero hP M hin f, fun e => ?_⟩
    have h3 := kerX_one hP M hin h1 h2
    rw [e, zeroV_get h1] at h3
    cases h3
theorem left_cases (hP : Prm P) (M : Mt P R C l) (hin : ∀ a ∈ l, In P a) : (fstR P R (tkCup P C R l) (fun _ => true) = ([], 6) ∧ (tkCup P C R l).1.length = R) ∨
    ∃ y, fstR P R (tkCup P C R l) (fun _ => true) = (y, 0) ∧ (tkCup P C R l).1.length < R ∧ y.length = R ∧ (∀ a ∈ y, In P a) ∧ leftM P y R C l = zeroV C ∧ y ≠ zeroV R := by
  have hw := tkCup_W hP M hin
  have H := tkCup_Cp hP M hin
  rcases fstI_cases (rws := (tkCup P C R l).1) (S := fun _ => true) (R := R) with ⟨e, h⟩ | ⟨f, e, h1, h2, _⟩
  · refine .inl ⟨by unfold fstR; rw [e], row_none hw fun j hj => Classical.byContradiction fun hn => by have := h j hj hn; cases this⟩
  · have V := rowsV_ok hP M hin h1 h2
    refine .inr ⟨rowsV P R (tkCup P C R l) f, by unfold fstR; rw [e], row_some hw H h1 h2, V.len, V.inn, V.left M.hp M.len, fun e => ?_⟩
    have h3 := V.one
    rw [e, zeroV_get h1] at h3
    cases h3
end
end Go.Proofs.Ytmalpmnmknpphaa.TM
namespace Go.Proofs.Ytmalpmnmknpphaa.TM
open Go Go.RowKit
attribute [local irreducible] K W WOps Effs Xg Xo Xr Xdg Xdo Xdr Xif CallsP CallR
def dtN (p : Int) (c : CupT) : Nat → Int
  | 0 => 1
  | j + 1 => dtN p c j * (c.2.2.2.getD j []).getD (c.2.1.getD j 0).toNat 0 % p
theorem dtN_in {p : Int} (hp : Md p) (c : CupT) : ∀ j, In p (dtN p c j)
  | 0 => ⟨by show (0 : Int) ≤ 1; decide, by have := hp.1; show (1 : Int) < p; omega⟩
  | j + 1 => in_emod hp _
theorem dtN_eq (p : Int) (c : CupT) : ∀ j, dtN p c j % p = prodN j (fun k => uuC c k (cwC c k)) % p
  | 0 => rfl
  | j + 1 => by rw [dtN, em_refl, prodN]; exact em_mul (dtN_eq p c j) rfl
theorem cols_ord {P R : Nat} {A : Mx} {c : CupT} (h1 : 1 ≤ R) (h2 : R ≤ 64) (hw : CupW P R R c) (H : CpC P R R A c) (hr : c.1.length = R) : orderB c.2.1 = true ∧ sgnR c.2.1 = sgnI (fun k => (cwC c k : Int)) R := by
  have e : c.2.1 = tbl R (fun k => (cwC c k : Int)) := by
    rw [← hr]
    refine (tbl_of hw.ql).trans (tbl_congr fun k hk => ?_)
    have := hw.qb _ (getD_mm (l := c.2.1) (d := 0) (i := k) (by rw [hw.ql]; exact hk))
    unfold cwC; omega
  have i1 : InjN (fun k => (cwC c k : Int)) R := fun i j hi hj he => H.cdis (by omega) (by omega) (by have : (cwC c i : Int) = cwC c j := he; omega)
  have i2 : InN (fun k => (cwC c k : Int)) R := fun i hi => ⟨by show (0 : Int) ≤ (cwC c i : Int); omega, by have := H.clt i (by omega); show (cwC c i : Int) < R; omega⟩
  have o := ord_tbl h1 h2 i1 i2
  rw [e]
  exact ⟨(orderB_iff _).2 o, sgn_tbl o⟩
set_option maxHeartbeats 2000000 in
theorem det_yes {P R : Nat} {l : List Int} (hP : Prm P) (M : Mt P R R l) (hin : ∀ a ∈ l, In P a) : CallsP Try.prog 35 [u64 P, matP R R l] (.tup [u64 (Lp R (cl R l) % P), i64 0]) := by
  have q1 := take_yes hP M hin
  have hw := tkCup_W hP M hin
  have H := tkCup_Cp hP M hin
  have hl := H.lp
  have co := fun h => cols_ord M.r1 M.r2 hw H h
  have hp := M.hp
  have r1 := M.r1
  have r2 := M.r2
  rw [hl]
  unfold pdX
  clear hl H
  have di := dtN_in hp (tkCup P R R l)
  have de := dtN_eq P (tkCup P R R l) R
  generalize hG : prodN R (fun k => uuC (tkCup P R R l) k (cwC (tkCup P R R l) k)) = G at de ⊢
  generalize hS : sgnI (fun k => (cwC (tkCup P R R l) k : Int)) R = S at co ⊢
  have s1 : S = 1 ∨ S = -1 := by rw [← hS]; exact sgnI_one _ _
  clear hG hS
  generalize tkCup P R R l = c at *
  obtain ⟨rw0, cw, cc, uu⟩ := c
  have rle := hw.rle
  have ul := hw.ul
  have ql := hw.ql
  simp only at rle ul ql co ⊢
  by_cases hr : rw0.length = R
  case neg =>
    rw [if_neg hr, Int.zero_emod]
    have h1 : (rw0.length : Int) < R := by omega
    refine X_startP (n := 73) (m := 2) (rs := [.tmp 4, .tmp 5]) Try.func35 rfl rfl rfl rfl (by decide) fun base => ?_
    repeat (first | ((first | refine X_call_fn2 rfl (by simp only [tys]) ?_ | refine X_dcall_fn2 rfl (by simp only [tys]) ?_); apply Exists.intro; apply And.intro; (focus (simp -dsimp only [simx, zzC, zzB, tys, ite_self, opnL, callB, callX, readsB, stepOp, nilCmp, ofVal, opBuiltin, opLen, PV.sk, scalBin, scalUn, intBin, opLoad, natOf, opConvert, opField, cellsP, oneP, Value.oneCell', opStore, toIV, scalT, scalA, scalC, boxesA, boxesC, zipB_none, zipB_mx, isZ, opZip, zeroP, opAppendZ, opMakeMap, opLookup, mboxB, opUpdate, ↓reduceIte, Nat.reduceSub, Nat.reduceEqDiff, Nat.reduceAdd, Nat.reduceMul, Nat.reduceLT, Nat.reduceLeDiff, Int.reduceToNat, Int.reduceLE, Int.reduceLT, Int.reduceNeg, reduceCtorEq, zzL, if_true, if_false] <;> rfl)); apply Exists.intro; apply And.intro; (focus (first | exact q1))) | refine X_opc rfl ?_ | refine X_dopc rfl ?_ | refine ⟨(by show drawK _ _ = true; kernel_rfl : drawX _ _ _), ?_⟩ | exact (by show drawK _ _ = true; kernel_rfl : drawX _ _ _) | simp -dsimp (maxSteps := 20000000) (disch := omega) only [simx, zzC, zzB, tys, ite_self, opnL, callB, callX, readsB, stepOp, nilCmp, ofVal, opBuiltin, opLen, PV.sk, scalBin, scalUn, intBin, opLoad, natOf, opConvert, opField, cellsP, oneP, Value.oneCell', opStore, toIV, scalT, scalA, scalC, boxesA, boxesC, zipB_none, zipB_mx, isZ, opZip, zeroP, opAppendZ, opMakeMap, opLookup, mboxB, opUpdate, ↓reduceIte, Nat.reduceSub, Nat.reduceEqDiff, Nat.reduceAdd, Nat.reduceMul, Nat.reduceLT, Nat.reduceLeDiff, Int.reduceToNat, Int.reduceLE, Int.reduceLT, Int.reduceNeg, reduceCtorEq, zzR, gos, Int.reduceAdd, Int.reduceSub, Int.reduceMul, Int.reduceEq, SK.len, h1])
  rw [if_pos hr]
  obtain ⟨o1, o2⟩ := co hr
  have h1 : ¬ (rw0.length : Int) < R := by omega
  have q2 := sign_walk cw (by rw [ql, mx_len]; omega)
  unfold signR at q2
  rw [if_pos o1, o2] at q2
  have q3 := Sub_in hp ⟨Int.le_refl 0, by have := hp.1; omega⟩ (di R)
  have e3 : (0 - dtN P (rw0, cw, cc, uu) R) % P = G * -1 % P := by
    rw [em_sub (rfl : (0 : Int) % P = 0 % P) de]
    congr 1
    omega
  have e2 : dtN P (rw0, cw, cc, uu) R = G * 1 % P := by
    rw [Int.mul_one, ← de, in_mod (di R)]
  rw [e3] at q3
  refine X_startP (n := 73) (m := 2) (rs := [.tmp 4, .tmp 5]) Try.func35 rfl rfl rfl rfl (by decide) fun base => ?_
  repeat (first | ((first | refine X_call_fn2 rfl (by simp only [tys]) ?_ | refine X_dcall_fn2 rfl (by simp only [tys]) ?_); apply Exists.intro; apply And.intro; (focus (simp -dsimp only [simx, zzC, zzB, tys, ite_self, opnL, callB, callX, readsB, stepOp, nilCmp, ofVal, opBuiltin, opLen, PV.sk, scalBin, scalUn, intBin, opLoad, natOf, opConvert, opField, cellsP, oneP, Value.oneCell', opStore, toIV, scalT, scalA, scalC, boxesA, boxesC, zipB_none, zipB_mx, isZ, opZip, zeroP, opAppendZ, opMakeMap, opLookup, mboxB, opUpdate, ↓reduceIte, Nat.reduceSub, Nat.reduceEqDiff, Nat.reduceAdd, Nat.reduceMul, Nat.reduceLT, Nat.reduceLeDiff, Int.reduceToNat, Int.reduceLE, Int.reduceLT, Int.reduceNeg, reduceCtorEq, zzL, if_true, if_false] <;> rfl)); apply Exists.intro; apply And.intro; (focus (first | exact q1))) | refine X_opc rfl ?_ | refine X_dopc rfl ?_ | refine ⟨(by show drawK _ _ = true; kernel_rfl : drawX _ _ _), ?_⟩ | exact (by show drawK _ _ = true; kernel_rfl : drawX _ _ _) | simp -dsimp (maxSteps := 20000000) (disch := omega) only [simx, zzC, zzB, tys, ite_self, opnL, callB, callX, readsB, stepOp, nilCmp, ofVal, opBuiltin, opLen, PV.sk, scalBin, scalUn, intBin, opLoad, natOf, opConvert, opField, cellsP, oneP, Value.oneCell', opStore, toIV, scalT, scalA, scalC, boxesA, boxesC, zipB_none, zipB_mx, isZ, opZip, zeroP, opAppendZ, opMakeMap, opLookup, mboxB, opUpdate, ↓reduceIte, Nat.reduceSub, Nat.reduceEqDiff, Nat.reduceAdd, Nat.reduceMul, Nat.reduceLT, Nat.reduceLeDiff, Int.reduceToNat, Int.reduceLE, Int.reduceLT, Int.reduceNeg, reduceCtorEq, gos, Int.reduceAdd, Int.reduceSub, Int.reduceMul, Int.reduceEq, SK.len, h1])
  refine X_loopH [0, 6, 8, 36, 37, 38] [] (0) (R) (fun j => True) (fun j => [(8, u64 (dtN P (rw0, cw, cc, uu) j)), (37, i64 R), (38, i64 j)]) (fun j => (Heap.none.put ((0, 0) :: base) (.var [i64 R, i64 R, lu l])).put ((3, 6) :: base) (.var [li rw0, li cw, llP cc, llP uu])) ?_ ?_ ?_ ?_ ?_ (by decide) ?_
  · exact (fgt_nil)
  · repeat (first | refine X_opc rfl ?_ | refine X_dopc rfl ?_ | refine ⟨(by show drawK _ _ = true; kernel_rfl : drawX _ _ _), ?_⟩ | exact (by show drawK _ _ = true; kernel_rfl : drawX _ _ _) | simp -dsimp (maxSteps := 20000000) (disch := omega) only [simx, zzC, zzB, tys, ite_self, opnL, callB, callX, readsB, stepOp, nilCmp, ofVal, opBuiltin, opLen, PV.sk, scalBin, scalUn, intBin, opLoad, natOf, opConvert, opField, cellsP, oneP, Value.oneCell', opStore, toIV, scalT, scalA, scalC, boxesA, boxesC, zipB_none, zipB_mx, isZ, opZip, zeroP, opAppendZ, opMakeMap, opLookup, mboxB, opUpdate, ↓reduceIte, Nat.reduceSub, Nat.reduceEqDiff, Nat.reduceAdd, Nat.reduceMul, Nat.reduceLT, Nat.reduceLeDiff, Int.reduceToNat, Int.reduceLE, Int.reduceLT, Int.reduceNeg, reduceCtorEq, gos, Int.reduceAdd, Int.reduceSub, Int.reduceMul, Int.reduceEq, ul, hr, dtN])
    rfl
  · funext c
    simp (maxSteps := 20000000) only [Heap.drop_at, rowH_app, Heap.put_at, Heap.none_at, List.mem_cons, List.not_mem_nil, or_false]
    by_cases e0 : c = (0, 0) :: base
    · subst e0; simp []
    by_cases e1 : c = (3, 6) :: base
    · subst e1; simp []
    simp [e0, e1]
  · omega
  · trivial
  · intro j hj _
    by_cases cj : j < R
    · have hq := hw.qb (cw.getD j 0) (getD_mm (by simp only; omega))
      obtain ⟨q, hqe⟩ : ∃ q : Nat, cw.getD j 0 = q := ⟨(cw.getD j 0).toNat, by omega⟩
      obtain ⟨u1, u2⟩ := hw.ur (uu.getD j []) (getD_mm (by simp only; omega))
      have qC : q < R := by omega
      have g1 : (uu.map fun u => IV.l u.length (u.map iu))[j]? = some (.l R ((uu.getD j []).map iu)) := by rw [List.getElem?_map, getD_at' (d := []) (by omega), Option.map_some, u1]
      have g2 : (cw.map ii)[j]? = some (ii (q : Int)) := by rw [List.getElem?_map, getD_at' (d := 0) (by omega), Option.map_some, hqe]
      have g3 : ((uu.getD j []).map iu)[q]? = some (iu ((uu.getD j []).getD q 0)) := by rw [List.getElem?_map, getD_some u1 qC]; rfl
      have m1 := Mul_in hp (di j) (getD_of u2 (i := q) (by omega))
      have dn : dtN P (rw0, cw, cc, uu) (j + 1) = dtN P (rw0, cw, cc, uu) j * (uu.getD j []).getD q 0 % P := by
        rw [dtN]; simp only [hqe, Int.toNat_natCast]
      rw [← dn] at m1
      obtain ⟨D1, hD1⟩ : ∃ D, dtN P (rw0, cw, cc, uu) (j + 1) = D := ⟨_, rfl⟩
      rw [hD1] at m1
      clear dn e2 e3 q3 di de
      generalize dtN P (rw0, cw, cc, uu) j = D0 at m1 ⊢
      obtain ⟨U, hU⟩ : ∃ U, uu.getD j [] = U := ⟨_, rfl⟩
      rw [hU] at g1 g3 m1
      generalize U.getD q 0 = x at g3 m1
      repeat (first | ((first | refine X_call_fn2 rfl (by simp only [tys]) ?_ | refine X_dcall_fn2 rfl (by simp only [tys]) ?_); apply Exists.intro; apply And.intro; (focus (simp -dsimp only [simx, zzC, zzB, tys, ite_self, opnL, callB, callX, readsB, stepOp, nilCmp, ofVal, opBuiltin, opLen, PV.sk, scalBin, scalUn, intBin, opLoad, natOf, opConvert, opField, cellsP, oneP, Value.oneCell', opStore, toIV, scalT, scalA, scalC, boxesA, boxesC, zipB_none, zipB_mx, isZ, opZip, zeroP, opAppendZ, opMakeMap, opLookup, mboxB, opUpdate, ↓reduceIte, Nat.reduceSub, Nat.reduceEqDiff, Nat.reduceAdd, Nat.reduceMul, Nat.reduceLT, Nat.reduceLeDiff, Int.reduceToNat, Int.reduceLE, Int.reduceLT, Int.reduceNeg, reduceCtorEq, zzL, if_true, if_false] <;> rfl)); apply Exists.intro; apply And.intro; (focus (first | exact m1))) | refine X_opc rfl ?_ | refine X_dopc rfl ?_ | refine ⟨(by show drawK _ _ = true; kernel_rfl : drawX _ _ _), ?_⟩ | exact (by show drawK _ _ = true; kernel_rfl : drawX _ _ _) | simp -dsimp (maxSteps := 20000000) (disch := omega) only [simx, zzC, zzB, tys, ite_self, opnL, callB, callX, readsB, stepOp, nilCmp, ofVal, opBuiltin, opLen, PV.sk, scalBin, scalUn, intBin, opLoad, natOf, opConvert, opField, cellsP, oneP, Value.oneCell', opStore, toIV, scalT, scalA, scalC, boxesA, boxesC, zipB_none, zipB_mx, isZ, opZip, zeroP, opAppendZ, opMakeMap, opLookup, mboxB, opUpdate, ↓reduceIte, Nat.reduceSub, Nat.reduceEqDiff, Nat.reduceAdd, Nat.reduceMul, Nat.reduceLT, Nat.reduceLeDiff, Int.reduceToNat, Int.reduceLE, Int.reduceLT, Int.reduceNeg, reduceCtorEq, gos, Int.reduceAdd, Int.reduceSub, Int.reduceMul, Int.reduceEq, cj, ul, ql, List.length_map, g1, g2, g3, qC, hr])
      exact ⟨cj, (fgt_nil), by rw [hD1]; exact ⟨rfl, rfl⟩, drop_nil _⟩
    · have ej : R = j := by omega
      subst ej
      clear de di
      generalize dtN P (rw0, cw, cc, uu) R = D at e2 e3 q3 ⊢
      rcases s1 with rfl | rfl
      · subst e2
        repeat (first | ((first | refine X_call_fn2 rfl (by simp only [tys]) ?_ | refine X_dcall_fn2 rfl (by simp only [tys]) ?_); apply Exists.intro; apply And.intro; (focus (simp -dsimp only [simx, zzC, zzB, tys, ite_self, opnL, callB, callX, readsB, stepOp, nilCmp, ofVal, opBuiltin, opLen, PV.sk, scalBin, scalUn, intBin, opLoad, natOf, opConvert, opField, cellsP, oneP, Value.oneCell', opStore, toIV, scalT, scalA, scalC, boxesA, boxesC, zipB_none, zipB_mx, isZ, opZip, zeroP, opAppendZ, opMakeMap, opLookup, mboxB, opUpdate, ↓reduceIte, Nat.reduceSub, Nat.reduceEqDiff, Nat.reduceAdd, Nat.reduceMul, Nat.reduceLT, Nat.reduceLeDiff, Int.reduceToNat, Int.reduceLE, Int.reduceLT, Int.reduceNeg, reduceCtorEq, zzL, if_true, if_false] <;> rfl)); apply Exists.intro; apply And.intro; (focus (first | exact q2))) | refine X_opc rfl ?_ | refine X_dopc rfl ?_ | refine ⟨(by show drawK _ _ = true; kernel_rfl : drawX _ _ _), ?_⟩ | exact (by show drawK _ _ = true; kernel_rfl : drawX _ _ _) | simp -dsimp (maxSteps := 20000000) (disch := omega) only [simx, zzC, zzB, tys, ite_self, opnL, callB, callX, readsB, stepOp, nilCmp, ofVal, opBuiltin, opLen, PV.sk, scalBin, scalUn, intBin, opLoad, natOf, opConvert, opField, cellsP, oneP, Value.oneCell', opStore, toIV, scalT, scalA, scalC, boxesA, boxesC, zipB_none, zipB_mx, isZ, opZip, zeroP, opAppendZ, opMakeMap, opLookup, mboxB, opUpdate, ↓reduceIte, Nat.reduceSub, Nat.reduceEqDiff, Nat.reduceAdd, Nat.reduceMul, Nat.reduceLT, Nat.reduceLeDiff, Int.reduceToNat, Int.reduceLE, Int.reduceLT, Int.reduceNeg, reduceCtorEq, zzR, gos, Int.reduceAdd, Int.reduceSub, Int.reduceMul, Int.reduceEq])
      · repeat (first | ((first | refine X_call_fn2 rfl (by simp only [tys]) ?_ | refine X_dcall_fn2 rfl (by simp only [tys]) ?_); apply Exists.intro; apply And.intro; (focus (simp -dsimp only [simx, zzC, zzB, tys, ite_self, opnL, callB, callX, readsB, stepOp, nilCmp, ofVal, opBuiltin, opLen, PV.sk, scalBin, scalUn, intBin, opLoad, natOf, opConvert, opField, cellsP, oneP, Value.oneCell', opStore, toIV, scalT, scalA, scalC, boxesA, boxesC, zipB_none, zipB_mx, isZ, opZip, zeroP, opAppendZ, opMakeMap, opLookup, mboxB, opUpdate, ↓reduceIte, Nat.reduceSub, Nat.reduceEqDiff, Nat.reduceAdd, Nat.reduceMul, Nat.reduceLT, Nat.reduceLeDiff, Int.reduceToNat, Int.reduceLE, Int.reduceLT, Int.reduceNeg, reduceCtorEq, zzL, if_true, if_false] <;> rfl)); apply Exists.intro; apply And.intro; (focus (first | exact q2 | exact q3))) | refine X_opc rfl ?_ | refine X_dopc rfl ?_ | refine ⟨(by show drawK _ _ = true; kernel_rfl : drawX _ _ _), ?_⟩ | exact (by show drawK _ _ = true; kernel_rfl : drawX _ _ _) | simp -dsimp (maxSteps := 20000000) (disch := omega) only [simx, zzC, zzB, tys, ite_self, opnL, callB, callX, readsB, stepOp, nilCmp, ofVal, opBuiltin, opLen, PV.sk, scalBin, scalUn, intBin, opLoad, natOf, opConvert, opField, cellsP, oneP, Value.oneCell', opStore, toIV, scalT, scalA, scalC, boxesA, boxesC, zipB_none, zipB_mx, isZ, opZip, zeroP, opAppendZ, opMakeMap, opLookup, mboxB, opUpdate, ↓reduceIte, Nat.reduceSub, Nat.reduceEqDiff, Nat.reduceAdd, Nat.reduceMul, Nat.reduceLT, Nat.reduceLeDiff, Int.reduceToNat, Int.reduceLE, Int.reduceLT, Int.reduceNeg, reduceCtorEq, zzR, gos, Int.reduceAdd, Int.reduceSub, Int.reduceMul, Int.reduceEq])
end Go.Proofs.Ytmalpmnmknpphaa.TM
namespace Go.Proofs.Ytmalpmnmknpphaa.TM
open Go Go.RowKit
theorem apX_cong {p : Int} {C : Nat} {A B : Mx} {x : Nat → Int} {i : Nat} (h : ∀ j, j < C → A i j % p = B i j % p) : apX C A x i % p = apX C B x i % p := sumN_mod fun j hj => em_mul (h j hj) rfl
theorem apX_id {C : Nat} {x : Nat → Int} {i : Nat} (hi : i < C) : apX C idX x i = x i := by
  unfold apX
  rw [← sumN_one x hi]
  refine sumN_congr fun j _ => ?_
  unfold idX
  by_cases e : j = i
  · rw [if_pos e, if_pos e, Int.one_mul]
  · rw [if_neg e, if_neg e, Int.zero_mul]
def InvX (P R : Nat) (A U : Mx) : Prop := ∀ i j, i < R → j < R → mulX R A U i j % P = idX i j % P
def InjX (P R : Nat) (A : Mx) : Prop := ∀ x : Nat → Int, (∀ i, i < R → apX R A x i % P = 0) → ∀ j, j < R → x j % P = 0
section
variable {P R : Nat} {A B U V : Mx}
theorem InvX.ap (h : InvX P R A U) (x : Nat → Int) {i : Nat} (hi : i < R) : apX R A (apX R U x) i % P = x i % P := by
  rw [← apX_mul, apX_cong (B := idX) (fun j hj => h i j hi hj), apX_id hi]
theorem InvX.left (h : InvX P R A U) (hI : InjX P R A) : InvX P R U A := fun k j hk hj => by
  refine emod_sub0.2 (hI (fun k => mulX R U A k j - idX k j) (fun i hi => ?_) k hk)
  rw [apX_sub]
  refine emod_sub0.1 ?_
  have h1 : apX R A (fun j_1 => mulX R U A j_1 j) i % P = A i j % P := h.ap (fun m => A m j) hi
  rw [h1]
  have h2 : apX R A (fun m => idX m j) i = A i j := by
    unfold apX
    rw [← sumN_one (fun m => A i m) hj]
    refine sumN_congr fun m _ => ?_
    show A i m * (if j = m then 1 else 0) = if m = j then A i m else 0
    by_cases e : m = j
    · rw [if_pos e.symm, if_pos e, Int.mul_one]
    · rw [if_neg (fun h => e h.symm), if_neg e, Int.mul_zero]
  rw [h2]
theorem InvX.mul (h : InvX P R A U) (k : InvX P R B V) : InvX P R (mulX R A B) (mulX R V U) := fun i j hi hj => by
  have e : mulX R (mulX R A B) (mulX R V U) i j = apX R A (apX R B (apX R V (fun k => U k j))) i := by
    show apX R (mulX R A B) (apX R V (fun k => U k j)) i = _
    rw [apX_mul]
  rw [e]
  exact (apX_mod (fun m hm => k.ap (fun k => U k j) hm) i).trans (h i j hi hj)
theorem InvX.cong {A' U' : Mx} (h : InvX P R A U) (ha : ∀ i j, i < R → j < R → A' i j % P = A i j % P) (hu : ∀ i j, i < R → j < R → U' i j % P = U i j % P) : InvX P R A' U' := fun i j hi hj => by
  rw [← h i j hi hj]
  exact sumN_mod fun k hk => em_mul (ha i k hi hk) (hu k j hk hj)
theorem InvX.lp (hP : Prm P) (hp : Md P) (h : InvX P R A U) : Lp R A * Lp R U % P = 1 := by
  rw [← Lp_mulX hP hp, Lp_mod R h, Lp_id]
  exact Int.emod_eq_of_lt (by decide) (by have := hp.1; omega)
end
section
variable {P R : Nat} {l : List Int}
theorem full_iff (hP : Prm P) (M : Mt P R R l) (hin : ∀ a ∈ l, In P a) : Lp R (cl R l) % P ≠ 0 ↔ (tkCup P R R l).1.length = R := by
  have H := tkCup_Cp hP M hin
  rw [H.lp]; exact H.det_nz hP
end
end Go.Proofs.Ytmalpmnmknpphaa.TM
