/- TM: appends in regions whose order is open. Conditions: none; lemmas. -/
import Derived.Test.YtkhjfphenflefaaWWords
namespace Go.Proofs.Ytkhjfphenflefaa.TM
open Go
set_option linter.unusedVariables false
set_option linter.defProp false
set_option linter.unusedSimpArgs false
section
variable {P : Program} {C : CallRel} {h0 : Heap} {base : Name} {Qf : Ex → List PV → Heap → Prop} {k : List It} {t : List PV} {h : Heap}
theorem Xdr_eq {r : Option Out} {out : Out} {d : Option Tmp} {p : Op} {nm : Name} {id : Nat} {ops : Array Oper} {ds : List (Option Tmp)} {i : Nat} {os : List Oper} {pf : XPf ops ds i os} {acc : List Keys} (hr : r = some out)
    (hk : K P C h0 base Qf (.xdops id ops ds i os pf ((keysU out.ups, keysT nm p ((opnL p).map (St.opnd t))) :: acc) :: k) .normal (putT t d out.val) (h.ups out.ups)) : Xdr P C h0 base Qf r d p nm (mkD id ops ds i os pf) acc k t h := by
  subst hr; exact hk
theorem X_dappend_one {d : Option Tmp} {p : Op} {nm : Name} {id : Nat} {ops : Array Oper} {ds : List (Option Tmp)} {i : Nat} {os : List Oper} {pf : XPf ops ds i os} {acc : List Keys} {s b : Name} {ty : TypeId} (e : TypeId) (zs : List Value) {n z : Nat} {cs : List IV} (xs : List IV) {fz : Bool}
    (he : elemB P ty = some e) (hz : zeroB P e = some zs) (hzl : zs.length = z) (hz0 : 0 < z) (hn : cs.length = n * z) (hs : h s = if n = 0 then none else some (.row false cs)) (hb : h b = some (.row fz xs)) (hx : xs.length = z)
    (hby : (n + 1) * P.bytesOf e ≤ 140737488355328) (hl : n + 1 ≤ maxLen)
    (hk : K P C h0 base Qf (.xdops id ops ds i os pf ((keysU [(s, Box.row false (cs ++ xs))], keysT nm p ((opnL p).map (St.opnd t))) :: acc) :: k) .normal (putT t d (rowP s z (n + 1) (cs ++ xs))) (h.put s (.row false (cs ++ xs)))) :
    Xdr P C h0 base Qf (opAppend P h s ty (rowP s z n cs) (.view b 0 z 1 z)) d p nm (mkD id ops ds i os pf) acc k t h := by
  refine Xdr_eq (append_row he hz hzl hz0 hn hs rfl (m := 1) rfl (by decide) (xs := xs) ?_ hby hl) hk
  simp only [SK.cells, hb, hx, Nat.zero_add, Nat.one_mul, Nat.le_refl, and_self, if_true, List.drop_zero]
  rw [← hx, List.take_length]
theorem X_append_own {R : It} {d : Option Tmp} {s b bx : Name} {ty : TypeId} (e : TypeId) (zs : List Value) {n z top : Nat} {cs : List IV} (xs : List IV) {fz : Bool}
    (he : elemB P ty = some e) (hz : zeroB P e = some zs) (hzl : zs.length = z) (hz0 : 0 < z) (hb : h b = some (.row false cs)) (ht : top = cs.length) (hn : cs.length = n * z) (hx : h bx = some (.row fz xs)) (hxl : xs.length = z)
    (hby : (n + 1) * P.bytesOf e ≤ 140737488355328) (hl : n + 1 ≤ maxLen)
    (hk : K P C h0 base Qf (R :: k) .normal (putT t d (.view b 0 z (n + 1) (cs ++ xs).length)) (h.put b (.row false (cs ++ xs)))) :
    Xr P C h0 base Qf (opAppend P h s ty (.view b 0 z n top) (.view bx 0 z 1 z)) d R k t h := by
  subst ht
  subst hzl
  refine Xr_eq (out := ⟨.view b 0 zs.length (n + 1) (cs ++ xs).length, [(b, .row false (cs ++ xs))]⟩) ?_ hk
  unfold opAppend
  rw [he]
  simp only [hz]
  simp only [show (PV.view b 0 zs.length n cs.length).sk = some (SK.own b 0 zs.length n cs.length) from rfl, show (PV.view bx 0 zs.length 1 zs.length).sk = some (SK.own bx 0 zs.length 1 zs.length) from rfl, SK.cells, SK.len, hx, hxl, Nat.zero_add, Nat.one_mul, Nat.le_refl, and_self, if_true, List.drop_zero]
  rw [← hxl, List.take_length, if_pos ⟨hxl ▸ hz0, hby, hl⟩, if_neg (by omega), hb]
  simp only [hxl, hn, and_self, if_true, true_and]
/-- A call that shares the memory. -/
theorem X_call_shared {id : Nat} {ops : Array Oper} {ds : List (Option Tmp)} {i : Nat} {d : Option Tmp} {p : Op} {ty : TypeId} {ps : String} {af : Array Edge} {g0 : Option (Nat × Bool)} {os : List Oper} {pf : XPf ops ds i ({ dst := d, op := p, type := ty, pos := ps, after := af, guard := g0 } :: os)} {c : Call} {g : FuncId} {args : List PV} {v : PV} {h' : Heap}
    (hs : CallR P ((id, i) :: base) g args h v h') (ho : p = .call c) (hcal : calleeOf t c = some (g, args)) (he : enterB P g = true)
    (hk : K P (CallR P) h0 base Qf (.xops id ops (d :: ds) (i + 1) os ⟨pf.h.step⟩ :: k) .normal (putT t d v) h') :
    K P (CallR P) h0 base Qf (.xcall id ops ds i { dst := d, op := p, type := ty, pos := ps, after := af, guard := g0 } os pf :: k) .normal t h :=
  K_call_shared (i := i) (ops := ops) (id := id) (os := os) (o := { dst := d, op := p, type := ty, pos := ps, after := af, guard := g0 }) hs ho hcal he hk
theorem keysL_row0 (s : Name) (z : Nat) (cs : List IV) (ps : List PV) : keysL (rowP s z 0 cs :: ps) = keysL ps := rfl
theorem keysL_rowS (s : Name) (z n : Nat) (cs : List IV) (ps : List PV) : keysL (rowP s z (n + 1) cs :: ps) = keyN s :: keysL ps := rfl
end
end Go.Proofs.Ytkhjfphenflefaa.TM
