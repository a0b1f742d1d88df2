/- TM: all that simp is told, in bundles. Conditions: none; lemmas. -/
import Derived.Test.YtnnkoghmglpnmaaTmX
namespace Go.Proofs.Ytnnkoghmglpnmaa.TM
open Go
set_option linter.unusedVariables false
set_option linter.defProp false
def zzB0 :=
  And.intro @sims <| And.intro @sim5 <| And.intro @sim6 <| And.intro @List.filterMap_cons.{0,0} <| And.intro @imp_self <| And.intro @false_imp_iff <| And.intro @true_imp_iff <| And.intro @zeroRow_zero <| And.intro @zeroRow_succ <| And.intro @List.flatten_cons.{0} <| And.intro @List.flatten_nil.{0} <| And.intro @List.replicate_succ.{0} <| And.intro @List.replicate_zero.{0} <| And.intro @Nat.le_refl <| And.intro @rowH_app <| And.intro @Kdres_keys <| And.intro @RoundG_normal <| And.intro @RoundG_exit <| And.intro @RoundG_ret <| And.intro @guardB.eq_1 <| And.intro @just.eq_1 <| And.intro @sim7 <| And.intro @opMake.eq_1 <| And.intro @putT.eq_1 <| And.intro @putT.eq_2 <| And.intro @undefP.eq_1 <| And.intro @SK.len.eq_1 <| And.intro @SK.len.eq_2 <| And.intro @SK.len.eq_3 <| @SK.pv.eq_1
def zzB1 :=
  And.intro @SK.pv.eq_2 <| And.intro @SK.pv.eq_3 <| And.intro @opIndexAddr.eq_1 <| And.intro @opFieldAddr.eq_1 <| And.intro @partP.eq_1 <| And.intro @opBox.eq_1 <| And.intro @opAlloc.eq_1 <| And.intro @opBuild.eq_1 <| And.intro @opBuildSlice.eq_1 <| And.intro @fillP.eq_1 <| And.intro @fillP.eq_2 <| And.intro @Places.get.eq_1 <| And.intro @Places.get.eq_2 <| And.intro @newBox.eq_1 <| And.intro @Heap.none_at <| And.intro @Heap.put_at <| And.intro @List.cons.injEq.{0} <| And.intro @Prod.mk.injEq.{0,0} <| And.intro @Nat.succ_ne_zero <| And.intro @and_false <| And.intro @false_and <| And.intro @Bool.false_and <| And.intro @Bool.and_false <| And.intro @Bool.or_true <| And.intro @Bool.true_or <| And.intro @Bool.false_or <| And.intro @Bool.or_false <| And.intro @Bool.not_true <| And.intro @Bool.not_false <| @keepT_t
def zzB2 :=
  And.intro @keepT_f <| And.intro @keepT_nil <| And.intro @sets_nil <| And.intro @sets_cons <| And.intro @spliceL.eq_1 <| And.intro @toIVs.eq_1 <| And.intro @toIVs.eq_2 <| And.intro @optNat.eq_1 <| And.intro @optNat.eq_2 <| And.intro @opSlice.eq_1 <| And.intro @List.replicate.eq_1.{0} <| And.intro @List.replicate.eq_2.{0} <| And.intro @freezeOf_nil <| And.intro @freezeOf_row <| @frz_row
def zzB := And.intro zzB0 <| And.intro zzB1 <| zzB2
def zzL :=
  And.intro @simr <| And.intro @Heap.put_at <| And.intro @Heap.none_at <| And.intro @rowH_app <| And.intro @List.cons.injEq.{0} <| And.intro @Prod.mk.injEq.{0,0} <| And.intro @Nat.succ_ne_zero <| And.intro @and_false <| And.intro @false_and <| And.intro @and_true <| And.intro @and_self <| And.intro @Nat.zero_add <| And.intro @Nat.mul_one <| And.intro @List.length_cons.{0} <| And.intro @List.length_nil.{0} <| And.intro @Nat.le_refl <| And.intro @List.drop_zero.{0} <| And.intro @List.take_succ_cons.{0} <| And.intro @List.take_zero.{0} <| And.intro @Option.map_some.{0,0} <| And.intro @List.map_cons.{0,0} <| @List.map_nil.{0,0}
def zzR :=
  And.intro @simr <| And.intro @or_true <| And.intro @true_or <| And.intro @false_or <| @or_false
end Go.Proofs.Ytnnkoghmglpnmaa.TM
