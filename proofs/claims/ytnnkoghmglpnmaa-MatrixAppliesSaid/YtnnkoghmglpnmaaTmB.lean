/- TM and the model: how boxes and data lie in memory, and what keeps them so. Conditions: none; lemmas for the soundness of TM. -/
import Derived.Test.YtnnkoghmglpnmaaTmA
namespace Go.Proofs.Ytnnkoghmglpnmaa.TM
open Go
set_option linter.unusedVariables false
set_option linter.defProp false

def szW (w : World) (blk : Nat) : Nat := match w.heap[blk]? with
  | some (.cells c _ _) => c.size
  | _ => 0
/-- Where the boxes lie; F: blocks that nobody looks at. -/
structure Pl where
  b : Name → Nat
  F : Nat → Prop
instance : CoeFun Pl (fun _ => Name → Nat) := ⟨Pl.b⟩
def Shut (β : Pl) (h : Heap) (blk : Nat) : Prop := ∀ b x, h b = some x → x.open = true → β b ≠ blk
def Stable (β : Pl) (h : Heap) (blk : Nat) : Prop := ¬ β.F blk ∧ Shut β h blk
def Rd (β : Pl) (h : Heap) (w : World) (a : Addr) (v : Value) : Prop := Stable β h a.block ∧ w.cell? a = some v

inductive RepI (R : Addr → Value → Prop) : IV → Value → Prop
  | v (x : Value) : RepI R (.v x) x
  | nil : RepI R (.l 0 []) (.slice none 0 0)
  | l (n : Nat) (cs : List IV) (a : Addr) (cap : Nat) (f : Nat → Value) (hc : n ≤ cap) (hr : ∀ j, j < cs.length → R (a.add j) (f j)) (h1 : ∀ j, j < cs.length → (f j).oneCell' = true)
      (hs : ∀ j x, cs[j]? = some x → RepI R x (f j)) : RepI R (.l n cs) (.slice (some a) n cap)

inductive RepP (β : Pl) (h : Heap) (R : Addr → Value → Prop) (S : Nat → Nat) : PV → Value → Prop
  | i (x : IV) (v : Value) : RepI R x v → RepP β h R S (.i x) v
  | view (b : Name) (off z n top : Nat) (x : Box) (a : Option Addr) (cap : Nat) (hb : h b = some x) (hrow : x.isRow = true) (ht : top ≤ x.len) (hn : n ≤ cap) (ha : a = none → n = 0 ∧ cap = 0)
      (hv : x.len = top → (n = 0 ∧ cap = 0) ∨ (a = some ⟨β b, off, none⟩ ∧ off + cap * z ≤ S (β b))) : RepP β h R S (.view b off z n top) (.slice a n cap)
  | ref (b : Name) (off top : Nat) (x : Box) (a : Addr) (hb : h b = some x) (ht : top ≤ x.len) (hv : x.len = top → a = ⟨β b, off, none⟩) : RepP β h R S (.ref b off top) (.pointer (some a))
  | iref (cs : List IV) (off : Nat) (a : Addr) (f : Nat → Value) (hr : ∀ j, j < cs.length → R (a.add j) (f j)) (h1 : ∀ j, j < cs.length → (f j).oneCell' = true)
      (hs : ∀ j x, cs[j]? = some x → RepI R x (f j)) : RepP β h R S (.iref cs off) (.pointer (some (a.add off)))
  | agg (cs : List PV) (arr : Array Value) (hl : arr.size = cs.length) (hs : ∀ j x, cs[j]? = some x → RepP β h R S x (arr.getD j undef)) : RepP β h R S (.agg cs) (.agg arr)
  | tup (cs : List PV) (arr : Array Value) (hl : arr.size = cs.length) (hs : ∀ j x, cs[j]? = some x → RepP β h R S x (arr.getD j undef)) : RepP β h R S (.tup cs) (.tuple arr)
  | clo (f : FuncId) (cs : List PV) (arr : Array Value) (hl : arr.size = cs.length) (hs : ∀ j x, cs[j]? = some x → RepP β h R S x (arr.getD j undef)) : RepP β h R S (.clo f cs) (.func (.func f) #[] arr)
  | dead (v : Value) : RepP β h R S .dead v

/-- What a slot holds in the world w. -/
abbrev Rep (β : Pl) (h : Heap) (w : World) : PV → Value → Prop := RepP β h (Rd β h w) (szW w)

def BoxRep (β : Pl) (h : Heap) (w : World) (x : Box) (c : Array Value) : Prop :=
  match x with
  | .row _ cs => cs.length ≤ c.size ∧ ∀ j y, cs[j]? = some y → (c.getD j undef).oneCell' = true ∧ RepI (Rd β h w) y (c.getD j undef)
  | .var cs => cs.length ≤ c.size ∧ ∀ j y, cs[j]? = some y → (c.getD j undef).oneCell' = true ∧ Rep β h w y (c.getD j undef)

structure HInv (β : Pl) (h : Heap) (w : World) : Prop where
  inj : ∀ b b' x x', h b = some x → h b' = some x' → β b = β b' → b = b'
  nf : ∀ b x, h b = some x → ¬ β.F (β b)
  flt : ∀ blk, β.F blk → blk < w.heap.size
  box : ∀ b x, h b = some x → ∃ c e, w.heap[β b]? = some (.cells c e (0, 0)) ∧ BoxRep β h w x c

structure Ext (β : Pl) (h : Heap) (w : World) (β' : Pl) (h' : Heap) (w' : World) : Prop where
  os : w'.os = w.os
  tape : w'.tape = w.tape
  output : w'.output = w.output
  size : w.heap.size ≤ w'.heap.size
  F : β'.F = β.F
  stab : ∀ blk, blk < w.heap.size → Shut β h blk → Shut β' h' blk ∧ w'.heap[blk]? = w.heap[blk]?
  keep : ∀ b x, h b = some x → ∃ x', h' b = some x' ∧ x'.isRow = x.isRow ∧ x.len ≤ x'.len ∧ (x'.len = x.len → β' b = β b)
  sz : ∀ blk, blk < w.heap.size → szW w' blk = szW w blk

theorem HInv.lt {β : Pl} {h : Heap} {w : World} (H : HInv β h w) {b : Name} {x : Box} (hb : h b = some x) : β b < w.heap.size := by
  obtain ⟨c, e, hc, _⟩ := H.box b x hb
  exact (Array.getElem?_eq_some_iff.1 hc).1

theorem Ext.refl (β : Pl) (h : Heap) (w : World) : Ext β h w β h w :=
  ⟨rfl, rfl, rfl, Nat.le_refl _, rfl, fun _ _ hs => ⟨hs, rfl⟩, fun b x hb => ⟨x, hb, rfl, Nat.le_refl _, fun _ => rfl⟩, fun _ _ => rfl⟩

theorem Ext.trans {β β' β'' : Pl} {h h' h'' : Heap} {w w' w'' : World} (E : Ext β h w β' h' w') (F : Ext β' h' w' β'' h'' w'') : Ext β h w β'' h'' w'' := by
  refine ⟨F.os.trans E.os, F.tape.trans E.tape, F.output.trans E.output, Nat.le_trans E.size F.size, F.F.trans E.F, ?_, ?_, ?_⟩
  · intro blk hl hs
    obtain ⟨hs', he⟩ := E.stab blk hl hs
    obtain ⟨hs'', he'⟩ := F.stab blk (Nat.lt_of_lt_of_le hl E.size) hs'
    exact ⟨hs'', he'.trans he⟩
  · intro b x hb
    obtain ⟨x', hb', hr, hl, hq⟩ := E.keep b x hb
    obtain ⟨x'', hb'', hr', hl', hq'⟩ := F.keep b x' hb'
    refine ⟨x'', hb'', hr'.trans hr, Nat.le_trans hl hl', fun he => ?_⟩
    have h1 : x'.len = x.len := by omega
    have h2 : x''.len = x'.len := by omega
    exact (hq' h2).trans (hq h1)
  · intro blk hl
    exact (F.sz blk (Nat.lt_of_lt_of_le hl E.size)).trans (E.sz blk hl)

theorem RepI.mono {R R' : Addr → Value → Prop} (hR : ∀ a v, R a v → R' a v) {x : IV} {v : Value} (h : RepI R x v) : RepI R' x v := by
  induction h with
  | v x => exact .v x
  | nil => exact .nil
  | l n cs a cap f hc hr h1 hs ih => exact .l n cs a cap f hc (fun j hj => hR _ _ (hr j hj)) h1 ih

theorem Rd.mono {β β' : Pl} {h h' : Heap} {w w' : World} (E : Ext β h w β' h' w') {a : Addr} {v : Value} (hr : Rd β h w a v) : Rd β' h' w' a v := by
  obtain ⟨⟨hf, hs⟩, hc⟩ := hr
  obtain ⟨hs', he⟩ := E.stab a.block (World.block_lt_of_cell? w a hc) hs
  exact ⟨⟨by rw [E.F]; exact hf, hs'⟩, (World.cell?_of_block he).trans hc⟩

theorem RepP.mono {β β' : Pl} {h h' : Heap} {w w' : World} (H : HInv β h w) (E : Ext β h w β' h' w') {p : PV} {v : Value} (hp : Rep β h w p v) : Rep β' h' w' p v := by
  have hR : ∀ a v, Rd β h w a v → Rd β' h' w' a v := fun a v => Rd.mono E
  induction hp with
  | i x v hx => exact .i x v (hx.mono hR)
  | view b off z n top x a cap hb hrow ht hn ha hv =>
    obtain ⟨x', hb', hr', hl', hq'⟩ := E.keep b x hb
    refine .view b off z n top x' a cap hb' (hr'.trans hrow) (Nat.le_trans ht hl') hn ha fun he => ?_
    have h1 : x.len = top := by omega
    have h2 : x'.len = x.len := by omega
    rw [hq' h2]
    rcases hv h1 with h0 | ⟨h0, hz⟩
    · exact .inl h0
    · exact .inr ⟨h0, by rw [E.sz (β b) (H.lt hb)]; exact hz⟩
  | ref b off top x a hb ht hv =>
    obtain ⟨x', hb', hr', hl', hq'⟩ := E.keep b x hb
    refine .ref b off top x' a hb' (Nat.le_trans ht hl') fun he => ?_
    have h1 : x.len = top := by omega
    have h2 : x'.len = x.len := by omega
    rw [hq' h2]
    exact hv h1
  | iref cs off a f hr h1 hs => exact .iref cs off a f (fun j hj => hR _ _ (hr j hj)) h1 fun j x hx => (hs j x hx).mono hR
  | agg cs arr hl hs ih => exact .agg cs arr hl ih
  | tup cs arr hl hs ih => exact .tup cs arr hl ih
  | clo f cs arr hl hs ih => exact .clo f cs arr hl ih
  | dead v => exact .dead v

theorem BoxRep.mono {β β' : Pl} {h h' : Heap} {w w' : World} (H : HInv β h w) (E : Ext β h w β' h' w') {x : Box} {c : Array Value} (hx : BoxRep β h w x c) : BoxRep β' h' w' x c := by
  cases x with
  | row fz cs => exact ⟨hx.1, fun j y hj => ⟨(hx.2 j y hj).1, (hx.2 j y hj).2.mono fun a v => Rd.mono E⟩⟩
  | var cs => exact ⟨hx.1, fun j y hj => ⟨(hx.2 j y hj).1, RepP.mono H E (hx.2 j y hj).2⟩⟩

/-- One box changes; all others lie as they lay. -/
theorem HInv.step {β β' : Pl} {h h' : Heap} {w w' : World} (H : HInv β h w) (E : Ext β h w β' h' w') (b0 : Name)
    (hoth : ∀ b x, b ≠ b0 → h b = some x → β' b = β b ∧ w'.heap[β b]? = w.heap[β b]?) (hput : ∀ b, b ≠ b0 → h' b = h b)
    (hnew : ∀ x, h' b0 = some x → ∃ c e, w'.heap[β' b0]? = some (.cells c e (0, 0)) ∧ BoxRep β' h' w' x c)
    (hinj : ∀ b x y, b ≠ b0 → h b = some x → h' b0 = some y → β b ≠ β' b0) (hnf : ∀ x, h' b0 = some x → ¬ β'.F (β' b0)) : HInv β' h' w' := by
  refine ⟨fun b b' x x' hb hb' he => ?_, fun b x hb => ?_, fun blk hF => Nat.lt_of_lt_of_le (H.flt blk (by rw [← E.F]; exact hF)) E.size, fun b x hb => ?_⟩
  · by_cases h1 : b = b0
    · by_cases h2 : b' = b0
      · exact h1.trans h2.symm
      · subst h1
        rw [hput b' h2] at hb'
        rw [(hoth b' x' h2 hb').1] at he
        exact absurd he.symm (hinj b' x' x h2 hb' hb)
    · by_cases h2 : b' = b0
      · subst h2
        rw [hput b h1] at hb
        rw [(hoth b x h1 hb).1] at he
        exact absurd he (hinj b x x' h1 hb hb')
      · rw [hput b h1] at hb
        rw [hput b' h2] at hb'
        rw [(hoth b x h1 hb).1, (hoth b' x' h2 hb').1] at he
        exact H.inj b b' x x' hb hb' he
  · by_cases h1 : b = b0
    · subst h1; exact hnf x hb
    · rw [hput b h1] at hb
      rw [(hoth b x h1 hb).1, E.F]
      exact H.nf b x hb
  · by_cases h1 : b = b0
    · subst h1; exact hnew x hb
    · rw [hput b h1] at hb
      obtain ⟨c, e, hc, hr⟩ := H.box b x hb
      refine ⟨c, e, ?_, hr.mono H E⟩
      rw [(hoth b x h1 hb).1, (hoth b x h1 hb).2]
      exact hc

def Heap.ups (h : Heap) (us : List (Name × Box)) : Heap := us.foldl (fun h u => h.put u.1 u.2) h
@[simp] theorem Heap.ups_nil (h : Heap) : h.ups [] = h := rfl
theorem Heap.ups_cons (h : Heap) (u : Name × Box) (us : List (Name × Box)) : h.ups (u :: us) = (h.put u.1 u.2).ups us := rfl
theorem Heap.ups_append (h : Heap) (us vs : List (Name × Box)) : h.ups (us ++ vs) = (h.ups us).ups vs := List.foldl_append
theorem Heap.put_same (h : Heap) (b : Name) (x : Box) : h.put b x b = some x := by simp [Heap.put]
theorem Heap.put_ne (h : Heap) {b c : Name} (x : Box) (hne : c ≠ b) : h.put b x c = h c := by simp [Heap.put, hne]

/-! ### the world changes, the boxes don't -/
theorem Ext.drew (β : Pl) (h : Heap) (w : World) : Ext β h w β h w.drew :=
  ⟨rfl, rfl, rfl, Nat.le_refl _, rfl, fun _ _ hs => ⟨hs, rfl⟩, fun b x hb => ⟨x, hb, rfl, Nat.le_refl _, fun _ => rfl⟩, fun _ _ => rfl⟩
theorem HInv.drew {β : Pl} {h : Heap} {w : World} (H : HInv β h w) : HInv β h w.drew :=
  ⟨H.inj, H.nf, H.flt, fun b x hb => by
    obtain ⟨c, e, hc, hr⟩ := H.box b x hb
    exact ⟨c, e, hc, hr.mono H (Ext.drew β h w)⟩⟩

/-! ### freezing -/
theorem freeze1 {β : Pl} {h : Heap} {w : World} (H : HInv β h w) {b : Name} {fz : Bool} {cs : List IV} (hb : h b = some (.row fz cs)) :
    Ext β h w β (h.put b (.row true cs)) w ∧ HInv β (h.put b (.row true cs)) w := by
  have E : Ext β h w β (h.put b (.row true cs)) w := by
    refine ⟨rfl, rfl, rfl, Nat.le_refl _, rfl, fun blk hl hs => ⟨fun c x hc ho => ?_, rfl⟩, fun c x hc => ?_, fun _ _ => rfl⟩
    · by_cases h1 : c = b
      · subst h1; rw [Heap.put_same] at hc; cases hc; simp [Box.open] at ho
      · rw [Heap.put_ne _ _ h1] at hc; exact hs c x hc ho
    · by_cases h1 : c = b
      · subst h1
        rw [hb] at hc; cases hc
        exact ⟨_, Heap.put_same _ _ _, rfl, Nat.le_refl _, fun _ => rfl⟩
      · exact ⟨x, by rw [Heap.put_ne _ _ h1]; exact hc, rfl, Nat.le_refl _, fun _ => rfl⟩
  refine ⟨E, H.step E b (fun c x _ _ => ⟨rfl, rfl⟩) (fun c hc => Heap.put_ne _ _ hc) (fun x hx => ?_) (fun c x y hne hc hy he => hne (H.inj c b x _ hc hb he)) (fun x hx => H.nf b _ hb)⟩
  rw [Heap.put_same] at hx; cases hx
  obtain ⟨c, e, hc, hr⟩ := H.box b _ hb
  exact ⟨c, e, hc, (BoxRep.mono H E (x := .row fz cs) hr)⟩

def Freezes (h : Heap) (us : List (Name × Box)) : Prop := ∀ u ∈ us, ∃ fz cs, h u.1 = some (.row fz cs) ∧ u.2 = .row true cs

theorem freezes {β : Pl} {w : World} : ∀ (us : List (Name × Box)) {h : Heap}, HInv β h w → Freezes h us →
    Ext β h w β (h.ups us) w ∧ HInv β (h.ups us) w ∧ (∀ b, b ∉ us.map (·.1) → h.ups us b = h b) ∧ (∀ b ∈ us.map (·.1), ∃ fz cs, h b = some (.row fz cs) ∧ h.ups us b = some (.row true cs)) := by
  intro us
  induction us with
  | nil => intro h H _; exact ⟨Ext.refl _ _ _, H, fun _ _ => rfl, fun b hb => by simp at hb⟩
  | cons u us ih =>
    intro h H hF
    obtain ⟨fz, cs, hb, hu⟩ := hF u (by simp)
    obtain ⟨E, H'⟩ := freeze1 H hb
    have hF' : Freezes (h.put u.1 u.2) us := by
      intro v hv
      obtain ⟨fz', cs', hb', hv'⟩ := hF v (by simp [hv])
      by_cases h1 : v.1 = u.1
      · rw [h1] at hb'
        rw [hb] at hb'; cases hb'
        exact ⟨true, cs, by rw [h1, Heap.put_same, hu], hv'⟩
      · exact ⟨fz', cs', by rw [Heap.put_ne _ _ h1]; exact hb', hv'⟩
    rw [hu] at hF'
    obtain ⟨E', H'', hn, hy⟩ := ih H' hF'
    rw [Heap.ups_cons, hu]
    refine ⟨E.trans E', H'', fun b hb' => ?_, fun b hb' => ?_⟩
    · simp only [List.map_cons, List.mem_cons, not_or] at hb'
      rw [hn b hb'.2, Heap.put_ne _ _ hb'.1]
    · by_cases h2 : b ∈ us.map (·.1)
      · obtain ⟨fz', cs', h3, h4⟩ := hy b h2
        by_cases h1 : b = u.1
        · subst h1
          rw [Heap.put_same] at h3; cases h3
          exact ⟨fz, cs, hb, h4⟩
        · rw [Heap.put_ne _ _ h1] at h3
          exact ⟨fz', cs', h3, h4⟩
      · have h1 : b = u.1 := by
          rcases List.mem_cons.1 (show b ∈ u.1 :: us.map (·.1) from hb') with h1 | h1
          · exact h1
          · exact absurd h1 h2
        subst h1
        exact ⟨fz, cs, hb, by rw [hn _ h2, Heap.put_same]⟩

/-! ### a new box -/
def setβ (β : Pl) (s : Name) (k : Nat) : Pl := ⟨fun c => if c = s then k else β c, β.F⟩
theorem setβ_same (β : Pl) (s : Name) (k : Nat) : setβ β s k s = k := by simp [setβ]
theorem setβ_ne (β : Pl) {s c : Name} (k : Nat) (h : c ≠ s) : setβ β s k c = β c := by simp [setβ, h]

theorem szW_alloc (w : World) (o : Obj) (blk : Nat) (h : blk < w.heap.size) : szW (w.alloc o) blk = szW w blk := by
  unfold szW; rw [heap_alloc_old w o blk h]

theorem Ext.new {β : Pl} {h : Heap} {w : World} {s : Name} (hs : h s = none) (x : Box) (o : Obj) :
    Ext β h w (setβ β s w.heap.size) (h.put s x) (w.alloc o) := by
  refine ⟨rfl, rfl, rfl, by simp, rfl, fun blk hl hst => ⟨fun c y hc ho => ?_, heap_alloc_old w o blk hl⟩, fun c y hc => ?_, fun blk hl => szW_alloc w o blk hl⟩
  · by_cases h1 : c = s
    · subst h1; rw [setβ_same]; omega
    · rw [setβ_ne _ _ h1]; rw [Heap.put_ne _ _ h1] at hc; exact hst c y hc ho
  · have h1 : c ≠ s := fun e => by rw [e, hs] at hc; cases hc
    exact ⟨y, by rw [Heap.put_ne _ _ h1]; exact hc, rfl, Nat.le_refl _, fun _ => setβ_ne _ _ h1⟩

theorem HInv.new {β : Pl} {h : Heap} {w : World} (H : HInv β h w) {s : Name} (hs : h s = none) (x : Box) (c : Array Value) (e : TypeId)
    (hr : BoxRep (setβ β s w.heap.size) (h.put s x) (w.alloc (.cells c e)) x c) : HInv (setβ β s w.heap.size) (h.put s x) (w.alloc (.cells c e)) := by
  have E := Ext.new (β := β) (w := w) hs x (.cells c e)
  refine H.step E s (fun b y hne hb => ⟨setβ_ne _ _ hne, heap_alloc_old w _ _ (H.lt hb)⟩) (fun b hne => Heap.put_ne _ _ hne) (fun y hy => ?_) (fun b y y' hne hb _ => ?_) (fun y _ hF => ?_)
  · rw [Heap.put_same] at hy; cases hy
    exact ⟨c, e, by rw [setβ_same]; exact heap_alloc_new w _, hr⟩
  · rw [setβ_same]; have := H.lt hb; omega
  · rw [setβ_same] at hF; have := H.flt _ hF; omega

/-! ### an open box is written: the same cells in number -/
theorem szW_setRow (w : World) (g : Nat) (c c' : Array Value) (e : TypeId) (hg : w.heap[g]? = some (.cells c e (0, 0))) (hc : c'.size = c.size) (blk : Nat) : szW (w.setRow g c') blk = szW w blk := by
  unfold szW
  by_cases h1 : blk = g
  · subst h1; rw [setRow_heap w blk c c' e _ hg, hg]; simpa using hc
  · rw [setRow_other w g blk c' h1]

theorem Ext.write {β : Pl} {h : Heap} {w : World} (H : HInv β h w) {b : Name} {x x' : Box} {c c' : Array Value} {e : TypeId} (hb : h b = some x) (ho : x.open = true) (ho' : x'.open = true)
    (hg : w.heap[β b]? = some (.cells c e (0, 0))) (hc : c'.size = c.size) (hrow : x'.isRow = x.isRow) (hlen : x.len ≤ x'.len) :
    Ext β h w β (h.put b x') (w.setRow (β b) c') := by
  refine ⟨rfl, rfl, rfl, by simp, rfl, fun blk hl hst => ⟨fun d y hd hod => ?_, ?_⟩, fun d y hd => ?_, fun blk hl => szW_setRow w _ c c' e hg hc blk⟩
  · by_cases h1 : d = b
    · subst h1; exact hst d x hb ho
    · rw [Heap.put_ne _ _ h1] at hd; exact hst d y hd hod
  · exact setRow_other w _ _ _ (fun e => hst b x hb ho e.symm)
  · by_cases h1 : d = b
    · subst h1; rw [hb] at hd; cases hd
      exact ⟨x', Heap.put_same _ _ _, hrow, hlen, fun _ => rfl⟩
    · exact ⟨y, by rw [Heap.put_ne _ _ h1]; exact hd, rfl, Nat.le_refl _, fun _ => rfl⟩

theorem HInv.write {β : Pl} {h : Heap} {w : World} (H : HInv β h w) {b : Name} {x x' : Box} {c c' : Array Value} {e : TypeId} (hb : h b = some x) (ho : x.open = true) (ho' : x'.open = true)
    (hg : w.heap[β b]? = some (.cells c e (0, 0))) (hc : c'.size = c.size) (hrow : x'.isRow = x.isRow) (hlen : x.len ≤ x'.len)
    (hr : BoxRep β (h.put b x') (w.setRow (β b) c') x' c') : HInv β (h.put b x') (w.setRow (β b) c') := by
  have E := Ext.write H hb ho ho' hg hc hrow hlen
  refine H.step E b (fun d y hne hd => ⟨rfl, setRow_other w _ _ _ fun e => hne (H.inj d b y x hd hb e)⟩) (fun d hne => Heap.put_ne _ _ hne) (fun y hy => ?_) (fun d y y' hne hd _ he => hne (H.inj d b y x hd hb he)) (fun y _ => H.nf b x hb)
  rw [Heap.put_same] at hy; cases hy
  exact ⟨c', e, setRow_heap w _ c c' e _ hg, hr⟩

/-! ### an open box moves, and grows -/
theorem Ext.move {β : Pl} {h : Heap} {w : World} (H : HInv β h w) {b : Name} {x x' : Box} (hb : h b = some x) (o : Obj) (hrow : x'.isRow = x.isRow) (hlen : x.len < x'.len) :
    Ext β h w (setβ β b w.heap.size) (h.put b x') (w.alloc o) := by
  refine ⟨rfl, rfl, rfl, by simp, rfl, fun blk hl hst => ⟨fun c y hc ho => ?_, heap_alloc_old w o blk hl⟩, fun c y hc => ?_, fun blk hl => szW_alloc w o blk hl⟩
  · by_cases h1 : c = b
    · subst h1; rw [setβ_same]; omega
    · rw [setβ_ne _ _ h1]; rw [Heap.put_ne _ _ h1] at hc; exact hst c y hc ho
  · by_cases h1 : c = b
    · subst h1; rw [hb] at hc; cases hc
      exact ⟨x', Heap.put_same _ _ _, hrow, Nat.le_of_lt hlen, fun he => by omega⟩
    · exact ⟨y, by rw [Heap.put_ne _ _ h1]; exact hc, rfl, Nat.le_refl _, fun _ => setβ_ne _ _ h1⟩

theorem HInv.move {β : Pl} {h : Heap} {w : World} (H : HInv β h w) {b : Name} {x x' : Box} (hb : h b = some x) (c : Array Value) (e : TypeId) (hrow : x'.isRow = x.isRow) (hlen : x.len < x'.len)
    (hr : BoxRep (setβ β b w.heap.size) (h.put b x') (w.alloc (.cells c e)) x' c) : HInv (setβ β b w.heap.size) (h.put b x') (w.alloc (.cells c e)) := by
  have E := Ext.move H hb (.cells c e) hrow hlen
  refine H.step E b (fun d y hne hd => ⟨setβ_ne _ _ hne, heap_alloc_old w _ _ (H.lt hd)⟩) (fun d hne => Heap.put_ne _ _ hne) (fun y hy => ?_) (fun d y y' hne hd _ => ?_) (fun y _ hF => ?_)
  · rw [Heap.put_same] at hy; cases hy
    exact ⟨c, e, by rw [setβ_same]; exact heap_alloc_new w _, hr⟩
  · rw [setβ_same]; have := H.lt hd; omega
  · rw [setβ_same] at hF; have := H.flt _ hF; omega
end Go.Proofs.Ytnnkoghmglpnmaa.TM
