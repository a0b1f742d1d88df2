/- What the form's reading of an argument tells of a value, kind by kind: whole numbers, bools, strings, slices of any such. -/
import Derived.Test.YtdfhkdddlfmceaaWMore
import Derived.ProofKit
import Derived.ChangeArms
import Derived.WideShapes
namespace Go.Proofs.Ytdfhkdddlfmceaa.Opens
open Go.RowKit Go.Proofs.YtdfhkdddlfmceaaW.PrintWords Go.ChangeShapes Go.WideShapes Go.ChangeAt

variable {H : Type} {enc : TypeId × Value → H} {P : Program} {α : Type} {t : TypeId}

/-- Whatever is read at type t, from whatever memory, has a value of kind d that is good. -/
def Opens (enc : TypeId × Value → H) (P : Program) (t : TypeId) (d : Kd α) (good : α → Prop) : Prop :=
  ∀ (W : World) (base : Nat) (spare : Nat → Bool) (held : Bool) (fuel : Nat) (cs : List Value) (x : DataW H × List MemPlace),
    DataW.trod enc P W base spare held fuel t cs = some x → ∃ a, d.K W a cs ∧ good a

theorem opens_int {k : IntKind} (ht : P.underlying t = some (.int k)) : Opens enc P t (Kd.int k) (fun a => (Lit.int k a).wf = true) := by
  intro W base spare held fuel cs x h
  obtain ⟨n, hc, _, hw⟩ := DataW.trod_int ht h
  exact ⟨n, hc, hw⟩

theorem opens_bool (ht : P.underlying t = some .bool) : Opens enc P t Kd.bool (fun _ => True) := by
  intro W base spare held fuel cs x h
  obtain ⟨b, hc, _⟩ := DataW.trod_bool ht h
  exact ⟨b, hc, trivial⟩

theorem opens_string (ht : P.underlying t = some .string) : Opens enc P t Kd.string (fun s => s.size ≤ maxLen) := by
  intro W base spare held fuel cs x h
  obtain ⟨s, hc, _, hl⟩ := DataW.trod_string ht h
  exact ⟨s, hc, hl⟩

theorem cells_get {W : World} {base n : Nat} {a : Addr} {c : List Value} (h : W.cells? base a n = some c) : c.length = n ∧ ∀ (j : Nat) (u : Value), c[j]? = some u → W.cell? (a.add j) = some u := by
  unfold World.cells? at h
  split at h
  · have hl : c.length = n := by simpa using mapM_some_length h
    refine ⟨hl, fun j u hj => ?_⟩
    have hj' : j < n := by
      rw [← hl]
      exact (List.getElem?_eq_some_iff.1 hj).1
    have := mapM_some_get h j j (by simp [hj'])
    rw [this, hj]
  · simp at h

theorem opens_slice {e : TypeId} {d : Kd α} {good : α → Prop} (ht : P.underlying t = some (.slice e)) (ho : Opens enc P e d good) (hsz : P.cellsOf e = d.sz) :
    Opens enc P t (Kd.slice e d) (fun l => l.length ≤ maxLen ∧ ∀ a ∈ l, good a) := by
  intro W base spare held fuel cs x h
  rcases DataW.trod_slice ht h with ⟨rfl, _⟩ | ⟨a, len, cap, elems, rest, n, _, rfl, _, _, hl, hc, hel, hget, _, _⟩
  · exact ⟨[], ⟨none, 0, rfl, Nat.le_refl _, rfl, by simp, fun h => absurd h (by simp)⟩, by simp, by simp⟩
  · have hx : ∀ i : Nat, i < len → ∃ (y : α) (c : List Value), c.length = d.sz ∧ d.K W y c ∧ good y ∧ ∀ (j : Nat) (u : Value), c[j]? = some u → W.cell? (a.add (i * d.sz + j)) = some u := by
      intro i hi
      have g := hget i hi
      rw [List.getElem?_eq_getElem (by omega)] at g
      rw [Option.bind_eq_some_iff] at g
      obtain ⟨c, hcs, htr⟩ := g
      obtain ⟨h1, h2⟩ := cells_get hcs
      obtain ⟨y, hk, hg⟩ := ho _ _ _ _ _ _ _ htr
      refine ⟨y, c, h1.trans hsz, hk, hg, fun j u hj => ?_⟩
      have := h2 j u hj
      rw [hsz] at this
      have e1 : (a.add (i * d.sz)).add j = a.add (i * d.sz + j) := by
        unfold Addr.add
        by_cases g1 : i * d.sz = 0 <;> by_cases g2 : j = 0 <;> simp [g1, g2, Nat.add_assoc]
      rw [← e1]
      exact this
    have hl2 : ∀ m : Nat, m ≤ len → ∃ l : List α, l.length = m ∧ ∀ (i : Nat) (y : α), l[i]? = some y → good y ∧ ∃ c, c.length = d.sz ∧ d.K W y c ∧ ∀ (j : Nat) (u : Value), c[j]? = some u → W.cell? (a.add (i * d.sz + j)) = some u := by
      intro m
      induction m with
      | zero => exact fun _ => ⟨[], rfl, by simp⟩
      | succ m ih =>
        intro hm
        obtain ⟨l, h1, h2⟩ := ih (by omega)
        obtain ⟨y, c, hc1, hk, hg, hcell⟩ := hx m (by omega)
        refine ⟨l ++ [y], by simp [h1], fun i z hz => ?_⟩
        by_cases hi : i < l.length
        · rw [List.getElem?_append_left hi] at hz
          exact h2 i z hz
        · rw [List.getElem?_append_right (by omega)] at hz
          have : i - l.length = 0 := by
            have := (List.getElem?_eq_some_iff.1 hz).1
            simp at this
            omega
          rw [this] at hz
          simp at hz
          subst hz
          obtain rfl : i = m := by omega
          exact ⟨hg, c, hc1, hk, hcell⟩
    obtain ⟨l, h1, h2⟩ := hl2 len (Nat.le_refl _)
    have hmax : maxLen = 9223372036854775807 := rfl
    refine ⟨l, ⟨some a, cap, by rw [h1], by rw [h1]; exact hl, rfl, by omega, fun _ => ⟨a, rfl, fun j p hj => (h2 j p hj).2⟩⟩, by omega, fun y hy => ?_⟩
    obtain ⟨i, hi, rfl⟩ := List.getElem_of_mem hy
    exact (h2 i _ (List.getElem?_eq_getElem hi)).1
end Go.Proofs.Ytdfhkdddlfmceaa.Opens
