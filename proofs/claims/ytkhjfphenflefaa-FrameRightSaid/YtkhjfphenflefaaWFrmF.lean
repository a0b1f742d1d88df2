/- Layer 11: what is read is put in the same bytes; what is cut is none. Conditions: none. -/
import Derived.Test.YtkhjfphenflefaaWFrmE
namespace Go.Proofs.Ytkhjfphenflefaa.TM
open Go Go.RowKit
set_option linter.unusedVariables false
set_option linter.defProp false
set_option linter.unusedSimpArgs false

theorem take_slc (b : List Int) (i n : Nat) : b.take (i + n) = b.take i ++ slc b i n := by unfold slc; exact List.take_add
theorem slc_take {b : List Int} {c i n : Nat} (h : i + n ≤ c) : slc (b.take c) i n = slc b i n := by
  unfold slc
  rw [List.drop_take, List.take_take, Nat.min_eq_left (by omega)]
theorem getD_take {b : List Int} {c i : Nat} (h : i < c) : (b.take c).getD i 0 = b.getD i 0 := by
  rw [List.getD_eq_getElem?_getD, List.getD_eq_getElem?_getD, List.getElem?_take, if_pos h]
theorem take3 {b : List Int} (h : 3 ≤ b.length) : b.take 3 = [b.getD 0 0, b.getD 1 0, b.getD 2 0] := by
  match b, h with
  | x :: y :: z :: b, _ => rfl
/-- What an answer without an error says. -/
structure NextOk (b : List Int) (f : Int × Int × Int × List Int) (m : Nat) : Prop where
  len : m ≤ b.length
  m1 : m = 12 + 8 * manyN b
  many : manyN b ≤ 9000
  b0 : b.getD 0 0 = 163
  may : mayB (b.getD 1 0) (b.getD 2 0) [] = true
  sum : ofL (slc b (9 + 8 * manyN b) 3) = sumS (b.take (9 + 8 * manyN b))
  fr : f = (b.getD 1 0, b.getD 2 0, ofL (slc b 3 4), bodyN b (manyN b))
theorem next_cases (b : List Int) : (∃ e, e ≠ 0 ∧ nextR b = (fr0, 0, e)) ∨ ∃ f m, nextR b = (f, ((m : Nat) : Int), 0) ∧ NextOk b f m := by
  unfold nextR
  by_cases h1 : b.length < 12
  · rw [if_pos h1]; exact .inl ⟨3, by decide, rfl⟩
  · rw [if_neg h1]
    by_cases h2 : b.getD 0 0 = 163 ∧ mayB (b.getD 1 0) (b.getD 2 0) [] = true ∧ manyN b ≤ 9000
    · rw [if_pos h2]
      by_cases h3 : b.length < 12 + 8 * manyN b
      · rw [if_pos h3]; exact .inl ⟨3, by decide, rfl⟩
      · rw [if_neg h3]
        by_cases h4 : ofL (slc b (9 + 8 * manyN b) 3) = sumS (b.take (9 + 8 * manyN b))
        · rw [if_pos h4]
          exact .inr ⟨_, 12 + 8 * manyN b, by push_cast; rfl, ⟨by omega, rfl, h2.2.2, h2.1, h2.2.1, h4, rfl⟩⟩
        · rw [if_neg h4]; exact .inl ⟨4, by decide, rfl⟩
    · rw [if_neg h2]; exact .inl ⟨2, by decide, rfl⟩
theorem next_of {b : List Int} {f : Int × Int × Int × List Int} {m : Nat} (o : NextOk b f m) : nextR b = (f, ((m : Nat) : Int), 0) := by
  obtain ⟨h1, h2, h3, h4, h5, h6, h7⟩ := o
  unfold nextR
  rw [if_neg (by omega), if_pos ⟨h4, h5, h3⟩, if_neg (by omega), if_pos h6, h7, h2]
  push_cast; rfl
theorem bodyN_flat {b : List Int} (hb : Byts b) : ∀ n, 9 + 8 * n ≤ b.length → bodyB (bodyN b n) = slc b 9 (8 * n)
  | 0, _ => by simp [bodyN, bodyB, slc]
  | n + 1, h => by
    have ih := bodyN_flat hb n (by omega)
    have e : bodyN b (n + 1) = bodyN b n ++ [ofL (slc b (9 + 8 * n) 8)] := by unfold bodyN; rw [List.range_succ, List.map_append]; rfl
    have e2 : bodyB (bodyN b n ++ [ofL (slc b (9 + 8 * n) 8)]) = bodyB (bodyN b n) ++ numL (ofL (slc b (9 + 8 * n) 8)) 8 := by unfold bodyB; rw [List.flatMap_append]; simp
    rw [e, e2, ih, num_of 8 (slc_len (by omega)) (slc_byts hb _ _)]
    unfold slc
    rw [show 8 * (n + 1) = 8 * n + 8 by omega, List.take_add, List.drop_drop]
/-- What is read is put in just these bytes. -/
theorem put_of {b : List Int} (hb : Byts b) {f : Int × Int × Int × List Int} {m : Nat} (o : NextOk b f m) : putR f.1 f.2.1 f.2.2.1 f.2.2.2 = (b.take m, 0) := by
  obtain ⟨h1, h2, h3, h4, h5, h6, rfl⟩ := o
  simp only
  have hl7 : (slc b 7 2).length = 2 := slc_len (by omega)
  have o7 := ofL_bd 2 hl7 (slc_byts hb _ _)
  have hm : ofL (slc b 7 2) = (manyN b : Int) := by unfold manyN; omega
  obtain ⟨k1, k2, r1, r2, _⟩ := may_iff.1 h5
  have yl : (bodyN b (manyN b)).length = manyN b := by simp [bodyN]
  have hmay : mayB (b.getD 1 0) (b.getD 2 0) (bodyN b (manyN b)) = true := may_iff.2 ⟨k1, k2, r1, r2, by omega⟩
  have hhead : headB (b.getD 1 0) (b.getD 2 0) (ofL (slc b 3 4)) (manyN b) = b.take 9 := by
    unfold headB
    rw [← hm, num_of 4 (slc_len (by omega)) (slc_byts hb _ _), num_of 2 hl7 (slc_byts hb _ _), show (9 : Nat) = 3 + 4 + 2 from rfl, take_slc, take_slc, take3 (by omega), h4]
  have hall : allB (b.getD 1 0) (b.getD 2 0) (ofL (slc b 3 4)) (bodyN b (manyN b)) = b.take (9 + 8 * manyN b) := by
    unfold allB
    rw [yl, hhead, bodyN_flat hb _ (by omega), take_slc]
  unfold putR
  rw [if_pos hmay]
  unfold putB
  rw [hall, ← h6, num_of 3 (slc_len (by omega)) (slc_byts hb _ _), h2, show 12 + 8 * manyN b = 9 + 8 * manyN b + 3 by omega, take_slc b (9 + 8 * manyN b) 3]
/-- What is cut is none. -/
theorem next_cut {b : List Int} {f : Int × Int × Int × List Int} {m c : Nat} (o : NextOk b f m) (hc : c < m) : nextR (b.take c) = (fr0, 0, 3) := by
  obtain ⟨h1, h2, h3, h4, h5, h6, _⟩ := o
  have cl : (b.take c).length = c := by rw [List.length_take]; omega
  unfold nextR
  by_cases h : c < 12
  · rw [if_pos (by omega)]
  · have hm : manyN (b.take c) = manyN b := by unfold manyN; rw [slc_take (by omega)]
    rw [if_neg (by omega), getD_take (by omega), getD_take (by omega), getD_take (by omega), hm, if_pos ⟨h4, h5, h3⟩, if_pos (by omega)]
/-- Bytes as a string. -/
def str (l : List Int) : Value := .string ⟨(l.map fun a => UInt8.ofNat a.toNat).toArray⟩
theorem bytesOfIV_lb : ∀ l : List Int, bytesOfIV (l.map ib) = some (l.map fun a => UInt8.ofNat a.toNat)
  | [] => rfl
  | a :: l => by rw [List.map_cons, bytesOfIV, bytesOfIV_lb l]; rfl
theorem opBytes_lb {h : Heap} {n : Nat} {l : List Int} (hn : l.length = n) : opBytes Try.prog h 5 (.i (.l n (l.map ib))) = some (.i (.v (str l))) := by
  have e : tkB Try.prog 5 = some (.int .u8) := by simp only [tys]
  unfold opBytes
  rw [e]
  simp only [PV.sk, SK.cells, List.length_map, Nat.mul_one, hn, if_true, bytesOfIV_lb]
  rfl
theorem str_inj {a b : List Int} (ha : Byts a) (hb : Byts b) (h : a.map (fun x => UInt8.ofNat x.toNat) = b.map fun x => UInt8.ofNat x.toNat) : a = b := by
  induction a generalizing b with
  | nil => cases b with
    | nil => rfl
    | cons y b => simp at h
  | cons x a ih => cases b with
    | nil => simp at h
    | cons y b =>
      simp only [List.map_cons, List.cons.injEq] at h
      have hx := ha x (by simp)
      have hy := hb y (by simp)
      unfold Byt at hx hy
      have h1 : x.toNat = y.toNat := by
        have := congrArg UInt8.toNat h.1
        simp only [UInt8.toNat_ofNat'] at this
        omega
      rw [show x = y by omega, ih (fun z hz => ha z (by simp [hz])) (fun z hz => hb z (by simp [hz])) h.2]
end Go.Proofs.Ytkhjfphenflefaa.TM
