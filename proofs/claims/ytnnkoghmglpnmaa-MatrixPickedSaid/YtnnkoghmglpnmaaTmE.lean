/- TM and the model: parts of values, plain values, conversions, lengths. Conditions: none; lemmas. -/
import Derived.Test.YtnnkoghmglpnmaaTmD
import Derived.Laws.BytesString
import Derived.Laws.Small
namespace Go.Proofs.Ytnnkoghmglpnmaa.TM
open Go
set_option linter.unusedVariables false
set_option linter.defProp false
set_option linter.unusedSimpArgs false

variable {P : Program} {β : Pl} {h : Heap} {w : World}

theorem part_sound {t : TypeId} {d : TypeDesc} (hu : P.underlying t = some d) {cs : List PV} {arr : Array Value} {off : Nat} {p : PV} (hl : arr.size = cs.length) (hs : ∀ j x, cs[j]? = some x → Rep β h w x (arr.getD j undef))
    (hp : partP P t cs off = some p) : ∃ u, (part t arr off).run P w = .ok u w ∧ Rep β h w p u := by
  obtain ⟨i, hi⟩ := info_of_underlying hu
  unfold partP at hp
  unfold part
  rw [Sem.run_bind, aggB_run hu]
  simp only [Result.andThen_ok]
  cases hb : isAggB P t with
  | true =>
    simp only [hb, if_true] at hp ⊢
    split at hp
    case isFalse => cases hp
    rename_i hfit
    cases hp
    refine ⟨.agg (arr.extract off (off + szOf P t)), by simp [sizeOf_run hi], .agg _ _ (by simp; omega) fun j x hj => ?_⟩
    obtain ⟨hlt, hg⟩ := take_drop_get hj
    have := hs _ _ hg
    have hj2 : off + j < arr.size := by omega
    simp only [Array.getD_eq_getD_getElem?] at this ⊢
    rw [Array.getElem?_extract]
    rw [if_pos (by omega)]
    exact this
  | false =>
    simp only [hb, Bool.false_eq_true, if_false] at hp ⊢
    have hlt := (List.getElem?_eq_some_iff.1 hp).1
    have := hs _ _ hp
    have hlt' : off < arr.size := by omega
    refine ⟨arr[off], by simp [hlt'], ?_⟩
    simpa [hlt'] using this

theorem field_sound {s : TypeId} {x p : PV} {f : Nat} {v : Value} (hx : Rep β h w x v) (hp : opField P s x f = some p) : ∃ u, (Instr.field s v f).run P w = .ok u w ∧ Rep β h w p u := by
  unfold opField at hp
  split at hp
  case h_2 => cases hp
  rename_i ty o cs hf
  obtain ⟨fs, q, i, d, hu, hq, rfl, rfl, hi, hpos, hd⟩ := fieldB_some hf
  cases hx with
  | agg cs arr hl hs =>
    obtain ⟨u, hu', hr⟩ := part_sound hd hl hs hp
    exact ⟨u, by simp [Instr.field, run_underlying hu, hq, asAgg, hu'], hr⟩

theorem index_sound {t : TypeId} {x ix p : PV} {v iv : Value} (hx : Rep β h w x v) (hix : Rep β h w ix iv) (hp : opIndex P t x ix = some p) : ∃ u, (Instr.index t v iv).run P w = .ok u w ∧ Rep β h w p u := by
  unfold opIndex at hp
  split at hp
  case h_3 => cases hp
  · rename_i n e cs i hu hn
    replace hu := tk_arr hu
    obtain ⟨k, m, rfl, h0, rfl⟩ := natOf_some hn hix
    split at hp
    case isFalse => cases hp
    rename_i hc
    obtain ⟨d, hd⟩ := undB_some hc.2
    obtain ⟨q, hq⟩ := info_of_underlying hd
    cases hx with
    | agg cs arr hl hs =>
      obtain ⟨u, hu', hr⟩ := part_sound hd hl hs hp
      have hin : 0 ≤ m ∧ m < n := ⟨h0, by omega⟩
      exact ⟨u, by simp [Instr.index, asIntOf, run_underlying hu, hin, sizeOf_run hq, hu'], hr⟩
  · rename_i s i hu hn
    replace hu := tk_str hu
    obtain ⟨k, m, rfl, h0, rfl⟩ := natOf_some hn hix
    split at hp
    case isFalse => cases hp
    rename_i hi
    cases hp
    cases hx with
    | i x v hx =>
      cases hx
      exact ⟨.int .u8 s[m.toNat].toNat, by simp [Instr.index, asIntOf, run_underlying hu, h0, hi], .i _ _ (.v _)⟩

theorem extract_sound {x p : PV} {v : Value} {ix : Nat} (hx : Rep β h w x v) {vs : List PV} (hvs : x = .tup vs) (hp : vs[ix]? = some p) : ∃ u, (Instr.extract v ix).run P w = .ok u w ∧ Rep β h w p u := by
  subst hvs
  cases hx with
  | tup cs arr hl hs =>
    have hlt := (List.getElem?_eq_some_iff.1 hp).1
    have hlt' : ix < arr.size := by omega
    have := hs _ _ hp
    refine ⟨arr[ix], by simp [Instr.extract, hlt'], ?_⟩
    simpa [hlt'] using this

theorem intBin_sound {op : BinOp} {k : IntKind} {a b : Int} {r : Value} (h1 : op ≠ .shl) (h2 : op ≠ .shr) (hr : intBin op k a b = some r) (t : TypeId) (w : World) : (binOp op t (.int k a) (.int k b)).run P w = .ok r w := by
  cases op <;> simp_all [intBin, binOp, Op.intArith, Op.intDiv, Op.intCmp, Go.intBits_and, Go.intBits_or, Go.intBits_xor, Go.intBits_andNot]

theorem eqGuard_plain {op : BinOp} {t : TypeId} {x y : Operand} {a b : Value} (ha : ∀ cs, a ≠ .agg cs) (hn : a ≠ .nilIface) (w : World) : (eqGuard op t x y a b).run P w = .ok () w := by
  unfold eqGuard
  cases op <;> simp <;> (try (split <;> simp_all))

theorem scalBin_sound {op : BinOp} {t : TypeId} {x y : Operand} {a b r : Value} (hr : scalBin P op t a b = some r) (w : World) : ((do eqGuard op t x y a b; binOp op t a b) : Sem Value).run P w = .ok r w := by
  unfold scalBin at hr
  split at hr
  · rename_i k i k' j
    rw [Sem.run_bind, eqGuard_plain (by simp) (by simp)]
    simp only [Result.andThen_ok]
    split at hr
    · split at hr
      · cases hr
      · rename_i hn; cases hr; simp [binOp, Op.shift, hn]
    · split at hr
      · cases hr
      · rename_i hn; cases hr; simp [binOp, Op.shift, hn]
    · split at hr
      · rename_i hk; subst hk
        exact intBin_sound (by assumption) (by assumption) hr t w
      · cases hr
  · rename_i i j
    rw [Sem.run_bind, eqGuard_plain (by simp) (by simp)]
    simp only [Result.andThen_ok]
    split at hr
    · rename_i hu; cases hr
      show ((do pure (.bool (← Op.equal t (.bool i) (.bool j)))) : Sem Value).run P w = _
      rw [Sem.run_bind, run_equal_bool w t i j (tk_bool hu)]; rfl
    · rename_i hu; cases hr
      show ((do pure (.bool (!(← Op.equal t (.bool i) (.bool j))))) : Sem Value).run P w = _
      rw [Sem.run_bind, run_equal_bool w t i j (tk_bool hu)]; rfl
    · cases hr
  · rename_i i j
    rw [Sem.run_bind, eqGuard_plain (by simp) (by simp)]
    simp only [Result.andThen_ok]
    split at hr
    · cases hr; rfl
    · cases hr; rfl
    · cases hr
  · cases hr

theorem scalUn_sound {op : UnOp} {a r : Value} (hr : scalUn op a = some r) (w : World) : (Op.unary op a).run P w = .ok r w := by
  unfold scalUn at hr
  split at hr <;> first | (cases hr; rfl) | cases hr

theorem repI_v {R : Addr → Value → Prop} {x v : Value} (h : RepI R (.v x) v) : v = x := by cases h; rfl

theorem rep_plain {x : Value} {v : Value} (hx : Rep β h w (.i (.v x)) v) : v = x := by
  cases hx with | i _ _ hx => cases hx; rfl

theorem bytesOfIV_some : ∀ {cs : List IV} {l : List UInt8}, bytesOfIV cs = some l → ∃ ns : List Int, cs = ns.map (fun n => IV.v (.int .u8 n)) ∧ l = ns.map (fun n => UInt8.ofNat n.toNat)
  | [], l, h => by cases h; exact ⟨[], rfl, rfl⟩
  | c :: cs, l, h => by
    unfold bytesOfIV at h
    split at h
    · rename_i heq; cases heq
    · rename_i n cs' heq
      cases heq
      cases hb : bytesOfIV cs with
      | none => simp [hb] at h
      | some l' =>
        simp [hb] at h
        subst h
        obtain ⟨ns, rfl, rfl⟩ := bytesOfIV_some hb
        exact ⟨n :: ns, rfl, rfl⟩
    · cases h

theorem foldl_push (ns : List Int) : ∀ s : ByteArray, ns.foldl (fun r n => r.push (UInt8.ofNat n.toNat)) s = ⟨s.data ++ (ns.map (fun n => UInt8.ofNat n.toNat)).toArray⟩ := by
  induction ns with
  | nil => intro s; simp
  | cons n ns ih =>
    intro s
    rw [List.foldl_cons, ih]
    simp [ByteArray.push]

theorem convert_sound (H : HInv β h w) {src dst : TypeId} {x p : PV} {v : Value} (hx : Rep β h w x v) (hp : opConvert P h src dst x = some p) : ∃ u, (convert src dst v).run P w = .ok u w ∧ Rep β h w p u := by
  unfold opConvert at hp
  split at hp
  · rename_i tk k k' n hs hd
    obtain ⟨d, hs, _⟩ := tkB_some hs
    replace hd := tk_int hd
    cases hp
    rw [rep_plain hx]
    refine ⟨_, ?_, .i _ _ (.v _)⟩
    simp [convert, run_underlying hs, run_underlying hd, Conv.intToInt]
  · rename_i s hs hd
    replace hs := tk_str hs
    replace hd := tk_str hd
    cases hp
    rw [rep_plain hx]
    refine ⟨_, ?_, .i _ _ (.v _)⟩
    simp [convert, run_underlying hs, run_underlying hd]
  · rename_i e hs hd
    replace hs := tk_sl hs
    replace hd := tk_str hd
    unfold opBytes at hp
    split at hp
    case h_2 => cases hp
    rename_i k he hk
    replace he := tk_int he
    split at hp
    case h_2 => cases hp
    rename_i cs hc
    cases hb : bytesOfIV cs with
    | none => simp [hb] at hp
    | some l =>
      simp [hb] at hp
      subst hp
      obtain ⟨ns, rfl, rfl⟩ := bytesOfIV_some hb
      obtain ⟨hlen, hcase⟩ := sk_cells H hk hc hx
      simp only [List.length_map, Nat.mul_one] at hlen
      rcases hcase with ⟨hnil, cap, rfl⟩ | ⟨a, cap, rfl, f, hf, h1, hr⟩
      · have : ns = [] := by simpa using hnil
        subst this
        exact ⟨.string .empty, by rw [run_convert_bytes_string w src dst e _ _ _ hs he hd]; rfl, .i _ _ (.v _)⟩
      · refine ⟨_, ?_, .i _ _ (.v _)⟩
        rw [run_convert_bytes_string w src dst e _ _ _ hs he hd, run_bytesToString w a k.len cap ns ?_, foldl_push]
        · simp [show ByteArray.empty.data = #[] from rfl]
        · have := run_loadCells_list (P := P) w a (ns.map (Value.int .u8)) (fun j v hj => by
            rw [List.getElem?_map] at hj
            cases hg : ns[j]? with
            | none => simp [hg] at hj
            | some n =>
              simp [hg] at hj
              have hlt := (List.getElem?_eq_some_iff.1 hg).1
              have h2 := hr j (.v (.int .u8 n)) (by simp [hg])
              rw [hf j (by simpa using hlt), repI_v h2, ← hj])
          simpa [hlen] using this
  · cases hp

theorem len_sound {t ty : TypeId} {x p : PV} {v : Value} (hx : Rep β h w x v) (hp : opLen P t x = some p) : ∃ u, (Builtin.len_ #[t] ty #[v]).run P w = .ok u w ∧ Rep β h w p u := by
  unfold opLen at hp
  split at hp
  · rename_i e hu
    replace hu := tk_sl hu
    cases hk : x.sk with
    | none => simp [hk] at hp
    | some k =>
      simp [hk] at hp
      subst hp
      obtain ⟨a, cap, rfl, _, _⟩ := sk_slice hk hx
      exact ⟨_, by simp only [Builtin.len_]; simp [run_underlying hu]; rfl, .i _ _ (.v _)⟩
  · rename_i n e hu
    replace hu := tk_arr hu
    cases hp
    exact ⟨_, by cases v <;> simp [Builtin.len_, run_underlying hu, goInt] <;> rfl, .i _ _ (.v _)⟩
  · rename_i hu
    replace hu := tk_str hu
    split at hp
    · cases hp
      rw [rep_plain hx]
      exact ⟨_, by simp only [Builtin.len_]; simp [run_underlying hu]; rfl, .i _ _ (.v _)⟩
    · cases hp
  · cases hp
end Go.Proofs.Ytnnkoghmglpnmaa.TM
