/- Part CoB of the kept evaluator and its soundness; what each piece says stands ahead of it. No condition. -/
import Derived.Test.YtelhpneeiebeeaaGreatDoorCoA
import Derived.Laws.Closers25
import Derived.Laws.Append
import Derived.Laws.AppendOwn
/- Operations that build values and find places. -/
namespace Go.Ev
theorem live_ok {g : G} {s : St} {w : World} (hI : Inv g s w) {o hw : Nat} (h1 : o < g.N) (h2 : ¬ g.pend o) (h : liveRow s o hw = true) : ∃ r, g.O o = some r ∧ hw = r.ver := by
  unfold liveRow at h
  split at h
  · rename_i els opn hg
    rcases hI.live o _ (by rw [← hI.N]; exact h1) hg with h3 | ⟨r, h3, h4⟩
    · exact absurd h3 h2
    · exact ⟨r, h3, by rw [h4.1]; exact (nbeq_iff.1 h).symm⟩
  · simp at h
section
variable {P : Program} {E : Env} (hE : EnvOK P E)
include hE
theorem partOf_ok {g : G} {w : World} {t : TypeId} {i : TInfo} (hi : E.ti t = some i) {cs : List V} {cvs : List Value} (h : VRL g cs cvs) {off : Nat} {v : V} (hv : partOf i cs off = some v) :
    ∃ cv, (part t ⟨cvs⟩ off).run P w = .ok cv w ∧ VR g v cv := by
  unfold partOf takeV at hv
  simp only [part, Sem.run_bind, hE.run_isAgg hi, Result.andThen]
  cases hagg : i.isAgg with
  | true =>
    rw [hagg] at hv
    simp only [cond_true] at hv
    cases hle : Nat.ble i.size (cs.drop off).length with
    | false => rw [hle] at hv; simp at hv
    | true =>
      rw [hle] at hv
      simp at hv
      subst hv
      simp only [if_true, Sem.run_bind, hE.run_size hi, Result.andThen, Sem.run_pure]
      refine ⟨_, rfl, ?_⟩
      simp only [VR]
      refine ⟨(cvs.drop off).take i.size, ?_, (h.drop off).take i.size⟩
      congr 1
      apply Array.ext'
      simp [List.extract_eq_take_drop]
  | false =>
    rw [hagg] at hv
    simp only [cond_false] at hv
    cases hd : cs.drop off with
    | nil => simp [hd] at hv
    | cons x xs =>
      rw [hd] at hv
      cases h1 : x.one with
      | false => simp [h1] at hv
      | true =>
        simp [h1] at hv
        subst hv
        have hx : cs[off]? = some x := by have := congrArg (·[0]?) hd; simpa using this
        obtain ⟨cv, h2, h3⟩ := h.get hx
        simp only [Bool.false_eq_true, if_false]
        refine ⟨cv, ?_, h3⟩
        simp [h2]
theorem field_ok {g : G} {w : World} {t : TypeId} {x v : V} {cx : Value} {i : Nat} (hx : VR g x cx) (h : fieldOf E t x i = some v) : ∃ cv, (Instr.field t cx i).run P w = .ok cv w ∧ VR g v cv := by
  unfold fieldOf at h
  split at h
  · rename_i ti hti
    split at h
    · rename_i fs cs hd
      split at h
      · rename_i f hf
        split at h
        · rename_i fi hfi
          simp only [VR] at hx
          obtain ⟨cvs, rfl, hc⟩ := hx
          obtain ⟨cv, h1, h2⟩ := partOf_ok hE (w := w) hfi hc h
          refine ⟨cv, ?_, h2⟩
          simp [Instr.field, hE.run_und hti, hd, hf, asAgg, h1]
        · simp at h
      · simp at h
    · simp at h
  · simp at h
omit hE in
theorem nat?_ok {g : G} {x : V} {cx : Value} {n k : Nat} (hx : VR g x cx) (h : nat? x n = some k) : ∃ K i, cx = .int K i ∧ 0 ≤ i ∧ i < n ∧ i.toNat = k := by
  unfold nat? at h
  split at h
  · rename_i K i
    simp only [VR] at hx
    cases hx
    split at h
    · rename_i hc
      simp at h
      exact ⟨K, i, rfl, hc.1, hc.2, h⟩
    · simp at h
  · simp at h
omit hE in
theorem natLe?_ok {g : G} {x : V} {cx : Value} {n k : Nat} (hx : VR g x cx) (h : natLe? x n = some k) : ∃ K i, cx = .int K i ∧ 0 ≤ i ∧ i ≤ n ∧ i.toNat = k := by
  unfold natLe? at h
  split at h
  · rename_i K i
    simp only [VR] at hx
    cases hx
    split at h
    · rename_i hc
      simp at h
      exact ⟨K, i, rfl, hc.1, hc.2, h⟩
    · simp at h
  · simp at h
theorem index_ok {g : G} {w : World} {t : TypeId} {x ix v : V} {cx ci : Value} (hx : VR g x cx) (hix : VR g ix ci) (h : index E t x ix = some v) : ∃ cv, (Instr.index t cx ci).run P w = .ok cv w ∧ VR g v cv := by
  unfold index at h
  split at h
  · rename_i ti hti
    split at h
    · rename_i len e cs hd
      split at h
      · rename_i ei hei
        split at h
        · rename_i k hk
          obtain ⟨K, i, rfl, h1, h2, h3⟩ := nat?_ok hix hk
          simp only [VR] at hx
          obtain ⟨cvs, rfl, hc⟩ := hx
          obtain ⟨cv, h4, h5⟩ := partOf_ok hE (w := w) hei hc h
          refine ⟨cv, ?_, h5⟩
          simp [Instr.index, asIntOf, hE.run_und hti, hd, h1, h2, hE.run_size hei, h3, h4]
        · simp at h
      · simp at h
    · rename_i l hd
      split at h
      · rename_i k hk
        obtain ⟨K, i, rfl, h1, h2, h3⟩ := nat?_ok hix hk
        simp only [VR] at hx
        cases hx
        split at h
        · rename_i b hb
          simp at h
          subst h
          refine ⟨.int .u8 b.toNat, ?_, by simp only [VR]; exact .int _ _⟩
          have hb' : (⟨⟨l⟩⟩ : ByteArray)[i.toNat]? = some b := by
            have hlt : k < l.length := (List.getElem?_eq_some_iff.1 hb).1
            rw [h3]
            have : (⟨⟨l⟩⟩ : ByteArray)[k]? = some ((⟨⟨l⟩⟩ : ByteArray)[k]'hlt) := getElem?_pos (⟨⟨l⟩⟩ : ByteArray) k hlt
            rw [this]
            congr 1
            have := (List.getElem?_eq_some_iff.1 hb).2
            rw [← this]
            rfl
          simp [Instr.index, asIntOf, hE.run_und hti, hd, h1, hb']
        · simp at h
      · simp at h
    · simp at h
  · simp at h
theorem run_fieldPlace {w : World} {f : Field} {fi : TInfo} (hfi : E.ti f.type = some fi) (hs : 1 ≤ fi.size) (a : Addr) : (fieldPlace a f).run P w = .ok (a.add f.offset) w := by
  simp only [fieldPlace, Sem.run_bind, hE.run_size hfi, Result.andThen]
  rw [if_neg (by omega)]; rfl
theorem fieldAddr_ok {g : G} {w : World} {t : TypeId} {x v : V} {cx : Value} {i : Nat} (hx : VR g x cx) {s : St} (hI : Inv g s w) (h : fieldAddr E t x i s = some v) : ∃ cv, (Instr.fieldAt t cx i).run P w = .ok cv w ∧ VR g v cv := by
  unfold fieldAddr at h
  split at h
  · rename_i ti hti
    split at h
    · rename_i fs hd
      split at h
      · rename_i f hf
        split at h
        · rename_i fi hfi
          cases hs : (Nat.ble 1 fi.size && x.live s) with
          | false => simp [hs] at h
          | true =>
            simp only [hs, cond_true] at h
            simp only [Bool.and_eq_true] at hs
            obtain ⟨hs, hlv⟩ := hs
            replace hs := ble_iff.1 hs
            split at h
            · rename_i o hw e j
              simp at h
              subst h
              simp only [VR] at hx
              obtain ⟨h1, h2, _, h3⟩ := hx
              obtain ⟨r, hr, hv⟩ := live_ok hI h1 h2 hlv
              have h4 := (h3 r hr).2 hv
              subst h4
              refine ⟨.pointer (some ⟨r.b, e * r.esz + j + f.offset, none⟩), ?_, ?_⟩
              · simp [Instr.fieldAt, hE.run_und hti, hd, hf, Instr.sureAddr, run_fieldPlace hE hfi hs, addr_add]
              · simp only [VR]
                refine ⟨h1, h2, rfl, fun r' hr' => ?_⟩
                rw [hr] at hr'; cases hr'
                exact ⟨Nat.le_of_eq hv, fun _ => by rw [Nat.add_assoc]⟩
            · rename_i cells
              simp at h
              subst h
              simp only [VR] at hx
              obtain ⟨b, off, rfl, hr⟩ := hx
              refine ⟨.pointer (some ⟨b, off + f.offset, none⟩), ?_, ?_⟩
              · simp [Instr.fieldAt, hE.run_und hti, hd, hf, Instr.sureAddr, run_fieldPlace hE hfi hs, addr_add]
              · simp only [VR]
                refine ⟨b, off + f.offset, rfl, fun j x hj => ?_⟩
                rw [List.getElem?_drop] at hj
                rw [Nat.add_assoc]
                exact hr _ x hj
            · simp at h
        · simp at h
      · simp at h
    · simp at h
  · simp at h
end
/-- What an element of a stable slice leads to. -/
theorem DR.elem {S : Nat → Nat → Option Value} {c : Bool} {els : List (List D)} {v : Value} (h : DR S (.sl c els) v) : ∃ A cap, v = .slice A els.length cap ∧ els.length ≤ cap ∧ (c = true → cap = els.length) ∧
    (∀ (i : Nat) (r : List D), els[i]? = some r → ∃ b off, A = some ⟨b, off, none⟩ ∧ SRow S b (off + i * r.length) r) ∧
    (els ≠ [] → ∃ b off esz, A = some ⟨b, off, none⟩ ∧ ∀ (i : Nat) (r : List D), els[i]? = some r → r.length = esz ∧ SRow S b (off + i * esz) r) := by
  cases h with
  | sl _ _ A cap b off esz val hlen hS hv hA hc hcut =>
    refine ⟨A, cap, rfl, hc, hcut, fun i r hr => ⟨b, off, hA (by intro e; subst e; simp at hr), fun j x hx => ?_⟩, fun hne => ⟨b, off, esz, hA hne, fun i r hr => ⟨hlen r (List.mem_of_getElem? hr), fun j x hx => ⟨_, hS i r hr j x hx, hv i r hr j x hx⟩⟩⟩⟩
    rw [hlen r (List.mem_of_getElem? hr)]
    exact ⟨_, hS i r hr j x hx, hv i r hr j x hx⟩
theorem els_of_slice {g : G} {x : V} {els : List (List D)} {cx : Value} (hx : VR g x cx) (h : (∃ c, x = .d (.sl c els)) ∨ ∃ o, x = .os o els) : DR g.S (.sl false els) cx := by
  rcases h with ⟨c, rfl⟩ | ⟨o, rfl⟩
  · simp only [VR] at hx; exact hx.uncut
  · simp only [VR] at hx; exact hx.2.2.2.1
section
variable {P : Program} {E : Env} (hE : EnvOK P E)
include hE
theorem indexAddr_ok {g : G} {s : St} {w : World} (hI : Inv g s w) {t : TypeId} {x ix v : V} {cx ci : Value} (hx : VR g x cx) (hix : VR g ix ci) (h : indexAddr E t x ix s = some v) :
    ∃ cv, (Instr.indexAt t cx ci).run P w = .ok cv w ∧ VR g v cv := by
  unfold indexAddr at h
  split at h
  · rename_i ti hti
    split at h
    · rename_i e hd
      split at h
      · rename_i ei hei
        have stab : ∀ els : List (List D), DR g.S (.sl false els) cx → (match nat? ix els.length with
          | some n => (match els[n]? with
            | some r => bif Nat.beq r.length ei.size then some (V.rp r) else none
            | none => none)
          | none => none) = some v → ∃ cv, (Instr.indexAt t cx ci).run P w = .ok cv w ∧ VR g v cv := by
          intro els hd' h
          split at h
          · rename_i n hn
            obtain ⟨K, i, rfl, h1, h2, h3⟩ := nat?_ok hix hn
            split at h
            · rename_i r hr
              cases hb : Nat.beq r.length ei.size with
              | false => simp [hb] at h
              | true =>
                simp [hb] at h
                subst h
                obtain ⟨A, cap, rfl, _, _, h4, _⟩ := hd'.elem
                obtain ⟨b, off, rfl, h5⟩ := h4 n r hr
                rw [nbeq_iff.1 hb] at h5
                refine ⟨.pointer (some ⟨b, off + n * ei.size, none⟩), ?_, by simp only [VR]; exact ⟨b, _, rfl, h5⟩⟩
                simp [Instr.indexAt, asIntOf, hE.run_und hti, hd, h1, h2, hE.run_size hei, h3, addr_add]
            · simp at h
          · simp at h
        split at h
        · exact stab _ (els_of_slice hx (.inl ⟨_, rfl⟩)) h
        · exact stab _ (els_of_slice hx (.inr ⟨_, rfl⟩)) h
        · rename_i o i n hw cut
          split at h
          · rename_i k hk
            obtain ⟨K, z, rfl, h1, h2, h3⟩ := nat?_ok hix hk
            split at h
            · rename_i r hr
              cases hb : Nat.beq r.length ei.size with
              | false => simp [hb] at h
              | true =>
                simp [hb] at h
                subst h
                simp only [VR] at hx
                obtain ⟨g1, g2, _, g3⟩ := hx
                obtain ⟨r', els, opn, h4, _, _, h5, _, h7, h8⟩ := rowAt_ok hI g1 g2 hr
                obtain ⟨A, c, rfl, hA, hc, _⟩ := (g3 r' h4).2 h5
                have hA := hA (by omega)
                subst hA
                have hes : ei.size = r'.esz := by rw [← nbeq_iff.1 hb, h7]
                refine ⟨.pointer (some ⟨r'.b, (i + k) * r'.esz, none⟩), ?_, ?_⟩
                · simp [Instr.indexAt, asIntOf, hE.run_und hti, hd, h1, h2, hE.run_size hei, h3, addr_add, hes, Nat.add_mul]
                · simp only [VR]
                  refine ⟨g1, g2, rfl, fun r'' hr'' => ?_⟩
                  rw [h4] at hr''; cases hr''
                  exact ⟨Nat.le_of_eq h5, fun _ => by simp⟩
            · simp at h
          · simp at h
        · rename_i o hw i j sz n cap
          cases hb : (Nat.beq sz ei.size && liveRow s o hw) with
          | false => simp [hb] at h
          | true =>
            simp only [hb, cond_true] at h
            simp only [Bool.and_eq_true] at hb
            have hlv := hb.2
            have hb := hb.1
            split at h
            · rename_i k hk
              obtain ⟨K, z, rfl, h1, h2, h3⟩ := nat?_ok hix hk
              simp at h
              subst h
              simp only [VR] at hx
              obtain ⟨g1, g2, _, g3⟩ := hx
              obtain ⟨r, hr, hv⟩ := live_ok hI g1 g2 hlv
              obtain ⟨A, rfl, hc, hA⟩ := (g3 r hr).2 hv
              have hA := hA (by omega)
              subst hA
              refine ⟨.pointer (some ⟨r.b, i * r.esz + j + k * sz, none⟩), ?_, ?_⟩
              · simp [Instr.indexAt, asIntOf, hE.run_und hti, hd, h1, h2, hE.run_size hei, h3, addr_add, nbeq_iff.1 hb]
              · simp only [VR]
                refine ⟨g1, g2, rfl, fun r'' hr'' => ?_⟩
                rw [hr] at hr''; cases hr''
                exact ⟨Nat.le_of_eq hv, fun _ => by rw [Nat.add_assoc]⟩
            · simp at h
        · simp at h
      · simp at h
    · rename_i len e hd
      split at h
      · rename_i ei hei
        split at h
        · rename_i k hk
          obtain ⟨K, z, rfl, h1, h2, h3⟩ := nat?_ok hix hk
          split at h
          · rename_i o hw i j
            cases hlv : liveRow s o hw with
            | false => simp [hlv] at h
            | true =>
            simp [hlv] at h
            subst h
            simp only [VR] at hx
            obtain ⟨g1, g2, _, g3⟩ := hx
            obtain ⟨r, hr, hv⟩ := live_ok hI g1 g2 hlv
            have h4 := (g3 r hr).2 hv
            subst h4
            refine ⟨.pointer (some ⟨r.b, i * r.esz + j + k * ei.size, none⟩), ?_, ?_⟩
            · simp [Instr.indexAt, asIntOf, hE.run_und hti, hd, h1, h2, hE.run_size hei, h3, addr_add, Instr.sureAddr]
            · simp only [VR]
              refine ⟨g1, g2, rfl, fun r'' hr'' => ?_⟩
              rw [hr] at hr''; cases hr''
              exact ⟨Nat.le_of_eq hv, fun _ => by rw [Nat.add_assoc]⟩
          · rename_i cells
            simp at h
            subst h
            simp only [VR] at hx
            obtain ⟨b, off, rfl, hr⟩ := hx
            refine ⟨.pointer (some ⟨b, off + k * ei.size, none⟩), ?_, ?_⟩
            · simp [Instr.indexAt, asIntOf, hE.run_und hti, hd, h1, h2, hE.run_size hei, h3, addr_add, Instr.sureAddr]
            · simp only [VR]
              refine ⟨b, _, rfl, fun j x hj => ?_⟩
              rw [List.getElem?_drop] at hj
              rw [Nat.add_assoc]
              exact hr _ x hj
          · simp at h
        · simp at h
      · simp at h
    · simp at h
  · simp at h
end
end Go.Ev
/- Slicing, lengths, numbers, texts. -/
namespace Go.Ev
/-- Operands that may be missing. -/
def VRO (g : G) : Option V → Option Value → Prop
  | none, none => True
  | some x, some v => VR g x v
  | _, _ => False
theorem bytes_eq (s : ByteArray) : s = ⟨⟨s.data.toList⟩⟩ := rfl
theorem extract_list (l : List UInt8) (b h : Nat) : (⟨⟨l⟩⟩ : ByteArray).extract b h = ⟨⟨(l.take h).drop b⟩⟩ := by
  apply ByteArray.ext
  apply Array.ext'
  simp [ByteArray.data_extract, List.extract_eq_take_drop, List.drop_take]
section
variable {P : Program} {g : G} {w : World}
theorem sliceBound_ok {x : V} {cx : Value} {y k : Nat} (code : BoundsCode) (hx : VR g x cx) (h : natLe? x y = some k) (y' : Nat) (hy : y ≤ y') : (Instr.sliceBound cx y' code).run P w = .ok k w := by
  obtain ⟨K, i, rfl, h1, h2, h3⟩ := natLe?_ok hx h
  simp only [Instr.sliceBound, asIntOf, Sem.run_bind, Sem.run_pure, Result.andThen]
  rw [if_pos ⟨h1, by omega⟩]
  simp [h3]
theorem bound_hi {hi : Option V} {chi : Option Value} {dflt y k : Nat} (hhi : VRO g hi chi) (h : bound dflt y hi = some k) : (∃ x cx, hi = some x ∧ chi = some cx ∧ VR g x cx ∧ natLe? x y = some k) ∨ (hi = none ∧ chi = none ∧ k = dflt) := by
  cases hi with
  | none =>
    cases chi with
    | none => simp [bound] at h; exact .inr ⟨rfl, rfl, h.symm⟩
    | some c => simp [VRO] at hhi
  | some x =>
    cases chi with
    | none => simp [VRO] at hhi
    | some c => exact .inl ⟨x, c, rfl, rfl, hhi, h⟩
theorem natLe?_le {x : V} {y k : Nat} (h : natLe? x y = some k) : k ≤ y := by
  unfold natLe? at h
  split at h
  · split at h
    · rename_i hc; simp at h; omega
    · simp at h
  · simp at h
theorem bound_le {hi : Option V} {dflt y k : Nat} (h : bound dflt y hi = some k) (hd : dflt ≤ y) : k ≤ y := by
  cases hi with
  | none => simp [bound] at h; omega
  | some x => exact natLe?_le h
/-- The bounds of a slice expression, without a third index. -/
theorem bounds2_ok {isSlice : Bool} {len len' cap h b : Nat} {lo hi : Option V} {clo chi : Option Value} (hlo : VRO g lo clo) (hhi : VRO g hi chi) (h1 : bound len len' hi = some h) (h2 : bound 0 h lo = some b) (hc : len' ≤ cap) :
    (Instr.sliceBounds isSlice len cap clo chi none).run P w = .ok (b, h, cap) w := by
  rcases bound_hi hhi h1 with ⟨x, cx, rfl, rfl, hx, hk⟩ | ⟨rfl, rfl, rfl⟩
  · rcases bound_hi hlo h2 with ⟨y, cy, rfl, rfl, hy, hk'⟩ | ⟨rfl, rfl, rfl⟩
    · simp [Instr.sliceBounds, sliceBound_ok (P := P) (w := w) _ hx hk cap hc, sliceBound_ok (P := P) (w := w) _ hy hk' h (Nat.le_refl _)]
    · simp [Instr.sliceBounds, sliceBound_ok (P := P) (w := w) _ hx hk cap hc]
  · rcases bound_hi hlo h2 with ⟨y, cy, rfl, rfl, hy, hk'⟩ | ⟨rfl, rfl, rfl⟩
    · simp [Instr.sliceBounds, sliceBound_ok (P := P) (w := w) _ hy hk' _ (Nat.le_refl _)]
    · simp [Instr.sliceBounds]
/-- .. with a third index. -/
theorem bounds3_ok {isSlice : Bool} {len m cap h b dflt dm : Nat} {lo hi mx : Option V} {clo chi cmx : Option Value} (hlo : VRO g lo clo) (hhi : VRO g hi chi) (hmx : VRO g mx cmx) (hs : mx.isSome = true) (hs' : hi.isSome = true)
    (h0 : bound dm len mx = some m) (h1 : bound dflt m hi = some h) (h2 : bound 0 h lo = some b) (hc : len ≤ cap) (len' : Nat) :
    (Instr.sliceBounds isSlice len' cap clo chi cmx).run P w = .ok (b, h, m) w := by
  rcases bound_hi hmx h0 with ⟨z, cz, rfl, rfl, hz, hm⟩ | ⟨rfl, rfl, rfl⟩
  · rcases bound_hi hhi h1 with ⟨x, cx, rfl, rfl, hx, hk⟩ | ⟨rfl, rfl, rfl⟩
    · rcases bound_hi hlo h2 with ⟨y, cy, rfl, rfl, hy, hk'⟩ | ⟨rfl, rfl, rfl⟩
      · simp [Instr.sliceBounds, sliceBound_ok (P := P) (w := w) _ hz hm cap hc, sliceBound_ok (P := P) (w := w) _ hx hk m (Nat.le_refl _), sliceBound_ok (P := P) (w := w) _ hy hk' h (Nat.le_refl _)]
      · simp [Instr.sliceBounds, sliceBound_ok (P := P) (w := w) _ hz hm cap hc, sliceBound_ok (P := P) (w := w) _ hx hk m (Nat.le_refl _)]
    · simp at hs'
  · simp at hs
end
theorem isSome_iff {g : G} {x : Option V} {v : Option Value} (h : VRO g x v) : x.isSome = v.isSome := by
  cases x <;> cases v <;> simp_all [VRO]
/-- A part of a stable slice. -/
theorem DR.part {S : Nat → Nat → Option Value} {c : Bool} {els : List (List D)} {A : Option Addr} {n cap : Nat} (h : DR S (.sl c els) (.slice A n cap)) {b k m size : Nat} (hb : b ≤ k) (hk : k ≤ els.length) (hkm : k ≤ m)
    (hsz : b = 0 ∨ ∀ r, r ∈ els → r.length = size) (c' : Bool) (hc' : c' = true → m = k) : DR S (.sl c' ((els.take k).drop b)) (.slice (if m = b then A else A.map (·.add (b * size))) (k - b) (m - b)) := by
  cases h with
  | sl _ _ _ _ b0 off esz val hlen hS hv hA hc hcut =>
    have hl : ((els.take k).drop b).length = k - b := by simp; omega
    have hget : ∀ (i : Nat) (r : List D), ((els.take k).drop b)[i]? = some r → els[b + i]? = some r := fun i r hr => by
      rw [List.getElem?_drop, List.getElem?_take] at hr
      split at hr
      · exact hr
      · cases hr
    have hbs : ∀ r, r ∈ els → b * size = b * esz := fun r hr => by
      rcases hsz with h0 | h0
      · simp [h0]
      · rw [← h0 r hr, hlen r hr]
    rw [← hl]
    refine .sl c' _ _ _ b0 (off + b * size) esz (fun i j => val (b + i) j) (fun r hr => hlen r (List.mem_of_mem_take (List.mem_of_mem_drop hr))) (fun i r hr j x hx => ?_) (fun i r hr j x hx => hv _ r (hget i r hr) j x hx) (fun hne => ?_) (by rw [hl]; omega) (fun h => by rw [hl, hc' h])
    · have h1 := hS _ r (hget i r hr) j x hx
      rw [hbs r (List.mem_of_getElem? (hget i r hr))]
      rw [← h1, Nat.add_mul, show off + b * esz + i * esz + j = off + (b * esz + i * esz) + j by omega]
    · have hpos : 0 < ((els.take k).drop b).length := List.length_pos_iff.2 hne
      rw [hl] at hpos
      have hne' : els ≠ [] := by intro e; subst e; simp at hk; omega
      rw [if_neg (by omega), hA hne']
      simp [addr_add]
theorem DR.first {S : Nat → Nat → Option Value} {c : Bool} {els : List (List D)} {v : Value} (h : DR S (.sl c els) v) {n : Nat} (hf : firstLen n els = true) : ∀ r, r ∈ els → r.length = n := by
  cases h with
  | sl _ _ _ _ b0 off esz val hlen hS hv hA hc hcut =>
    intro r hr
    cases els with
    | nil => simp at hr
    | cons x xs => rw [hlen r hr, ← hlen x (by simp)]; exact nbeq_iff.1 hf
theorem ObjR.first {g : G} {r : ORec} {w : World} {els : List (List V)} {opn : Tg} (h : ObjR g r w (.row els opn)) {n : Nat} (hf : firstLen n els = true) (hne : els ≠ []) : r.esz = n := by
  cases els with
  | nil => exact absurd rfl hne
  | cons x xs => rw [← h.2.2.1 x (by simp)]; exact nbeq_iff.1 hf
theorem bor_iff {a b : Bool} : (a || b) = true ↔ a = true ∨ b = true := by cases a <;> cases b <;> simp
theorem band_iff {a b : Bool} : (a && b) = true ↔ a = true ∧ b = true := by cases a <;> cases b <;> simp
theorem noHigh_false {mx hi : Option V} (h : noHigh mx hi = false) (hm : mx.isSome = true) : hi.isSome = true := by
  cases mx <;> cases hi <;> simp_all [noHigh]
/-- The bounds of a slice expression over something of len elements and room for cap. -/
theorem bounds_ok {P : Program} {g : G} {w : World} {len cap m h b : Nat} {lo hi mx : Option V} {clo chi cmx : Option Value} (hlo : VRO g lo clo) (hhi : VRO g hi chi) (hmx : VRO g mx cmx) (hn : noHigh mx hi = false)
    (h0 : bound len len mx = some m) {dflt : Nat} (hd : mx = none → dflt = len) (h1 : bound dflt m hi = some h) (h2 : bound 0 h lo = some b) (hc : len ≤ cap) :
    ∃ m', (Instr.sliceBounds true len cap clo chi cmx).run P w = .ok (b, h, m') w ∧ b ≤ h ∧ h ≤ m' ∧ h ≤ len ∧ (mx.isSome = true → m' = m) ∧ (mx = none → m' = cap ∧ m = len) := by
  have hb := bound_le h2 (Nat.zero_le _)
  cases mx with
  | none =>
    obtain rfl : cmx = none := by cases cmx with | none => rfl | some c => simp [VRO] at hmx
    simp [bound] at h0
    subst h0
    rw [hd rfl] at h1
    have hh := bound_le h1 (Nat.le_refl _)
    exact ⟨cap, bounds2_ok hlo hhi h1 h2 hc, hb, by omega, hh, by simp, fun _ => ⟨rfl, rfl⟩⟩
  | some z =>
    have hm := bound_le h0 (Nat.le_refl _)
    have hs := noHigh_false hn rfl
    have hh : h ≤ m := by
      cases hi with
      | none => simp at hs
      | some x => exact natLe?_le h1
    exact ⟨m, bounds3_ok hlo hhi hmx rfl hs h0 h1 h2 hc len, hb, hh, by omega, fun _ => rfl, by simp⟩
theorem szOk_ok {E : Env} {e : TypeId} {b : Nat} {α : Type} {els : List (List α)} (h : szOk E e b els = true) : ∃ ei, E.ti e = some ei ∧ (b = 0 ∨ firstLen ei.size els = true) := by
  unfold szOk at h
  split at h
  · rename_i ei hei
    refine ⟨ei, hei, ?_⟩
    rcases bor_iff.1 h with h1 | h1
    · exact .inl (nbeq_iff.1 h1)
    · exact .inr h1
  · simp at h
theorem slice_ok {P : Program} {E : Env} (hE : EnvOK P E) {g : G} {s : St} {w : World} (hI : Inv g s w) {t : TypeId} {x v : V} {lo hi mx : Option V} {cx : Value} {clo chi cmx : Option Value} (hx : VR g x cx)
    (hlo : VRO g lo clo) (hhi : VRO g hi chi) (hmx : VRO g mx cmx) (h : slice E t x lo hi mx s = some v) : ∃ cv, (Instr.sliceAt t cx clo chi cmx).run P w = .ok cv w ∧ VR g v cv := by
  unfold slice at h
  cases hn : noHigh mx hi with
  | true => simp [hn] at h
  | false =>
  simp only [hn, cond_false] at h
  have hnone : mx = none → cmx = none := fun e => by subst e; cases cmx with | none => rfl | some c => simp [VRO] at hmx
  split at h
  · rename_i ti hti
    split at h
    · -- a text
      rename_i l hd
      simp only [VR] at hx
      cases hx
      split at h
      · rename_i _ k hk
        simp only [hnone rfl]
        split at h
        · rename_i b hb
          simp at h
          subst h
          have hbd := bounds2_ok (P := P) (w := w) (isSlice := false) (cap := l.length) hlo hhi hk hb (Nat.le_refl _)
          refine ⟨.string ⟨⟨(l.take k).drop b⟩⟩, ?_, by simp only [VR]; exact .str _⟩
          have hsz : (⟨⟨l⟩⟩ : ByteArray).size = l.length := rfl
          simp [Instr.sliceAt, Instr.slice, hE.run_und hti, hd, hsz, hbd, extract_list]
        · simp at h
      · simp at h
    · -- a stable slice
      rename_i e cut els hd
      simp only [VR] at hx
      obtain ⟨A, cap, rfl, hcap, hcut, _, _⟩ := hx.elem
      split at h
      · rename_i m hm
        split at h
        · rename_i k hk
          split at h
          · rename_i b hb
            cases hz : szOk E e b els with
            | false => simp [hz] at h
            | true =>
              simp [hz] at h
              subst h
              obtain ⟨ei, hei, hsz⟩ := szOk_ok hz
              obtain ⟨m', h1, h2, h3, h4, h5, h6⟩ := bounds_ok (P := P) (w := w) hlo hhi hmx hn hm (dflt := bif mx.isSome then m else els.length) (fun e => by subst e; rfl) hk hb hcap
              refine ⟨.slice (if m' = b then A else A.map (·.add (b * ei.size))) (k - b) (m' - b), ?_, ?_⟩
              · simp [Instr.sliceAt, Instr.slice, hE.run_und hti, hd, h1, hE.run_size hei]
              · simp only [VR]
                refine hx.part h2 h4 h3 (hsz.imp id (fun hf => hx.first hf)) _ (fun hc => ?_)
                simp only [Bool.and_eq_true, Bool.or_eq_true] at hc
                have hkm := nbeq_iff.1 hc.2
                cases hmx' : mx with
                | some z => rw [h5 (by simp [hmx'])]; exact hkm.symm
                | none =>
                  obtain ⟨h7, h8⟩ := h6 hmx'
                  rcases hc.1 with h9 | h9
                  · rw [h7, hcut h9, ← h8]; exact hkm.symm
                  · simp [hmx'] at h9
          · simp at h
        · simp at h
      · simp at h
    · -- a slice with the right to append
      rename_i e o els hd
      have hx0 := hx
      simp only [VR] at hx
      obtain ⟨g1, g2, _, hdr, g3⟩ := hx
      obtain ⟨A, cap, rfl, hcap, hcut, _, _⟩ := hdr.elem
      split at h
      · rename_i m hm
        split at h
        · rename_i k hk
          split at h
          · rename_i b hb
            cases hz : szOk E e b els with
            | false => simp [hz] at h
            | true =>
              simp only [hz, cond_true] at h
              obtain ⟨ei, hei, hsz⟩ := szOk_ok hz
              obtain ⟨m', h1, h2, h3, h4, h5, h6⟩ := bounds_ok (P := P) (w := w) hlo hhi hmx hn hm (dflt := els.length) (fun _ => rfl) hk hb hcap
              refine ⟨.slice (if m' = b then A else A.map (·.add (b * ei.size))) (k - b) (m' - b), ?_, ?_⟩
              · simp [Instr.sliceAt, Instr.slice, hE.run_und hti, hd, h1, hE.run_size hei]
              · cases hc : (Nat.beq k els.length && Nat.beq b 0 && mx.isNone) with
                | true =>
                  simp only [hc, cond_true, Option.some.injEq] at h
                  subst h
                  simp only [Bool.and_eq_true] at hc
                  obtain ⟨⟨hk1, hb1⟩, hm1⟩ := hc
                  have hk1 := nbeq_iff.1 hk1
                  have hb1 := nbeq_iff.1 hb1
                  have hm1 : mx = none := by cases mx <;> simp_all
                  subst hb1
                  obtain ⟨h7, _⟩ := h6 hm1
                  subst h7
                  rw [hk1]
                  have : (if m' = 0 then A else A.map (·.add (0 * ei.size))) = A := by
                    split
                    · rfl
                    · cases A with
                      | none => rfl
                      | some a => simp [Addr.add]
                  rw [this, Nat.sub_zero, Nat.sub_zero]
                  exact hx0
                | false =>
                  simp only [hc, cond_false, Option.some.injEq] at h
                  subst h
                  simp only [VR]
                  refine hdr.part h2 h4 h3 (hsz.imp id (fun hf => hdr.first hf)) _ (fun hc => ?_)
                  simp only [Bool.and_eq_true] at hc
                  rw [h5 hc.1]; exact (nbeq_iff.1 hc.2).symm
          · simp at h
        · simp at h
      · simp at h
    · -- a slice of a row
      rename_i e o i n hw cut hd
      cases hlv : liveRow s o hw with
      | false => simp [hlv] at h
      | true =>
      simp only [hlv, cond_true] at h
      simp only [VR] at hx
      obtain ⟨g1, g2, _, g3⟩ := hx
      obtain ⟨r, hr, hv⟩ := live_ok hI g1 g2 hlv
      obtain ⟨A, cap, rfl, hA, hcap, hcut, hopen⟩ := (g3 r hr).2 hv
      split at h
      · rename_i m hm
        split at h
        · rename_i k hk
          split at h
          · rename_i b hb
            cases hz : ((!(cut || mx.isSome) || Nat.beq k m) && szRow E e b s o) with
            | false => simp only [hz, cond_false] at h; cases h
            | true =>
              simp only [hz, cond_true, Option.some.injEq] at h
              subst h
              obtain ⟨hz1, hz2⟩ := band_iff.1 hz
              unfold szRow at hz2
              split at hz2
              · rename_i els opn hg
                obtain ⟨hz2, hz3⟩ := band_iff.1 hz2
                obtain ⟨ei, hei, hsz⟩ := szOk_ok hz2
                obtain ⟨m', h1, h2, h3, h4, h5, h6⟩ := bounds_ok (P := P) (w := w) hlo hhi hmx hn hm (dflt := n) (fun _ => rfl) hk hb hcap
                have hes : b * ei.size = b * r.esz := by
                  rcases hsz with h0 | h0
                  · simp [h0]
                  · rcases Nat.eq_zero_or_pos b with hb0 | hb0
                    · simp [hb0]
                    · rcases hI.live o _ (by rw [← hI.N]; exact g1) hg with h7 | ⟨r2, h7, h8⟩
                      · exact absurd h7 g2
                      · rw [hr] at h7; cases h7
                        rcases bor_iff.1 hz3 with h9 | h9
                        · have := nbeq_iff.1 h9; omega
                        · rw [h8.first h0 (by intro e; subst e; have := blt_iff.1 h9; simp at this)]
                refine ⟨.slice (if m' = b then A else A.map (·.add (b * ei.size))) (k - b) (m' - b), ?_, ?_⟩
                · simp [Instr.sliceAt, Instr.slice, hE.run_und hti, hd, h1, hE.run_size hei]
                · simp only [VR]
                  refine ⟨g1, g2, rfl, fun r' hr' => ?_⟩
                  rw [hr] at hr'; cases hr'
                  refine ⟨Nat.le_of_eq hv, fun _ => ⟨_, _, rfl, fun hpos => ?_, by omega, fun hc => ?_, fun hc => ?_⟩⟩
                  · have hm'c : m' ≤ cap := by
                      cases hmx' : mx with
                      | some z => rw [h5 (by simp [hmx'])]; have := bound_le hm (Nat.le_refl _); omega
                      | none => rw [(h6 hmx').1]; exact Nat.le_refl _
                    rw [if_neg (by omega), hA (by omega)]
                    simp [addr_add, hes, Nat.add_mul]
                  · have hkm : k = m := by
                      rcases bor_iff.1 hz1 with h9 | h9
                      · rw [hc] at h9; simp at h9
                      · exact nbeq_iff.1 h9
                    cases hmx' : mx with
                    | some z => rw [h5 (by simp [hmx']), hkm]
                    | none =>
                      simp only [hmx', Option.isSome_none, Bool.or_false] at hc
                      rw [(h6 hmx').1, hcut hc, hkm, (h6 hmx').2]
                  · have hcc : cut = false := by cases cut <;> simp_all
                    have hmm : mx = none := by cases mx <;> simp_all
                    rw [(h6 hmm).1, ← hopen hcc]
                    congr 1; omega
              · simp at hz2
          · simp at h
        · simp at h
      · simp at h
    · -- a slice of an array
      rename_i e o hw i j sz n cap hd
      cases hlv : (liveRow s o hw && sizeIs E e sz) with
      | false => simp only [hlv, cond_false] at h; cases h
      | true =>
      simp only [hlv, cond_true] at h
      obtain ⟨hlv, hsz⟩ := band_iff.1 hlv
      unfold sizeIs at hsz
      split at hsz
      · rename_i ei hei
        have hsz := nbeq_iff.1 hsz
        simp only [VR] at hx
        obtain ⟨g1, g2, _, g3⟩ := hx
        obtain ⟨r, hr, hv⟩ := live_ok hI g1 g2 hlv
        obtain ⟨A, rfl, hcap, hA⟩ := (g3 r hr).2 hv
        split at h
        · rename_i _ k hk
          simp only [hnone rfl]
          split at h
          · rename_i b hb
            simp at h
            subst h
            have hkc := bound_le hk hcap
            have hbk := bound_le hb (Nat.zero_le _)
            have hbd := bounds2_ok (P := P) (w := w) (isSlice := true) hlo hhi hk hb (Nat.le_refl _)
            refine ⟨.slice (if cap = b then A else A.map (·.add (b * ei.size))) (k - b) (cap - b), ?_, ?_⟩
            · simp [Instr.sliceAt, Instr.slice, hE.run_und hti, hd, hbd, hE.run_size hei]
            · simp only [VR]
              refine ⟨g1, g2, rfl, fun r' hr' => ?_⟩
              rw [hr] at hr'; cases hr'
              refine ⟨Nat.le_of_eq hv, fun _ => ⟨_, rfl, by omega, fun hpos => ?_⟩⟩
              rw [if_neg (by omega), hA (by omega)]
              simp [addr_add, hsz, Nat.add_assoc]
          · simp at h
        · simp at h
      · simp at hsz
    · -- an array's place
      rename_i n e o hw i j hd
      cases hlv : liveRow s o hw with
      | false => simp [hlv] at h
      | true =>
      simp only [hlv, cond_true] at h
      split at h
      · rename_i _ _ _ ei k hei hk
        simp only [hnone rfl]
        split at h
        · rename_i b hb
          simp at h
          subst h
          simp only [VR] at hx
          obtain ⟨g1, g2, _, g3⟩ := hx
          obtain ⟨r, hr, hv⟩ := live_ok hI g1 g2 hlv
          have h4 := (g3 r hr).2 hv
          subst h4
          have hkc := bound_le hk (Nat.le_refl _)
          have hbk := bound_le hb (Nat.zero_le _)
          have hbd := bounds2_ok (P := P) (w := w) (isSlice := false) hlo hhi hk hb (Nat.le_refl _)
          refine ⟨.slice (some (if n = b then ⟨r.b, i * r.esz + j, none⟩ else (⟨r.b, i * r.esz + j, none⟩ : Addr).add (b * ei.size))) (k - b) (n - b), ?_, ?_⟩
          · simp [Instr.sliceAt, hE.run_und hti, hd, Instr.sureAddr, hbd, hE.run_size hei]
          · simp only [VR]
            refine ⟨g1, g2, rfl, fun r' hr' => ?_⟩
            rw [hr] at hr'; cases hr'
            refine ⟨Nat.le_of_eq hv, fun _ => ⟨_, rfl, by omega, fun hpos => ?_⟩⟩
            rw [if_neg (by omega)]
            simp [addr_add, Nat.add_assoc]
        · simp at h
      · simp at h
    · simp at h
  · simp at h
end Go.Ev
/- Numbers, texts, comparisons, conversions, literals. -/
namespace Go.Ev
theorem toList_l (l : List UInt8) : (⟨⟨l⟩⟩ : ByteArray).toList = l := by
  rw [ByteArray.toList_eq]
theorem bless_eq : ∀ (x y : List UInt8), Op.bytesLess x y = bless x y
  | x, [] => by cases x <;> rfl
  | [], _ :: _ => rfl
  | a :: x, b :: y => by simp only [Op.bytesLess, bless, bless_eq x y]
section
variable {P : Program} {g : G} {s : St} {w : World}
theorem binInt_ok {S : Nat → Nat → Option Value} {op : BinOp} {t : TypeId} {k : IntKind} {a b : Int} {d : D} (h : binInt op k a b = some d) : ∃ cv, (Go.binOp op t (.int k a) (.int k b)).run P w = .ok cv w ∧ DR S d cv := by
  cases op <;> simp only [binInt, Option.some.injEq, reduceCtorEq] at h
  case quo =>
    split at h
    · cases h
    · rename_i hb; simp at h; subst h
      exact ⟨_, by simp [Go.binOp, Op.intDiv, hb], .int _ _⟩
  case rem =>
    split at h
    · cases h
    · rename_i hb; simp at h; subst h
      exact ⟨_, by simp [Go.binOp, Op.intDiv, hb], .int _ _⟩
  all_goals subst h
  case eql => exact ⟨.bool (a == b), by simp [Go.binOp, Op.intCmp], by rw [show (a == b) = decide (a = b) from rfl]; exact .bool _⟩
  case neq => exact ⟨.bool (a != b), by simp [Go.binOp, Op.intCmp], by rw [show (a != b) = !decide (a = b) from rfl]; exact .bool _⟩
  case lss => exact ⟨.bool (decide (a < b)), by simp [Go.binOp, Op.intCmp], .bool _⟩
  case leq => exact ⟨.bool (decide (a ≤ b)), by simp [Go.binOp, Op.intCmp], .bool _⟩
  case gtr => exact ⟨.bool (decide (a > b)), by simp [Go.binOp, Op.intCmp], .bool _⟩
  case geq => exact ⟨.bool (decide (a ≥ b)), by simp [Go.binOp, Op.intCmp], .bool _⟩
  all_goals exact ⟨_, by simp [Go.binOp, Op.intArith, Op.intBits], .int _ _⟩
theorem shiftInt_ok {S : Nat → Nat → Option Value} {op : BinOp} {t : TypeId} {k k' : IntKind} {a b : Int} {d : D} (hop : op = .shl ∨ op = .shr) (h : shiftInt op k a b = some d) : ∃ cv, (Go.binOp op t (.int k a) (.int k' b)).run P w = .ok cv w ∧ DR S d cv := by
  unfold shiftInt at h
  split at h
  · cases h
  · rename_i hb
    rcases hop with rfl | rfl <;> simp only [Option.some.injEq] at h <;> subst h
    · exact ⟨_, by simp [Go.binOp, Op.shift, hb], .int _ _⟩
    · exact ⟨_, by simp [Go.binOp, Op.shift, hb], .int _ _⟩
theorem binStr_ok {S : Nat → Nat → Option Value} {op : BinOp} {t : TypeId} {a b : List UInt8} {d : D} (h : binStr op a b = some d) : ∃ cv, (Go.binOp op t (.string ⟨⟨a⟩⟩) (.string ⟨⟨b⟩⟩)).run P w = .ok cv w ∧ DR S d cv := by
  cases op <;> simp only [binStr, Option.some.injEq, reduceCtorEq] at h
  case add =>
    cases hle : Nat.ble (a.length + b.length) strMax with
    | false => simp [hle] at h
    | true =>
      simp [hle] at h
      subst h
      have hle := ble_iff.1 hle
      refine ⟨.string ⟨⟨a ++ b⟩⟩, ?_, .str _⟩
      have h1 : (⟨⟨a⟩⟩ : ByteArray).size = a.length := rfl
      have h2 : (⟨⟨b⟩⟩ : ByteArray).size = b.length := rfl
      have h3 : (⟨⟨a⟩⟩ : ByteArray) ++ ⟨⟨b⟩⟩ = ⟨⟨a ++ b⟩⟩ := by apply ByteArray.ext; apply Array.ext'; simp [ByteArray.data_append]
      have h4 : ¬ (((a.length + b.length : Nat) : Int) > IntKind.i64.max) := by
        have : IntKind.i64.max = 9223372036854775807 := by decide
        rw [this]; unfold strMax at hle; omega
      simp only [Go.binOp, Op.stringOp, h1, h2, h3, if_neg h4, Sem.run_pure]
  all_goals subst h
  case eql => exact ⟨_, by simp [Go.binOp, Op.stringOp], .bool _⟩
  case neq => exact ⟨_, by simp only [Go.binOp, Op.stringOp, toList_l]; rfl, .bool _⟩
  case lss => exact ⟨_, by simp only [Go.binOp, Op.stringOp, toList_l, bless_eq]; rfl, .bool _⟩
  case leq => exact ⟨_, by simp only [Go.binOp, Op.stringOp, toList_l, bless_eq]; rfl, .bool _⟩
  case gtr => exact ⟨_, by simp only [Go.binOp, Op.stringOp, toList_l, bless_eq]; rfl, .bool _⟩
  case geq => exact ⟨_, by simp only [Go.binOp, Op.stringOp, toList_l, bless_eq]; rfl, .bool _⟩
end

theorem ptr_live {g : G} {s : St} {w : World} (hI : Inv g s w) {o hw i j : Nat} {c : Value} (hx : VR g (.ptr o hw i j) c) (h : liveRow s o hw = true) : ∃ r, g.O o = some r ∧ hw = r.ver ∧ c = .pointer (some ⟨r.b, i * r.esz + j, none⟩) := by
  simp only [VR] at hx
  obtain ⟨g1, g2, _, g3⟩ := hx
  obtain ⟨r, hr, hv⟩ := live_ok hI g1 g2 h
  exact ⟨r, hr, hv, (g3 r hr).2 hv⟩
def notNum : Value → Bool
  | .int _ _ | .string _ | .float _ _ | .complex _ _ _ => false
  | _ => true
theorem guardA {P : Program} {w : World} (op : BinOp) (t : TypeId) (ox oy : Operand) {a c : Value} (h1 : ∀ z, a ≠ .agg z) (h2 : a ≠ .nilIface) : (eqGuard op t ox oy a c).run P w = .ok () w := by
  cases a <;> first | exact absurd rfl h2 | exact absurd rfl (h1 _) | (cases op <;> rfl)
theorem guardB {P : Program} {w : World} (op : BinOp) (t : TypeId) (ox oy : Operand) {a c : Value} (h1 : ∀ z, c ≠ .agg z) (h2 : c ≠ .nilIface) : (eqGuard op t ox oy a c).run P w = .ok () w := by
  cases a <;> cases c <;> first | exact absurd rfl h2 | exact absurd rfl (h1 _) | (cases op <;> rfl)
theorem eqV_ok {P : Program} {E : Env} (hE : EnvOK P E) {g : G} {s : St} {w : World} (hI : Inv g s w) {t : TypeId} {x y : V} {cx cy : Value} {ox oy : Operand} {b : Bool} (hx : VR g x cx) (hy : VR g y cy)
    (h : eqV E t (isConst ox || isConst oy) s x y = some b) (op : BinOp) : (eqGuard op t ox oy cx cy).run P w = .ok () w ∧ (Op.equal t cx cy).run P w = .ok b w ∧ notNum cx = true := by
  unfold eqV at h
  obtain ⟨n, hn⟩ : ∃ n, Op.maxDepth = n + 1 := ⟨9999, rfl⟩
  have hG : ∀ {a c : Value}, (∀ z, a ≠ .agg z) → a ≠ .nilIface → (eqGuard op t ox oy a c).run P w = .ok () w := fun {a c} h1 h2 => guardA op t ox oy h1 h2
  have hG' : ∀ {a c : Value}, (∀ z, c ≠ .agg z) → c ≠ .nilIface → (eqGuard op t ox oy a c).run P w = .ok () w := fun {a c} h1 h2 => guardB op t ox oy h1 h2
  split at h
  · rename_i ti hti
    have hu := hE.run_und hti
    split at h
    · rename_i a b' hd
      simp only [VR] at hx hy; cases hx; cases hy; simp at h; subst h
      exact ⟨hG (by simp) (by simp), by unfold Op.equal; rw [hn]; unfold Op.equalIn; simp [hu, hd], rfl⟩
    · rename_i e hd
      simp only [VR] at hx hy; cases hx; cases hy; simp at h; subst h
      exact ⟨hG (by simp) (by simp), by unfold Op.equal; rw [hn]; unfold Op.equalIn; simp [hu, hd], rfl⟩
    · rename_i e o hw i j hd
      cases hl : liveRow s o hw with
      | false => simp [hl] at h
      | true =>
        simp [hl] at h; subst h
        obtain ⟨r, hr, hv, rfl⟩ := ptr_live hI hy hl
        simp only [VR] at hx; cases hx
        exact ⟨hG (by simp) (by simp), by unfold Op.equal; rw [hn]; unfold Op.equalIn; simp [hu, hd], rfl⟩
    · rename_i e o hw i j hd
      cases hl : liveRow s o hw with
      | false => simp [hl] at h
      | true =>
        simp [hl] at h; subst h
        obtain ⟨r, hr, hv, rfl⟩ := ptr_live hI hx hl
        simp only [VR] at hy; cases hy
        exact ⟨hG (by simp) (by simp), by unfold Op.equal; rw [hn]; unfold Op.equalIn; simp [hu, hd], rfl⟩
    · rename_i e cs hd
      simp only [VR] at hx hy; cases hx; obtain ⟨b0, off, rfl, _⟩ := hy; simp at h; subst h
      exact ⟨hG (by simp) (by simp), by unfold Op.equal; rw [hn]; unfold Op.equalIn; simp [hu, hd], rfl⟩
    · rename_i e cs hd
      simp only [VR] at hx hy; cases hy; obtain ⟨b0, off, rfl, _⟩ := hx; simp at h; subst h
      exact ⟨hG (by simp) (by simp), by unfold Op.equal; rw [hn]; unfold Op.equalIn; simp [hu, hd], rfl⟩
    · rename_i e o hw i j o' hw' i' j' hd
      split at h
      · rename_i ei hei
        cases hc : (Nat.beq o o' && Nat.beq hw hw' && Nat.beq i i' && Nat.beq j j' && liveRow s o hw && Nat.ble 1 ei.size) with
        | false => simp only [hc, cond_false] at h; cases h
        | true =>
          simp only [hc, cond_true, Option.some.injEq] at h
          subst h
          simp only [Bool.and_eq_true] at hc
          obtain ⟨⟨⟨⟨⟨h1, h2⟩, h3⟩, h4⟩, h5⟩, h6⟩ := hc
          obtain rfl := nbeq_iff.1 h1
          obtain rfl := nbeq_iff.1 h2
          obtain rfl := nbeq_iff.1 h3
          obtain rfl := nbeq_iff.1 h4
          obtain ⟨r, hr, hv, rfl⟩ := ptr_live hI hx h5
          obtain ⟨r', hr', hv', rfl⟩ := ptr_live hI hy h5
          rw [hr] at hr'; cases hr'
          have h6 := ble_iff.1 h6
          exact ⟨hG (by simp) (by simp), by unfold Op.equal; rw [hn]; unfold Op.equalIn; simp [hu, hd, hE.run_size hei, sameAddr], rfl⟩
      · simp at h
    · rename_i p q v hd
      simp only [VR] at hx hy; cases hx; cases hy; simp at h; subst h
      exact ⟨hG (by simp) (by simp), by unfold Op.equal; rw [hn]; unfold Op.equalIn; simp [hu, hd], rfl⟩
    · rename_i p q v f caps hd
      simp only [VR] at hx hy; cases hx; obtain ⟨c, rfl, _⟩ := hy; simp at h; subst h
      exact ⟨hG (by simp) (by simp), by unfold Op.equal; rw [hn]; unfold Op.equalIn; simp [hu, hd], rfl⟩
    · rename_i p q v f caps hd
      simp only [VR] at hx hy; cases hy; obtain ⟨c, rfl, _⟩ := hx; simp at h; subst h
      exact ⟨hG (by simp) (by simp), by unfold Op.equal; rw [hn]; unfold Op.equalIn; simp [hu, hd], rfl⟩
    · rename_i ms hd
      cases hc : (isConst ox || isConst oy) with
      | false => simp [hc] at h
      | true =>
        simp [hc] at h; subst h
        simp only [VR] at hx hy; cases hx; cases hy
        refine ⟨?_, by unfold Op.equal; rw [hn]; unfold Op.equalIn; simp [hu, hd], rfl⟩
        rcases bor_iff.1 hc with h1 | h1
        · cases ox <;> simp [isConst] at h1
          cases op <;> rfl
        · cases oy <;> simp [isConst] at h1
          cases op <;> first | rfl | (cases ox <;> rfl)
    · rename_i ms u cs hd
      simp only [VR] at hx hy; cases hx; obtain ⟨c, rfl, _⟩ := hy; simp at h; subst h
      exact ⟨hG' (by simp) (by simp), by unfold Op.equal; rw [hn]; unfold Op.equalIn; simp [hu, hd], rfl⟩
    · rename_i ms u cs hd
      simp only [VR] at hx hy; cases hy; obtain ⟨c, rfl, _⟩ := hx; simp at h; subst h
      exact ⟨hG (by simp) (by simp), by unfold Op.equal; rw [hn]; unfold Op.equalIn; simp [hu, hd], rfl⟩
    · rename_i e c0 r0 l0 hd
      simp only [VR] at hx hy; subst hy; simp at h; subst h
      cases hx with
      | sl _ _ A c b0 off esz val hlen hS hv hA hc0 hcut =>
        rw [hA (by simp)]
        exact ⟨hG (by simp) (by simp), by unfold Op.equal; rw [hn]; unfold Op.equalIn; simp [hu, hd], rfl⟩
    · rename_i fs a b' hd
      cases hc : E.eqc t a with
      | false => simp [hc] at h
      | true =>
        simp only [hc, cond_true] at h
        simp only [VR] at hx hy; obtain ⟨ca, rfl, ha⟩ := hx; obtain ⟨cb, rfl, hb⟩ := hy
        exact ⟨(hE.eqc t a hc b' b h g ca cb ha hb w ox oy op).1, (hE.eqc t a hc b' b h g ca cb ha hb w ox oy op).2, rfl⟩
    · rename_i n e a b' hd
      cases hc : E.eqc t a with
      | false => simp [hc] at h
      | true =>
        simp only [hc, cond_true] at h
        simp only [VR] at hx hy; obtain ⟨ca, rfl, ha⟩ := hx; obtain ⟨cb, rfl, hb⟩ := hy
        exact ⟨(hE.eqc t a hc b' b h g ca cb ha hb w ox oy op).1, (hE.eqc t a hc b' b h g ca cb ha hb w ox oy op).2, rfl⟩
    · simp at h
  · simp at h
end Go.Ev
/- Operators; literals; conversions. -/
namespace Go.Ev
theorem binOp_eqlV (op : BinOp) (hop : op = .eql ∨ op = .neq) (t : TypeId) {P : Program} {w : World} {cx cy : Value} {b : Bool} (hn : notNum cx = true) (h : (Op.equal t cx cy).run P w = .ok b w) :
    (Go.binOp op t cx cy).run P w = .ok (.bool (if op = .eql then b else !b)) w := by
  rcases hop with rfl | rfl <;> cases cx <;> simp [notNum] at hn <;> simp [Go.binOp, h]
theorem binOp_ok {P : Program} {E : Env} (hE : EnvOK P E) {g : G} {s : St} {w : World} (hI : Inv g s w) {op : BinOp} {t : TypeId} {x y v : V} {cx cy : Value} {ox oy : Operand} (hx : VR g x cx) (hy : VR g y cy)
    (h : binOp E op t (isConst ox || isConst oy) x y s = some v) : ∃ cv, (do eqGuard op t ox oy cx cy; Go.binOp op t cx cy : Sem Value).run P w = .ok cv w ∧ VR g v cv := by
  unfold binOp at h
  split at h
  · rename_i k a k' b
    simp only [VR] at hx hy; cases hx; cases hy
    have hg : (eqGuard op t ox oy (.int k a) (.int k' b)).run P w = .ok () w := guardA op t ox oy (by simp) (by simp)
    have done : ∀ d, (∃ cv, (Go.binOp op t (.int k a) (.int k' b)).run P w = .ok cv w ∧ DR g.S d cv) → v = .d d → ∃ cv, (do eqGuard op t ox oy (.int k a) (.int k' b); Go.binOp op t (.int k a) (.int k' b) : Sem Value).run P w = .ok cv w ∧ VR g v cv := by
      rintro d ⟨cv, h1, h2⟩ rfl
      exact ⟨cv, by simp [hg, h1], by simp only [VR]; exact h2⟩
    split at h
    · simp only [Option.map_eq_some_iff] at h
      obtain ⟨d, hd, rfl⟩ := h
      exact done d (shiftInt_ok (.inl rfl) hd) rfl
    · simp only [Option.map_eq_some_iff] at h
      obtain ⟨d, hd, rfl⟩ := h
      exact done d (shiftInt_ok (.inr rfl) hd) rfl
    · split at h
      · rename_i hk; subst hk
        simp only [Option.map_eq_some_iff] at h
        obtain ⟨d, hd, rfl⟩ := h
        exact done d (binInt_ok hd) rfl
      · cases h
  · rename_i a b
    simp only [VR] at hx hy; cases hx; cases hy
    have hg : (eqGuard op t ox oy (.string ⟨⟨a⟩⟩) (.string ⟨⟨b⟩⟩)).run P w = .ok () w := guardA op t ox oy (by simp) (by simp)
    simp only [Option.map_eq_some_iff] at h
    obtain ⟨d, hd, rfl⟩ := h
    obtain ⟨cv, h1, h2⟩ := binStr_ok (P := P) (w := w) (t := t) (S := g.S) hd
    exact ⟨cv, by simp [hg, h1], by simp only [VR]; exact h2⟩
  · split at h
    · simp only [Option.map_eq_some_iff] at h
      obtain ⟨b, hb, rfl⟩ := h
      obtain ⟨h1, h2, h3⟩ := eqV_ok hE hI hx hy hb .eql
      exact ⟨_, by simp [h1, binOp_eqlV .eql (.inl rfl) t h3 h2]; rfl, by simp only [VR]; exact .bool _⟩
    · simp only [Option.map_eq_some_iff] at h
      obtain ⟨b, hb, rfl⟩ := h
      obtain ⟨h1, h2, h3⟩ := eqV_ok hE hI hx hy hb .neq
      exact ⟨_, by simp [h1, binOp_eqlV .neq (.inr rfl) t h3 h2]; rfl, by simp only [VR]; exact .bool _⟩
    · cases h
theorem unOp_ok {P : Program} {g : G} {w : World} {op : UnOp} {x v : V} {cx : Value} (hx : VR g x cx) (h : unOp op x = some v) : ∃ cv, (Op.unary op cx).run P w = .ok cv w ∧ VR g v cv := by
  unfold unOp at h
  split at h
  · simp only [VR] at hx; cases hx; simp at h; subst h
    exact ⟨_, by simp [Op.unary]; rfl, by simp only [VR]; exact .bool _⟩
  · simp only [VR] at hx; cases hx; simp at h; subst h
    exact ⟨_, by simp [Op.unary, Op.intArith]; rfl, by simp only [VR]; exact .int _ _⟩
  · rename_i k n
    simp only [VR] at hx; cases hx
    simp only [Option.map_eq_some_iff, binInt, Option.some.injEq] at h
    obtain ⟨d, rfl, rfl⟩ := h
    exact ⟨_, by simp [Op.unary, Op.intBits]; rfl, by simp only [VR]; exact .int _ _⟩
  · cases h

/-! what a slice holds -/
theorem DR.rows {g : G} {s : St} {w : World} (hI : Inv g s w) {c : Bool} {els : List (List D)} {A : Option Addr} {n cap : Nat} (h : DR g.S (.sl c els) (.slice A n cap)) :
    n = els.length ∧ (els = [] ∨ ∃ b off esz, A = some ⟨b, off, none⟩ ∧ (∀ r, r ∈ els.map ds → r.length = esz) ∧ ∀ (i : Nat) (r : List V), (els.map ds)[i]? = some r → CellsAt g w b (off + i * esz) r) := by
  have hn : n = els.length := by cases h; rfl
  refine ⟨hn, ?_⟩
  by_cases hne : els = []
  · exact .inl hne
  · obtain ⟨A', cap', heq, _, _, _, h2⟩ := h.elem
    cases heq
    obtain ⟨b, off, esz, rfl, h3⟩ := h2 hne
    refine .inr ⟨b, off, esz, rfl, fun r hr => ?_, fun i r hr => ?_⟩
    · obtain ⟨r0, h4, rfl⟩ := List.mem_map.1 hr
      obtain ⟨i, hi⟩ := List.mem_iff_getElem?.1 h4
      simp [ds, (h3 i r0 hi).1]
    · simp only [List.getElem?_map, Option.map_eq_some_iff] at hr
      obtain ⟨r0, h4, rfl⟩ := hr
      exact (h3 i r0 h4).2.cellsAt hI
theorem allOne_ds (l : List D) : allOne (ds l) = true := by
  induction l with
  | nil => rfl
  | cons x xs ih => simp only [ds, List.map_cons, allOne, Bool.and_eq_true]; exact ⟨rfl, ih⟩
theorem allOne_of {xs : List V} (h : ∀ x ∈ xs, x.one = true) : allOne xs = true := by
  induction xs with
  | nil => rfl
  | cons x xs ih => simp only [allOne, Bool.and_eq_true]; exact ⟨h x (by simp), ih (fun y hy => h y (by simp [hy]))⟩
end Go.Ev
/- Slices' elements; append. -/
namespace Go.Ev
theorem RowsAt.one {g : G} {esz : Nat} {els : List (List V)} {c : Array Value} (h : RowsAt g esz els c) : ∀ r, r ∈ els → allOne r = true := fun r hr => by
  obtain ⟨i, hi⟩ := List.mem_iff_getElem?.1 hr
  refine allOne_of (fun x hx => ?_)
  obtain ⟨j, hj⟩ := List.mem_iff_getElem?.1 hx
  obtain ⟨v, _, h2, _⟩ := h i r hi j x hj
  exact h2
/-- What is known of a row that lives. -/
theorem row_live {g : G} {s : St} {w : World} (hI : Inv g s w) {o : Nat} {els : List (List V)} {opn : Tg} (h1 : o < g.N) (h2 : ¬ g.pend o) (hg : hget s.heap o = some (.row els opn)) : ∃ r, g.O o = some r ∧ ObjR g r w (.row els opn) := by
  rcases hI.live o _ (by rw [← hI.N]; exact h1) hg with h3 | h3
  · exact absurd h3 h2
  · exact h3
theorem ObjR.cellsAt {g : G} {r : ORec} {w : World} {els : List (List V)} {opn : Tg} (h : ObjR g r w (.row els opn)) {i : Nat} {row : List V} (hi : els[i]? = some row) : CellsAt g w r.b (i * r.esz) row := by
  obtain ⟨h3, h4, h5, h6, c, T, fz, h7, h8, h9, h10, h11, h12⟩ := h
  intro j x hx
  obtain ⟨v, h13, _, h15⟩ := h11 i row hi j x hx
  exact ⟨v, by rw [cell_blk h7]; exact h13, h15⟩
theorem ObjR.ones {g : G} {r : ORec} {w : World} {els : List (List V)} {opn : Tg} (h : ObjR g r w (.row els opn)) : ∀ row, row ∈ els → allOne row = true := by
  obtain ⟨h3, h4, h5, h6, c, T, fz, h7, h8, h9, h10, h11, h12⟩ := h
  exact h11.one
/-- Where a slice's elements lie. -/
def ElemsAt (g : G) (w : World) (A : Option Addr) (els : List (List V)) : Prop :=
  els = [] ∨ ∃ b off esz, A = some ⟨b, off, none⟩ ∧ (∀ r, r ∈ els → r.length = esz) ∧ (∀ (i : Nat) (r : List V), els[i]? = some r → CellsAt g w b (off + i * esz) r) ∧ (∀ r, r ∈ els → allOne r = true)
theorem elsOf_ok {g : G} {s : St} {w : World} (hI : Inv g s w) {x : V} {cx : Value} {els : List (List V)} (hx : VR g x cx) (h : elsOf s x = some els) : ∃ A cap, cx = .slice A els.length cap ∧ ElemsAt g w A els := by
  have stab : ∀ l : List (List D), DR g.S (.sl false l) cx → els = l.map ds → ∃ A cap, cx = .slice A els.length cap ∧ ElemsAt g w A els := by
    intro l hd he
    obtain ⟨A, cap, rfl, _, _, _, _⟩ := hd.elem
    obtain ⟨_, h2⟩ := hd.rows hI
    refine ⟨A, cap, by rw [he]; simp, ?_⟩
    rcases h2 with rfl | ⟨b, off, esz, rfl, h3, h4⟩
    · exact .inl (by simp [he])
    · rw [he]
      exact .inr ⟨b, off, esz, rfl, h3, h4, fun r hr => by obtain ⟨r0, _, rfl⟩ := List.mem_map.1 hr; exact allOne_ds r0⟩
  unfold elsOf at h
  split at h
  · simp at h; exact stab _ (els_of_slice hx (.inl ⟨_, rfl⟩)) h.symm
  · simp at h; exact stab _ (els_of_slice hx (.inr ⟨_, rfl⟩)) h.symm
  · rename_i o i n hw cut
    split at h
    · rename_i row opn hg
      cases hc : (Nat.beq row.length hw && Nat.ble (i + n) hw) with
      | false => simp only [hc, cond_false] at h; cases h
      | true =>
        simp only [hc, cond_true, Option.some.injEq] at h
        obtain ⟨hc1, hc2⟩ := band_iff.1 hc
        have hc1 := nbeq_iff.1 hc1
        have hc2 := ble_iff.1 hc2
        simp only [VR] at hx
        obtain ⟨g1, g2, _, g3⟩ := hx
        obtain ⟨r, hr, hobj⟩ := row_live hI g1 g2 hg
        obtain ⟨A, cap, rfl, hA, hcap, _, _⟩ := (g3 r hr).2 (by rw [hobj.1]; exact hc1.symm)
        have hl : els.length = n := by rw [← h]; simp; omega
        refine ⟨A, cap, by rw [hl], ?_⟩
        by_cases hne : els = []
        · exact .inl hne
        · have hpos : 0 < els.length := List.length_pos_iff.2 hne
          have hget : ∀ (k : Nat) (row' : List V), els[k]? = some row' → row[i + k]? = some row' := fun k row' hk => by
            rw [← h, List.getElem?_take] at hk
            split at hk
            · rwa [List.getElem?_drop] at hk
            · cases hk
          have hmem : ∀ r', r' ∈ els → r' ∈ row := fun r' hr' => by
            rw [← h] at hr'; exact List.mem_of_mem_drop (List.mem_of_mem_take hr')
          refine .inr ⟨r.b, i * r.esz, r.esz, hA (by omega), fun r' hr' => hobj.2.2.1 r' (hmem r' hr'), fun k row' hk => ?_, fun r' hr' => hobj.ones r' (hmem r' hr')⟩
          have := hobj.cellsAt (hget k row' hk)
          rwa [Nat.add_mul] at this
    · simp at h
  · rename_i o hw i j sz n cap
    cases hsz : Nat.beq sz 1 with
    | false => simp [hsz] at h
    | true =>
      simp only [hsz, cond_true] at h
      split at h
      · rename_i cells hrow
        cases hle : Nat.ble (j + n) cells.length with
        | false => simp [hle] at h
        | true =>
          simp only [hle, cond_true, Option.some.injEq] at h
          have hle := ble_iff.1 hle
          simp only [VR] at hx
          obtain ⟨g1, g2, _, g3⟩ := hx
          obtain ⟨r, row, opn, hr, hg, hobj, hv, hi, _, hcells⟩ := rowAt_ok hI g1 g2 hrow
          obtain ⟨A, rfl, hcap, hA⟩ := (g3 r hr).2 hv
          have hl : els.length = n := by rw [← h]; simp; omega
          refine ⟨A, cap, by rw [hl], ?_⟩
          by_cases hne : els = []
          · exact .inl hne
          · have hpos : 0 < els.length := List.length_pos_iff.2 hne
            refine .inr ⟨r.b, i * r.esz + j, 1, hA (by omega), fun r' hr' => ?_, fun k row' hk => ?_, fun r' hr' => ?_⟩
            · rw [← h] at hr'; obtain ⟨c, _, rfl⟩ := List.mem_map.1 hr'; rfl
            · rw [← h] at hk
              simp only [List.getElem?_map, Option.map_eq_some_iff] at hk
              obtain ⟨c, hk, rfl⟩ := hk
              rw [List.getElem?_take] at hk
              split at hk
              · rw [List.getElem?_drop] at hk
                intro m x hm
                cases m with
                | succ m => simp at hm
                | zero =>
                  simp at hm; subst hm
                  obtain ⟨v, h1, h2⟩ := hcells (j + k) c hk
                  exact ⟨v, by rw [← h1]; congr 2; omega, h2⟩
              · cases hk
            · rw [← h] at hr'
              obtain ⟨c, hc, rfl⟩ := List.mem_map.1 hr'
              have hc' := List.mem_of_mem_drop (List.mem_of_mem_take hc)
              have := allOne_mem (hobj.ones _ (List.mem_of_getElem? hi)) c hc'
              simp [allOne, this]
      · simp at h
  · simp at h
theorem ElemsAt.flat {g : G} {w : World} {b : Nat} : ∀ {els : List (List V)} {off esz : Nat}, (∀ r, r ∈ els → r.length = esz) → (∀ (i : Nat) (r : List V), els[i]? = some r → CellsAt g w b (off + i * esz) r) → CellsAt g w b off els.flatten
  | [], _, _, _, _ => by intro j x hx; simp at hx
  | r :: els, off, esz, hl, hc => by
    have h0 := hc 0 r rfl
    simp only [Nat.zero_mul, Nat.add_zero] at h0
    have hr : r.length = esz := hl r (by simp)
    have ih := ElemsAt.flat (els := els) (off := off + esz) (esz := esz) (fun r' hr' => hl r' (by simp [hr'])) (fun i r' hi => by
      have := hc (i + 1) r' (by simpa using hi)
      rwa [Nat.succ_mul, Nat.add_comm (i * esz) esz, ← Nat.add_assoc] at this)
    intro j x hx
    rw [List.flatten_cons] at hx
    by_cases hj : j < r.length
    · rw [List.getElem?_append_left hj] at hx
      exact h0 j x hx
    · rw [List.getElem?_append_right (by omega)] at hx
      obtain ⟨v, h1, h2⟩ := ih (j - r.length) x hx
      exact ⟨v, by rw [← h1]; congr 2; omega, h2⟩
theorem flatten_length {els : List (List V)} {esz : Nat} (h : ∀ r, r ∈ els → r.length = esz) : els.flatten.length = els.length * esz := by
  induction els with
  | nil => simp
  | cons r els ih => simp [ih (fun r' hr' => h r' (by simp [hr'])), h r (by simp), Nat.succ_mul, Nat.add_comm]
theorem allOne_append {a b : List V} (h1 : allOne a = true) (h2 : allOne b = true) : allOne (a ++ b) = true := by
  refine allOne_of (fun x hx => ?_)
  rcases List.mem_append.1 hx with h | h
  · exact allOne_mem h1 x h
  · exact allOne_mem h2 x h
theorem allOne_flatten {els : List (List V)} (h : ∀ r, r ∈ els → allOne r = true) : allOne els.flatten = true := by
  refine allOne_of (fun x hx => ?_)
  obtain ⟨r, hr, hx⟩ := List.mem_flatten.1 hx
  exact allOne_mem (h r hr) x hx
/-- The cells of a slice's elements, as append reads them. -/
theorem firstCells_ok {P : Program} {g : G} {s : St} {w : World} (hI : Inv g s w) {x : V} {cx : Value} {els : List (List V)} {size : Nat} (hx : VR g x cx) (h : elsOrBytes s x = some els) (hs : firstLen size els = true) :
    ∃ cvs : List Value, (Builtin.firstCells size els.length cx).run P w = .ok ⟨cvs⟩ w ∧ VRL g els.flatten cvs ∧ allOne els.flatten = true ∧ (∀ r, r ∈ els → r.length = size) ∧ (Builtin.lenOf cx).run P w = .ok els.length w ∧ cvs.length = els.length * size := by
  unfold elsOrBytes at h
  split at h
  · rename_i l
    simp at h
    simp only [VR] at hx; cases hx
    have hsz : ∀ r, r ∈ els → r.length = 1 := fun r hr => by
      rw [← h] at hr
      simp only [ofBytes, List.map_map, List.mem_map] at hr
      obtain ⟨b, _, rfl⟩ := hr
      rfl
    have hl : els.length = l.length := by rw [← h]; simp [ofBytes]
    have hflat : els.flatten = l.map fun b => V.d (.int .u8 b.toNat) := by
      rw [← h]
      simp only [ofBytes, List.map_map]
      clear h hs hl hsz
      induction l with
      | nil => rfl
      | cons b l ih => simp [ih, ds]
    refine ⟨l.map fun b => .int .u8 b.toNat, ?_, ?_, ?_, ?_, ?_, ?_⟩
    · have : (⟨⟨l⟩⟩ : ByteArray).extract 0 els.length = ⟨⟨l⟩⟩ := by rw [extract_list, hl]; simp
      simp [Builtin.firstCells, this]
    · rw [hflat]
      refine VRL.of_get (by simp) (fun i y v hy hv => ?_)
      simp only [List.getElem?_map, Option.map_eq_some_iff] at hy hv
      obtain ⟨b, h1, rfl⟩ := hy
      obtain ⟨b', h2, rfl⟩ := hv
      rw [h1] at h2; cases h2
      simp only [VR]; exact .int _ _
    · rw [hflat]
      refine allOne_of (fun y hy => ?_)
      obtain ⟨b, _, rfl⟩ := List.mem_map.1 hy
      rfl
    · intro r hr
      have h1 := hsz r hr
      cases els with
      | nil => simp at hr
      | cons e es => rw [h1, ← hsz e (by simp)]; exact nbeq_iff.1 hs
    · rw [hl]; rfl
    · have hsize : els = [] ∨ size = 1 := by
        cases els with
        | nil => exact .inl rfl
        | cons e es => exact .inr (by rw [← nbeq_iff.1 hs, hsz e (by simp)])
      rcases hsize with rfl | rfl
      · simp at hl; simp [← hl]
      · simp [hl]
  · obtain ⟨A, cap, rfl, hE⟩ := elsOf_ok hI hx h
    rcases hE with rfl | ⟨b, off, esz, rfl, h1, h2, h3⟩
    · refine ⟨[], ?_, by simp [VRL], rfl, by simp, rfl, by simp⟩
      cases A with
      | none => simp [Builtin.firstCells]
      | some a => simp [Builtin.firstCells, loadCells, loadCellsFrom]
    · have hsz : els = [] ∨ esz = size := by
        cases els with
        | nil => exact .inl rfl
        | cons e es => exact .inr (by rw [← h1 e (by simp)]; exact nbeq_iff.1 hs)
      rcases hsz with rfl | rfl
      · refine ⟨[], ?_, by simp [VRL], rfl, by simp, rfl, by simp⟩
        simp [Builtin.firstCells, loadCells, loadCellsFrom]
      · have hfl := flatten_length h1
        obtain ⟨cvs, h4, h5⟩ := (ElemsAt.flat h1 h2).list
        have hlen : cvs.length = els.length * esz := by rw [← h4.length, hfl]
        refine ⟨cvs, ?_, h4, allOne_flatten h3, h1, rfl, hlen⟩
        have := run_loadCells_list (P := P) w ⟨b, off, none⟩ cvs (fun j v hj => by rw [addr_add]; exact h5 j v hj)
        rw [hlen] at this
        simp [Builtin.firstCells, this]
end Go.Ev
/- append. -/
namespace Go.Ev
theorem toD_ok {g : G} {x : V} {v : Value} {d : D} (hx : VR g x v) (h : V.toD x = some d) : DR g.S d v := by
  unfold V.toD at h
  split at h
  · simp at h; subst h; simp only [VR] at hx; exact hx
  · simp at h; subst h; simp only [VR] at hx; exact hx.2.2.2.1
  · simp at h; subst h; simp only [VR] at hx; subst hx; exact DR.nil
  · cases h
theorem toDs_get : ∀ {xs : List V} {l : List D}, toDs xs = some l → xs.length = l.length ∧ ∀ (i : Nat) (d : D), l[i]? = some d → ∃ x, xs[i]? = some x ∧ V.toD x = some d
  | [], l, h => by simp [toDs] at h; subst h; exact ⟨rfl, by simp⟩
  | x :: xs, l, h => by
    simp only [toDs] at h
    split at h
    · rename_i d hd
      split at h
      · rename_i l' hl
        simp at h; subst h
        obtain ⟨h1, h2⟩ := toDs_get hl
        refine ⟨by simp [h1], fun i e he => ?_⟩
        cases i with
        | zero => simp at he; subst he; exact ⟨x, rfl, hd⟩
        | succ i => simpa using h2 i e (by simpa using he)
      · cases h
    · cases h
theorem toDss_get : ∀ {xs : List (List V)} {l : List (List D)}, toDss xs = some l → xs.length = l.length ∧ ∀ (i : Nat) (d : List D), l[i]? = some d → ∃ x, xs[i]? = some x ∧ toDs x = some d
  | [], l, h => by simp [toDss] at h; subst h; exact ⟨rfl, by simp⟩
  | x :: xs, l, h => by
    simp only [toDss] at h
    split at h
    · rename_i d hd
      split at h
      · rename_i l' hl
        simp at h; subst h
        obtain ⟨h1, h2⟩ := toDss_get hl
        refine ⟨by simp [h1], fun i e he => ?_⟩
        cases i with
        | zero => simp at he; subst he; exact ⟨x, rfl, hd⟩
        | succ i => simpa using h2 i e (by simpa using he)
      · cases h
    · cases h
theorem toDss_append : ∀ {xs ys : List (List V)} {a b : List (List D)}, toDss xs = some a → toDss ys = some b → toDss (xs ++ ys) = some (a ++ b)
  | [], ys, a, b, h, k => by simp [toDss] at h; subst h; exact k
  | x :: xs, ys, a, b, h, k => by
    simp only [toDss] at h
    split at h
    · rename_i d hd
      split at h
      · rename_i l' hl
        simp at h; subst h
        simp only [List.cons_append, toDss, hd, toDss_append hl k]
      · cases h
    · cases h
theorem toDs_ds : ∀ l : List D, toDs (ds l) = some l
  | [] => rfl
  | d :: l => by simp only [ds, List.map_cons, toDs, V.toD]; rw [show l.map V.d = ds l from rfl, toDs_ds l]
theorem toDss_ds : ∀ l : List (List D), toDss (l.map ds) = some l
  | [] => rfl
  | d :: l => by simp only [List.map_cons, toDss, toDs_ds, toDss_ds l]
theorem flatten_get {esz : Nat} : ∀ {rows : List (List V)} {i j : Nat} {xs : List V} {y : V}, (∀ r, r ∈ rows → r.length = esz) → rows[i]? = some xs → xs[j]? = some y → rows.flatten[i * esz + j]? = some y
  | [], i, j, xs, y, _, h3, _ => by simp at h3
  | r0 :: rows, i, j, xs, y, hl, h3, h7 => by
    have hr0 : r0.length = esz := hl r0 (by simp)
    rw [List.flatten_cons]
    cases i with
    | zero =>
      simp at h3; subst h3
      rw [List.getElem?_append_left (by have := (List.getElem?_eq_some_iff.1 h7).1; omega)]
      simpa using h7
    | succ i =>
      rw [List.getElem?_append_right (by rw [Nat.succ_mul]; omega), hr0, show (i + 1) * esz + j - esz = i * esz + j by rw [Nat.succ_mul]; omega]
      exact flatten_get (fun r' hr' => hl r' (by simp [hr'])) (by simpa using h3) h7
/-- Rows of a block, as stable data. -/
theorem rows_DR {g : G} {esz : Nat} {rows : List (List V)} {l : List (List D)} {c : List Value} (h : toDss rows = some l) (hl : ∀ r, r ∈ rows → r.length = esz) (hc : VRL g rows.flatten c) :
    ∀ (i : Nat) (r : List D), l[i]? = some r → r.length = esz ∧ ∀ (j : Nat) (x : D), r[j]? = some x → ∃ v, c[i * esz + j]? = some v ∧ DR g.S x v := by
  intro i r hr
  obtain ⟨h1, h2⟩ := toDss_get h
  obtain ⟨xs, h3, h4⟩ := h2 i r hr
  obtain ⟨h5, h6⟩ := toDs_get h4
  have hxl : xs.length = esz := hl xs (List.mem_of_getElem? h3)
  refine ⟨by rw [← h5, hxl], fun j x hx => ?_⟩
  obtain ⟨y, h7, h8⟩ := h6 j x hx
  have hidx : rows.flatten[i * esz + j]? = some y := flatten_get hl h3 h7
  obtain ⟨v, h9, h10⟩ := hc.get hidx
  exact ⟨v, h9, toD_ok h10 h8⟩
theorem DR.of_block {S : Nat → Nat → Option Value} {b esz cap : Nat} {c : List Value} {l : List (List D)} {cut : Bool} (hrow : ∀ (i : Nat) (r : List D), l[i]? = some r → r.length = esz ∧ ∀ (j : Nat) (x : D), r[j]? = some x → ∃ v, c[i * esz + j]? = some v ∧ DR S x v)
    (hS : ∀ k, k < l.length * esz → S b k = c[k]?) (hc : l.length ≤ cap) (hcut : cut = true → cap = l.length) : DR S (.sl cut l) (.slice (some ⟨b, 0, none⟩) l.length cap) := by
  have hk : ∀ (i : Nat) (r : List D), l[i]? = some r → ∀ (j : Nat) (x : D), r[j]? = some x → i * esz + j < l.length * esz := fun i r hr j x hx => by
    have h1 : i < l.length := (List.getElem?_eq_some_iff.1 hr).1
    have h2 : j < esz := by rw [← (hrow i r hr).1]; exact (List.getElem?_eq_some_iff.1 hx).1
    have := row_lt (j := 0) h1 h2
    omega
  refine .sl cut l _ cap b 0 esz (fun i j => c.getD (i * esz + j) undef) (fun r hr => ?_) (fun i r hr j x hx => ?_) (fun i r hr j x hx => ?_) (fun _ => rfl) hc hcut
  · obtain ⟨i, hi⟩ := List.mem_iff_getElem?.1 hr
    exact (hrow i r hi).1
  · obtain ⟨v, h1, _⟩ := (hrow i r hr).2 j x hx
    rw [Nat.zero_add, hS _ (hk i r hr j x hx), h1, List.getD_eq_getElem?_getD, h1]; rfl
  · obtain ⟨v, h1, h2⟩ := (hrow i r hr).2 j x hx
    rw [List.getD_eq_getElem?_getD, h1]; exact h2

/-- A new object in a new block, whose first n cells nobody will write. -/
def G.pushS (g : G) (r : ORec) (n : Nat) (c : Array Value) : G :=
  { g with S := fun b i => if b = r.b then (if i < n then c[i]? else none) else g.S b i, O := fun o => if o = g.N then some r else g.O o, N := g.N + 1 }
theorem Ext.pushS {g : G} {r : ORec} {n W : Nat} {c : Array Value} (hb : W ≤ r.b) (hn : ∀ i, g.S r.b i = none) : Ext W g (g.pushS r n c) where
  S := fun b' i v h => by
    simp only [G.pushS]
    split
    · rename_i hb'; subst hb'; rw [hn] at h; cases h
    · exact h
  new := fun b' i v h => by
    simp only [G.pushS] at h
    split at h
    · rename_i hb'; subst hb'; exact .inr (.inl hb)
    · exact .inl h
  O := fun o ho r' h => by
    simp only [G.pushS] at h
    rw [if_neg (by omega)] at h
    exact ⟨r', h, .inl rfl⟩
  blk := fun o r' h => by
    simp only [G.pushS] at h
    split at h
    · cases h; exact .inr hb
    · exact .inl ⟨o, r', h, rfl⟩
  N := by simp [G.pushS]
  pend := rfl
  gl := rfl
theorem Inv.pushS {g : G} {s : St} {w w' : World} {c : Array Value} {T : TypeId} {fz : Nat × Nat} {r : ORec} {obj : Obj} {n : Nat} (hI : Inv g s w) (hq : Quiet w w') (hh : w'.heap = w.heap.push (.cells c T fz)) (hb : r.b = w.heap.size)
    (hobj : ObjR (g.pushS r n c) r w' obj) : Step g s w (g.pushS r n c) (s.push obj) w' := by
  have e : Ext w.heap.size g (g.pushS r n c) := .pushS (Nat.le_of_eq hb.symm) (hI.S_new (Nat.le_of_eq hb.symm))
  refine ⟨⟨?_, ?_, ?_, ?_, ?_, ?_, ?_, ?_⟩, e, ⟨hq.os, hq.tape, hq.output, by rw [hh]; simp, fun k hk _ => Inv.heap_kept hh hk⟩, Keep.push _ _⟩
  · simp [G.pushS, St.push, hI.N]
  · intro b i v hv
    simp only [G.pushS] at hv
    split at hv
    · rename_i hbb; subst hbb
      split at hv
      · rw [hb, cell_blk (c := c) (T := T) (fz := fz) (by rw [hh]; simp)]; exact hv
      · cases hv
    · have := hI.S b i v hv
      rw [cell_kept' (Inv.heap_kept hh (block_of_cell this))]; exact this
  · intro o obj' ho hg
    by_cases hn : o = s.next
    · subst hn
      rw [hget_push_new] at hg
      cases hg
      exact .inr ⟨r, by simp [G.pushS, hI.N], hobj⟩
    · rw [hget_push hn] at hg
      have ho' : o < s.next := by simp [St.push] at ho; omega
      rcases hI.live o obj' ho' hg with h | ⟨r', h1, h2⟩
      · exact .inl h
      · have := hI.lt o r' h1
        exact .inr ⟨r', by simp only [G.pushS]; rw [if_neg (by rw [hI.N]; omega)]; exact h1, h2.kept e (fun k => by simp only [G.pushS]; rw [if_neg (by omega)]) (Inv.heap_kept hh this)⟩
  · intro o r' h
    simp only [G.pushS] at h
    split at h
    · simp [St.push]; rw [← hI.N]; omega
    · have := hI.dom o r' h; simp [St.push]; omega
  · intro o1 o2 r1 r2 h1 h2 h3
    simp only [G.pushS] at h1 h2
    split at h1 <;> split at h2
    · omega
    · cases h1; have := hI.lt o2 r2 h2; omega
    · cases h2; have := hI.lt o1 r1 h1; omega
    · exact hI.inj o1 o2 r1 r2 h1 h2 h3
  · intro o r' h
    rw [hh]
    simp only [G.pushS] at h
    split at h
    · cases h; simp; omega
    · have := hI.lt o r' h; simp; omega
  · intro x cs h; exact (hI.gl x cs h).mono e.S
  · intro o h; have := hI.pd o h; simp [St.push]; omega
/-- Rows in a new block that has room behind them. -/
theorem grow_ok {g : G} {s s' : St} {w w' : World} {mu : Bool} {size cap : Nat} {rows : List (List V)} {v : V} {cvs rest : List Value} {T : TypeId} (hI : Inv g s w) (hq : Quiet w w') (hh : w'.heap = w.heap.push (.cells ⟨cvs ++ rest⟩ T (0, 0)))
    (hpos : 0 < size) (hl : ∀ r, r ∈ rows → r.length = size) (h1 : ∀ r, r ∈ rows → allOne r = true) (hc : VRL g rows.flatten cvs) (hz : (cvs ++ rest).length = cap * size) (h : grow mu T size rows s = some (v, s')) :
    ∃ g', VR g' v (.slice (some ⟨w.heap.size, 0, none⟩) rows.length cap) ∧ Step g s w g' s' w' := by
  have hfl := flatten_length hl
  have hcl : cvs.length = rows.length * size := by rw [← hc.length, hfl]
  have hcap : rows.length ≤ cap := by
    have : rows.length * size ≤ cap * size := by rw [← hz, List.length_append]; omega
    exact Nat.le_of_mul_le_mul_right this hpos
  unfold grow at h
  split at h
  · rename_i l hm
    cases mu with
    | true => simp at hm
    | false =>
      simp only [cond_false] at hm
      simp only [Option.some.injEq, Prod.mk.injEq] at h
      obtain ⟨rfl, rfl⟩ := h
      have hlen : rows.length = l.length := (toDss_get hm).1
      let r : ORec := ⟨w.heap.size, cap * size, size, l.length⟩
      have e : Ext w.heap.size g (g.pushS r (l.length * size) ⟨cvs ++ rest⟩) := .pushS (Nat.le_refl _) (hI.S_new (Nat.le_refl _))
      have hS : ∀ k, k < l.length * size → (g.pushS r (l.length * size) ⟨cvs ++ rest⟩).S w.heap.size k = cvs[k]? := fun k hk => by
        simp only [G.pushS]
        rw [if_pos (show w.heap.size = r.b from rfl), if_pos hk]
        rw [List.getElem?_toArray, List.getElem?_append_left (by rw [hcl, hlen]; exact hk)]
      have hdr : DR (g.pushS r (l.length * size) ⟨cvs ++ rest⟩).S (.sl false l) (.slice (some ⟨w.heap.size, 0, none⟩) l.length cap) :=
        .of_block (fun i r' hr' => by
          obtain ⟨a1, a2⟩ := rows_DR hm hl hc i r' hr'
          exact ⟨a1, fun j x hx => let ⟨v, b1, b2⟩ := a2 j x hx; ⟨v, b1, b2.mono e.S⟩⟩) hS (by omega) (by simp)
      refine ⟨_, ?_, hI.pushS (r := r) (n := l.length * size) hq hh rfl ?_⟩
      · rw [hlen]
        simp only [VR]
        refine ⟨by simp [G.pushS, hI.N], fun hp => by have := hI.pd _ hp; omega, rfl, hdr, fun r' hr' => ?_⟩
        rw [← hI.N] at hr'
        simp only [G.pushS, if_true] at hr'
        cases hr'
        exact ⟨Nat.le_refl _, fun _ => ⟨cap, rfl, rfl⟩⟩
      · refine ⟨rfl, hpos, rfl, fun k hk => ?_, ⟨cvs ++ rest⟩, ⟨T, rfl⟩, (0, 0), by rw [hh]; simp [r], by simpa [r] using hz, Nat.mul_le_mul_right _ (by omega), fun k _ _ => by simp, .inl rfl⟩
        have hk' : l.length * size ≤ k := hk
        simp only [G.pushS]
        rw [if_pos trivial, if_neg (by omega)]
  · simp only [Option.some.injEq, Prod.mk.injEq] at h
    obtain ⟨rfl, rfl⟩ := h
    let r : ORec := ⟨w.heap.size, cap * size, size, rows.length⟩
    have e : Ext w.heap.size g (g.push r) := .push (Nat.le_refl _)
    refine ⟨_, ?_, hI.push (r := r) hq hh rfl ?_⟩
    · simp only [VR]
      refine ⟨by simp [G.push, hI.N], fun hp => by have := hI.pd _ hp; omega, rfl, fun r' hr' => ?_⟩
      rw [← hI.N, G.push_N] at hr'
      cases hr'
      exact ⟨Nat.le_refl _, fun _ => ⟨_, cap, rfl, fun _ => by simp [r], hcap, by simp, fun _ => by simp [r]⟩⟩
    · refine ⟨rfl, hpos, hl, fun k => hI.S_new (Nat.le_refl _) k, ⟨cvs ++ rest⟩, ⟨T, rfl⟩, (0, 0), by rw [hh]; simp [r], by simpa [r] using hz, Nat.mul_le_mul_right _ hcap, by simp, ?_, fun k _ => by simp⟩
      intro i row hr j x hx
      have hjl : j < size := by rw [← hl row (List.mem_of_getElem? hr)]; exact (List.getElem?_eq_some_iff.1 hx).1
      have hil : i < rows.length := (List.getElem?_eq_some_iff.1 hr).1
      have hlt := row_lt (j := 0) hil hjl
      have hidx : rows.flatten[i * size + j]? = some x := flatten_get hl hr hx
      obtain ⟨v, h9, h10⟩ := hc.get hidx
      exact ⟨v, by rw [List.getElem?_toArray, List.getElem?_append_left (by rw [hcl]; omega)]; exact h9, allOne_mem (h1 row (List.mem_of_getElem? hr)) x (List.mem_of_getElem? hx), h10.mono e⟩
end Go.Ev
/- append, continued. -/
set_option maxHeartbeats 4000000
namespace Go.Ev
theorem ObjR.heap {g : G} {r : ORec} {w w' : World} {obj : Obj} (hb : w'.heap[r.b]? = w.heap[r.b]?) (h : ObjR g r w obj) : ObjR g r w' obj := h.kept (.refl 0 g) (fun _ => rfl) hb
theorem Inv.heap_eq {g : G} {s : St} {w w' : World} (hI : Inv g s w) (hh : w'.heap = w.heap) : Inv g s w' := by
  refine ⟨hI.N, fun b i v hv => ?_, fun o obj ho hg => ?_, hI.dom, hI.inj, fun o r h => by rw [hh]; exact hI.lt o r h, hI.gl, hI.pd⟩
  · rw [cell_kept' (w := w) (by rw [hh])]; exact hI.S b i v hv
  · rcases hI.live o obj ho hg with h | ⟨r, h1, h2⟩
    · exact .inl h
    · exact .inr ⟨r, h1, h2.heap (by rw [hh])⟩
theorem Quiet.drew (w : World) : Quiet w w.drew := ⟨rfl, rfl, rfl⟩
theorem Quiet.trans {a b c : World} (h : Quiet a b) (k : Quiet b c) : Quiet a c := ⟨k.os.trans h.os, k.tape.trans h.tape, k.output.trans h.output⟩

/-- An object's record turns. -/
theorem Inv.turn {g g' : G} {s : St} {w w' : World} {o : Nat} {r r' : ORec} {obj0 obj : Obj} (hI : Inv g s w) (hq : Quiet w w') (ho : g.O o = some r) (h0 : hget s.heap o = some obj0) (hlp : ∀ f t ps a b p z, obj0 ≠ .loop f t ps a b p z)
    (hO : ∀ o', g'.O o' = if o' = o then some r' else g.O o') (hN : g'.N = g.N) (hp : g'.pend = g.pend) (hgl : g'.gl = g.gl) (hver : r.ver < r'.ver)
    (hSm : ∀ b i v, g.S b i = some v → g'.S b i = some v) (hSn : ∀ b i, b ≠ r'.b → g'.S b i = g.S b i) (hb : r'.b = r.b ∨ w.heap.size ≤ r'.b) (hlt : r'.b < w'.heap.size) (hsz : w.heap.size ≤ w'.heap.size)
    (hk : ∀ b, b < w.heap.size → b ≠ r'.b → w'.heap[b]? = w.heap[b]?) (hcell : ∀ i v, g'.S r'.b i = some v → w'.cell? ⟨r'.b, i, none⟩ = some v) (hobj : ObjR g' r' w' obj) : Step g s w g' (s.put o obj) w' := by
  have e : Ext w.heap.size g g' := by
    refine ⟨hSm, fun b i v hv => ?_, fun o1 h1 r1 hr1 => ?_, fun o1 r1 hr1 => ?_, Nat.le_of_eq hN.symm, hp, hgl⟩
    · by_cases hbb : b = r'.b
      · subst hbb
        rcases hb with hb | hb
        · exact .inr (.inr ⟨o, r, ho, hb.symm⟩)
        · exact .inr (.inl hb)
      · rw [hSn b i hbb] at hv; exact .inl hv
    · rw [hO] at hr1
      split at hr1
      · rename_i he; subst he; cases hr1; exact ⟨r, ho, .inr hver⟩
      · exact ⟨r1, hr1, .inl rfl⟩
    · rw [hO] at hr1
      split at hr1
      · cases hr1
        rcases hb with hb | hb
        · exact .inl ⟨o, r, ho, hb.symm⟩
        · exact .inr hb
      · exact .inl ⟨o1, r1, hr1, rfl⟩
  have hne : ∀ o1 r1, o1 ≠ o → g.O o1 = some r1 → r1.b ≠ r'.b := fun o1 r1 h1 h2 h3 => by
    rcases hb with hb | hb
    · exact h1 (hI.inj o1 o r1 r h2 ho (h3.trans hb))
    · have := hI.lt o1 r1 h2; omega
  refine ⟨⟨hN.trans hI.N, ?_, ?_, ?_, ?_, ?_, ?_, ?_⟩, e, ⟨hq.os, hq.tape, hq.output, hsz, fun k hk1 hn => hk k hk1 (fun he => ?_)⟩, Keep.putAt h0 rfl (fun _ _ _ _ _ _ _ h => absurd h (hlp _ _ _ _ _ _ _)) (fun h => absurd rfl h)⟩
  · intro b i v hv
    by_cases hbb : b = r'.b
    · subst hbb; exact hcell i v hv
    · rw [hSn b i hbb] at hv
      have h1 := hI.S b i v hv
      rw [cell_kept' (hk b (block_of_cell h1) hbb)]; exact h1
  · intro o1 obj1 ho1 hg1
    by_cases hoo : o1 = o
    · subst hoo
      rw [show (s.put o1 obj).heap = hset s.heap o1 obj from rfl, hget_hset_same h0] at hg1
      cases hg1
      exact .inr ⟨r', by rw [hO, if_pos rfl], hobj⟩
    · rw [show (s.put o obj).heap = hset s.heap o obj from rfl, hget_hset_ne (Ne.symm hoo)] at hg1
      rcases hI.live o1 obj1 ho1 hg1 with h | ⟨r1, h1, h2⟩
      · exact .inl (by rw [hp]; exact h)
      · have hn := hne o1 r1 hoo h1
        exact .inr ⟨r1, by rw [hO, if_neg hoo]; exact h1, h2.kept e (fun k => hSn _ k hn) (hk _ (hI.lt o1 r1 h1) hn)⟩
  · intro o1 r1 h1
    rw [hO] at h1
    split at h1
    · rename_i he; subst he; exact hI.dom o1 r ho
    · exact hI.dom o1 r1 h1
  · intro o1 o2 r1 r2 h1 h2 h3
    rw [hO] at h1 h2
    split at h1 <;> split at h2
    · omega
    · rename_i _ hn2; cases h1; exact absurd h3.symm (hne o2 r2 hn2 h2)
    · rename_i hn1 _; cases h2; exact absurd h3 (hne o1 r1 hn1 h1)
    · exact hI.inj o1 o2 r1 r2 h1 h2 h3
  · intro o1 r1 h1
    rw [hO] at h1
    split at h1
    · cases h1; exact hlt
    · have := hI.lt o1 r1 h1; omega
  · intro x cs hx; rw [hgl] at hx; exact (hI.gl x cs hx).mono e.S
  · intro o1 h1; rw [hp] at h1; exact hI.pd o1 h1
  · rcases hb with hb | hb
    · exact hn o r ho (hb.symm.trans he.symm)
    · omega

section
variable {P : Program} {E : Env} (hE : EnvOK P E)
include hE
theorem notInt_cases {ts : List TypeId} (hn : notIntTy E ts = true) : ts = [] ∨ ∃ t r d, ts = t :: r ∧ P.underlying t = some d ∧ ∀ k, d ≠ .int k := by
  cases ts with
  | nil => exact .inl rfl
  | cons t ts =>
    simp only [notIntTy] at hn
    split at hn
    · rename_i i hi
      refine .inr ⟨t, ts, i.desc, rfl, hE.und hi, fun k hk => ?_⟩
      rw [hk] at hn; simp at hn
    · cases hn
theorem run_append_room {t e : TypeId} {ti ei : TInfo} {ts : List TypeId} (hti : E.ti t = some ti) (hd : ti.desc = .slice e) (hei : E.ti e = some ei) (hn : notIntTy E ts = true) {base : Option Addr} {sLen sCap n : Nat} {x : Value} {ty : TypeId} {w w' : World} {news : List Value}
    (hlen : (Builtin.lenOf x).run P w = .ok n w) (hroom : sLen + n ≤ sCap) (hf : (Builtin.firstCells ei.size n x).run P w = .ok ⟨news⟩ w)
    (hs : ∀ a, base = some a → (storeCells (a.add (sLen * ei.size)) news 0).run P w = .ok () w') (h0 : base = none → w' = w) :
    (Builtin.append_ ⟨t :: ts⟩ ty #[.slice base sLen sCap, x]).run P w = .ok (.slice base (sLen + n) sCap) w' := by
  have h1 := hE.run_und hti w
  rw [hd] at h1
  rcases notInt_cases hE hn with rfl | ⟨t2, r, d, rfl, h2, h3⟩
  · cases base with
    | none => cases h0 rfl; simp [Builtin.append_, h1, hE.run_size hei, hlen, hroom, hf]
    | some a => have h4 := hs a rfl; simp [Builtin.append_, h1, hE.run_size hei, hlen, hroom, hf, h4]
  · cases base with
    | none => cases h0 rfl; cases d <;> (first | (exact absurd rfl (h3 _)) | (simp [Builtin.append_, h1, hE.run_size hei, hlen, hroom, hf, run_underlying h2]))
    | some a => have h4 := hs a rfl; cases d <;> (first | (exact absurd rfl (h3 _)) | (simp [Builtin.append_, h1, hE.run_size hei, hlen, hroom, hf, h4, run_underlying h2]))
theorem run_append_grow' {t e : TypeId} {ti ei : TInfo} {ts : List TypeId} (hti : E.ti t = some ti) (hd : ti.desc = .slice e) (hei : E.ti e = some ei) (hn : notIntTy E ts = true) {base : Option Addr} {sLen sCap n : Nat} {x : Value} {ty : TypeId} {w : World} {olds news : List Value}
    (hlen : ∀ w', (Builtin.lenOf x).run P w' = .ok n w') (hroom : sCap < sLen + n) (hold : (Builtin.firstCells ei.size sLen (.slice base sLen sCap)).run P w.drew = .ok ⟨olds⟩ w.drew) (hf : (Builtin.firstCells ei.size n x).run P w.drew = .ok ⟨news⟩ w.drew)
    (hb : ei.bytes ≤ 4096) (hm : sLen + n ≤ 2 ^ 32) :
    ∃ rest : List Value, rest.length = (grownCap w (sLen + n) sCap e - (sLen + n)) * ei.size ∧ (Builtin.append_ ⟨t :: ts⟩ ty #[.slice base sLen sCap, x]).run P w =
      .ok (.slice (some ⟨w.heap.size, 0, none⟩) (sLen + n) (grownCap w (sLen + n) sCap e)) (w.drew.alloc (.cells ⟨olds ++ news ++ rest⟩ e)) := by
  have h1 := hE.run_und hti w
  rw [hd] at h1
  obtain ⟨_, pi, hp, hs, hbb, z, hz1, hz2, hz3⟩ := hE.ti e ei hei
  have hbytes : pi.bytes ≤ 4096 := by omega
  have hfit : Builtin.nextslicecap (sLen + n) sCap * pi.bytes ≤ 281474976710656 := growslice_fits (by omega) (Nat.le_trans (Nat.mul_le_mul hm hbytes) (by decide))
  have h48' : ¬ (281474976710656 < Builtin.nextslicecap (sLen + n) sCap * pi.bytes) := by omega
  have hn' : ¬ (sLen + n ≤ sCap) := by omega
  have h63' : ¬ (9223372036854775807 < ((sLen : Int) + (n : Int))) := by omega
  refine ⟨(Builtin.zeroCells z.cells (grownCap w (sLen + n) sCap e - (sLen + n))).toList, by simp [size_zeroCells, hz3], ?_⟩
  rw [← hs] at hold hf
  have hcell : ∀ (A : Array Value), (⟨olds⟩ ++ (⟨news⟩ ++ A) : Array Value) = ⟨olds ++ (news ++ A.toList)⟩ := fun A => by apply Array.ext'; simp
  rcases notInt_cases hE hn with rfl | ⟨t2, r, d, rfl, h2, h3⟩
  · simp [Builtin.append_, h1, sizeOf, typeInfo, zeroValue, hp, hlen, hn', h63', h48', hz1, Question.forced, hold, hf, newRow, grownCap, hcell]
  · cases d <;> (first | (exact absurd rfl (h3 _)) | (simp [Builtin.append_, h1, sizeOf, typeInfo, zeroValue, hp, hlen, hn', h63', h48', hz1, Question.forced, hold, hf, newRow, grownCap, run_underlying h2, hcell]))
end
end Go.Ev
