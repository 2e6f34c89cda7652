/- Part CoE of the kept evaluator and its soundness; what each piece says stands ahead of it. No condition. -/
import Derived.Test.YtelhpneeiebeeaaGreatDoorCoD
/- Open orders: what an operation looks at. -/
namespace Go.Ev
/-! masks -/
theorem bitOf_eq (m i : Nat) : bitOf m i = m.testBit i := by
  simp only [bitOf, Nat.testBit]
  show Nat.beq ((m >>> i) &&& 1) 1 = (1 &&& (m >>> i) != 0)
  rw [Nat.and_comm, Nat.one_and_eq_mod_two]
  have h : (m >>> i) % 2 < 2 := Nat.mod_lt _ (by omega)
  generalize (m >>> i) % 2 = x at *
  have hx : x = 0 ∨ x = 1 := by omega
  rcases hx with rfl | rfl <;> rfl
theorem bitOf_or (a b i : Nat) : bitOf (Nat.lor a b) i = (bitOf a i || bitOf b i) := by
  rw [bitOf_eq, bitOf_eq, bitOf_eq]
  exact Nat.testBit_or a b i
theorem bitOf_pow (n i : Nat) : bitOf (Nat.pow 2 n) i = decide (n = i) := by
  rw [bitOf_eq]
  exact Nat.testBit_two_pow
theorem bitOf_zero (i : Nat) : bitOf 0 i = false := by rw [bitOf_eq]; exact Nat.zero_testBit i
theorem lget_eq : ∀ (l : List Nat) (i : Nat), lget l i = l[i]?
  | [], i => by simp [lget]
  | x :: l, 0 => rfl
  | x :: l, i + 1 => by simp [lget, lget_eq l i]
theorem bindsAny_eq (e : Edge) : bindsAny e = Region.binds .any e := by
  unfold bindsAny Region.binds
  cases e.ground <;> rfl
/-- j is among what comes before, by these edges and what is known of the elder operations. -/
def Before (ms : List Nat) (es : List Edge) (j : Nat) : Prop := ∃ e, e ∈ es ∧ bindsAny e = true ∧ (e.on = j ∨ ∃ m, ms[e.on]? = some m ∧ bitOf m j = true)
theorem maskOf_ok {ms : List Nat} : ∀ {es : List Edge} {m : Nat}, maskOf ms es = some m → (∀ e, e ∈ es → bindsAny e = true → e.on < ms.length) ∧ ∀ j, bitOf m j = true ↔ Before ms es j
  | [], m, h => by
    simp only [maskOf, Option.some.injEq] at h; subst h
    exact ⟨fun e he => (by cases he), fun j => ⟨fun h => (by rw [bitOf_zero] at h; cases h), fun ⟨e, he, _⟩ => (by cases he)⟩⟩
  | e :: es, m, h => by
    simp only [maskOf] at h
    cases hb : bindsAny e with
    | false =>
      simp only [hb, cond_false] at h
      obtain ⟨h1, h2⟩ := maskOf_ok h
      refine ⟨fun e' he' hb' => ?_, fun j => (h2 j).trans ⟨fun ⟨e', q1, q2⟩ => ⟨e', List.mem_cons_of_mem _ q1, q2⟩, fun ⟨e', q1, q2, q3⟩ => ?_⟩⟩
      · rcases List.mem_cons.1 he' with rfl | he'
        · rw [hb] at hb'; cases hb'
        · exact h1 e' he' hb'
      · rcases List.mem_cons.1 q1 with rfl | q1
        · rw [hb] at q2; cases q2
        · exact ⟨e', q1, q2, q3⟩
    | true =>
      simp only [hb, cond_true] at h
      split at h
      · rename_i m1 x hm1 hx
        simp only [Option.some.injEq] at h; subst h
        obtain ⟨h1, h2⟩ := maskOf_ok hx
        rw [lget_eq] at hm1
        refine ⟨fun e' he' hb' => ?_, fun j => ?_⟩
        · rcases List.mem_cons.1 he' with rfl | he'
          · exact (List.getElem?_eq_some_iff.1 hm1).1
          · exact h1 e' he' hb'
        · rw [bitOf_or, bitOf_or, bitOf_pow]
          simp only [Bool.or_eq_true, decide_eq_true_eq]
          constructor
          · rintro ((h | h) | h)
            · exact ⟨e, by simp, hb, .inr ⟨m1, hm1, h⟩⟩
            · exact ⟨e, by simp, hb, .inl h⟩
            · obtain ⟨e', q1, q2⟩ := (h2 j).1 h
              exact ⟨e', List.mem_cons_of_mem _ q1, q2⟩
          · rintro ⟨e', q1, q2, q3⟩
            rcases List.mem_cons.1 q1 with rfl | q1
            · rcases q3 with q3 | ⟨m2, q3, q4⟩
              · exact .inl (.inr q3)
              · rw [hm1] at q3; cases q3; exact .inl (.inl q4)
            · exact .inr ((h2 j).2 ⟨e', q1, q2, q3⟩)
      · cases h
/-- The masks of a region's operations. -/
structure MasksOK (L : List Oper) (ms : List Nat) : Prop where
  len : ms.length = L.length
  lt : ∀ (i : Nat) (o : Oper), L[i]? = some o → ∀ e, e ∈ o.after.toList → bindsAny e = true → e.on < i
  bit : ∀ (i : Nat) (o : Oper) (m : Nat), L[i]? = some o → ms[i]? = some m → ∀ j, bitOf m j = true ↔ Before ms o.after.toList j
theorem masks_ok : ∀ {rest : List Oper} {ms0 ms : List Nat} {L0 : List Oper}, MasksOK L0 ms0 → masks ms0 rest = some ms → MasksOK (L0 ++ rest) ms ∧ ∃ r, ms = ms0 ++ r
  | [], ms0, ms, L0, h0, h => by
    simp only [masks, Option.some.injEq] at h; subst h
    simpa using h0
  | o :: rest, ms0, ms, L0, h0, h => by
    simp only [masks] at h
    split at h
    · rename_i m hm
      obtain ⟨q1, q2⟩ := maskOf_ok hm
      have h1 : MasksOK (L0 ++ [o]) (ms0 ++ [m]) := by
        have bef : ∀ (es : List Edge), (∀ e, e ∈ es → bindsAny e = true → e.on < ms0.length) → ∀ j, Before (ms0 ++ [m]) es j ↔ Before ms0 es j := by
          intro es hes j
          constructor
          · rintro ⟨e, k1, k2, k3⟩
            refine ⟨e, k1, k2, k3.imp id ?_⟩
            rintro ⟨m', k4, k5⟩
            rw [List.getElem?_append_left (hes e k1 k2)] at k4
            exact ⟨m', k4, k5⟩
          · rintro ⟨e, k1, k2, k3⟩
            refine ⟨e, k1, k2, k3.imp id ?_⟩
            rintro ⟨m', k4, k5⟩
            exact ⟨m', by rw [List.getElem?_append_left (hes e k1 k2)]; exact k4, k5⟩
        refine ⟨by simp [h0.len], fun i o' ho' e he hb => ?_, fun i o' m' ho' hm' j => ?_⟩
        · by_cases hi : i < L0.length
          · rw [List.getElem?_append_left hi] at ho'
            exact h0.lt i o' ho' e he hb
          · rw [List.getElem?_append_right (by omega)] at ho'
            have hi2 : i - L0.length = 0 := by
              have := (List.getElem?_eq_some_iff.1 ho').1
              simp at this; omega
            rw [hi2] at ho'
            simp at ho'; subst ho'
            have := q1 e he hb
            rw [h0.len] at this; omega
        · by_cases hi : i < L0.length
          · rw [List.getElem?_append_left hi] at ho'
            rw [List.getElem?_append_left (by rw [h0.len]; exact hi)] at hm'
            rw [bef _ (fun e he hb => by have := h0.lt i o' ho' e he hb; rw [h0.len]; omega)]
            exact h0.bit i o' m' ho' hm' j
          · rw [List.getElem?_append_right (by omega)] at ho'
            have hi2 : i - L0.length = 0 := by
              have := (List.getElem?_eq_some_iff.1 ho').1
              simp at this; omega
            rw [List.getElem?_append_right (by rw [h0.len]; omega), h0.len, hi2] at hm'
            rw [hi2] at ho'
            simp at ho' hm'; subst ho'; subst hm'
            rw [bef _ q1]
            exact q2 j
      obtain ⟨k1, r, k2⟩ := masks_ok h1 h
      exact ⟨by rw [List.append_assoc] at k1; exact k1, m :: r, by rw [k2]; simp⟩
    · cases h
theorem masks_all {L : List Oper} {ms : List Nat} (h : masks [] L = some ms) : MasksOK L ms := by
  have h0 : MasksOK [] [] := ⟨rfl, fun i o ho => by simp at ho, fun i o m ho => by simp at ho⟩
  simpa using (masks_ok h0 h).1
theorem MasksOK.bit_lt {L : List Oper} {ms : List Nat} (h : MasksOK L ms) : ∀ (i : Nat) (m : Nat), ms[i]? = some m → ∀ j, bitOf m j = true → j < i := by
  intro i
  induction i using Nat.strongRecOn with
  | _ i ih =>
    intro m hm j hj
    have hi : i < L.length := by rw [← h.len]; exact (List.getElem?_eq_some_iff.1 hm).1
    have ho := List.getElem?_eq_getElem hi
    obtain ⟨e, h1, h2, h3⟩ := (h.bit i _ m ho hm j).1 hj
    have hlt := h.lt i _ ho e h1 h2
    rcases h3 with h3 | ⟨m', h3, h4⟩
    · omega
    · have := ih e.on hlt m' h3 j h4; omega
/-- What comes before is listed. -/
theorem MasksOK.listed {L : List Oper} {ms : List Nat} (h : MasksOK L ms) {l : Nat → Prop} (hc : ∀ (i : Nat) (o : Oper), l i → L[i]? = some o → ∀ e, e ∈ o.after.toList → bindsAny e = true → l e.on) :
    ∀ (i : Nat) (o : Oper) (m : Nat), L[i]? = some o → ms[i]? = some m → (∀ e, e ∈ o.after.toList → bindsAny e = true → l e.on) → ∀ j, bitOf m j = true → l j := by
  intro i
  induction i using Nat.strongRecOn with
  | _ i ih =>
    intro o m ho hm hr j hj
    obtain ⟨e, h1, h2, h3⟩ := (h.bit i o m ho hm j).1 hj
    have hlt := h.lt i o ho e h1 h2
    rcases h3 with h3 | ⟨m', h3, h4⟩
    · rw [← h3]; exact hr e h1 h2
    · have hi : e.on < L.length := by rw [← h.len]; exact (List.getElem?_eq_some_iff.1 h3).1
      have ho' := List.getElem?_eq_getElem hi
      exact ih e.on hlt _ m' ho' h3 (hc e.on _ (hr e h1 h2) ho') j h4

/-! pairs -/
theorem rowOk_get {i : Nat} {a : Rc} : ∀ {rs : List Rc} {j0 : Nat}, rowOk i a j0 rs = true → ∀ (j : Nat) (b : Rc), rs[j]? = some b → pairOk i (j0 + j) a b = true
  | b :: rs, j0, h, j, b', hj => by
    simp only [rowOk, Bool.and_eq_true] at h
    cases j with
    | zero => simp at hj; subst hj; exact h.1
    | succ j => rw [show j0 + (j + 1) = j0 + 1 + j by omega]; exact rowOk_get h.2 j b' (by simpa using hj)
theorem allOk_get {rs0 : List Rc} : ∀ {rs : List Rc} {i0 : Nat}, allOk rs0 i0 rs = true → ∀ (i : Nat) (a : Rc), rs[i]? = some a → ∀ (j : Nat) (b : Rc), rs0[j]? = some b → pairOk (i0 + i) j a b = true
  | a :: rs, i0, h, i, a', hi, j, b, hj => by
    simp only [allOk, Bool.and_eq_true] at h
    cases i with
    | zero => simp at hi; subst hi; have := rowOk_get h.1 j b hj; simpa using this
    | succ i => rw [show i0 + (i + 1) = i0 + 1 + i by omega]; exact allOk_get h.2 i a' (by simpa using hi) j b hj
theorem memN_mem {x : Nat} : ∀ {l : List Nat}, memN x l = true ↔ x ∈ l
  | [] => by simp [memN]
  | y :: l => by simp [memN, memN_mem]
structure PairOK (i j : Nat) (a b : Rc) : Prop where
  dst : ∀ d, a.dst = some d → b.dst ≠ some d
  use : ∀ d, b.dst = some d → d ∈ a.uses → if b.hst = true ∨ j < i then bitOf a.mask j = true else bitOf b.mask i = true
  eff : a.eff = true → b.eff = true → j < i → bitOf a.mask j = true
  clash : a.eff = false → b.eff = true → anyIn b.ws a.reads = true → (a.hst = false ∧ bitOf a.mask j = true) ∨ bitOf b.mask i = true
theorem pairOk_ok {i j : Nat} {a b : Rc} (hij : i ≠ j) (h : pairOk i j a b = true) : PairOK i j a b := by
  unfold pairOk at h
  rw [nbeq_ne hij] at h
  simp only [cond_false, Bool.and_eq_true] at h
  obtain ⟨⟨⟨h1, h2⟩, h3⟩, h4⟩ := h
  refine ⟨fun d ha hb => ?_, fun d hb hd => ?_, fun e1 e2 hlt => ?_, fun e1 e2 e3 => ?_⟩
  · rw [ha, hb] at h1; simp [sameDst] at h1
  · rw [hb] at h2
    simp only [Bool.or_eq_true, Bool.not_eq_true'] at h2
    rcases h2 with h2 | h2
    · have := memN_mem.2 hd; rw [this] at h2; cases h2
    · cases hh : b.hst with
      | true => rw [hh] at h2; simpa using h2
      | false =>
        rw [hh] at h2
        simp only [Bool.false_or] at h2
        by_cases hlt : j < i
        · rw [blt_iff.2 hlt] at h2; simpa [hlt] using h2
        · have : Nat.blt j i = false := by cases hb' : Nat.blt j i with | true => exact absurd (blt_iff.1 hb') hlt | false => rfl
          rw [this] at h2; simpa [hlt] using h2
  · rw [e1, e2, blt_iff.2 hlt] at h3; simpa using h3
  · rw [e1, e2, e3] at h4
    simp only [Bool.not_false, Bool.and_self, Bool.not_true, Bool.false_or, Bool.or_eq_true, Bool.and_eq_true, Bool.not_eq_true'] at h4
    exact h4
end Go.Ev
/- Open orders: an operation on what it looks at alone. -/
set_option maxHeartbeats 1000000
namespace Go.Ev
theorem opndR_eq {E : Env} {t t' : List V} {x : Operand} (h : opnd E t x = opnd E t' x) : opndR E t x = opndR E t' x := by
  cases x <;> first | rfl | exact h
theorem ofVal_obj (v : Value) : (V.ofVal v).obj? = none := by unfold V.ofVal; split <;> rfl
theorem ofValue_obj (v : Value) : (V.ofValue v).obj? = none := by cases v <;> first | rfl | exact ofVal_obj _
theorem opndR_obj {E : Env} {t : List V} {x : Operand} {o : Nat} (h : (opndR E t x).obj? = some o) : (opnd E t x).obj? = some o := by
  cases x with
  | const v => simp only [opndR, ofValue_obj] at h; cases h
  | tmp i => exact h
  | «global» g => exact h
  | func f => exact h
theorem tmpsOf_mem {u : Tmp} : ∀ {l : List Operand}, Operand.tmp u ∈ l → u ∈ tmpsOf l
  | x :: l, h => by
    rcases List.mem_cons.1 h with rfl | h
    · simp [tmpsOf]
    · have ih := tmpsOf_mem h
      cases x with
      | tmp t => simp only [tmpsOf]; exact List.mem_cons_of_mem _ ih
      | _ => exact ih
theorem opnd_congr {E : Env} {t t' : List V} {l : List Operand} (h : ∀ u, u ∈ tmpsOf l → tget t u = tget t' u) : ∀ x, x ∈ l → opnd E t x = opnd E t' x := fun x hx => by
  cases x with
  | tmp u => exact congrArg V.norm (h u (tmpsOf_mem hx))
  | _ => rfl
theorem opnds_congr {E : Env} {t t' : List V} : ∀ {l : List Operand}, (∀ x, x ∈ l → opnd E t x = opnd E t' x) → opnds E t l = opnds E t' l
  | [], _ => rfl
  | x :: l, h => by simp only [opnds]; rw [h x (by simp), opnds_congr fun y hy => h y (by simp [hy])]
theorem parts_congr {E : Env} {t t' : List V} : ∀ {l : List (Nat × Operand)}, (∀ x, x ∈ l.map (·.2) → opnd E t x = opnd E t' x) → partsV E t l = partsV E t' l
  | [], _ => rfl
  | (i, x) :: l, h => by simp only [partsV]; rw [h x (by simp), parts_congr fun y hy => h y (by simp at hy ⊢; exact .inr hy)]
theorem opt_congr {E : Env} {t t' : List V} {x : Option Operand} (h : ∀ y, y ∈ x.toList → opnd E t y = opnd E t' y) : optOpnd E t x = optOpnd E t' x := by
  cases x with
  | none => rfl
  | some y => simp only [optOpnd]; rw [h y (by simp)]
theorem op_congr {E : Env} {mu : Bool} {o : Op} {t t' : List V} {s : St} (h : ∀ x, x ∈ o.operands.toList → opnd E t x = opnd E t' x) : op E mu o t s = op E mu o t' s := by
  cases o
  case move x => simp only [op]; rw [h x (by simp [Op.operands])]
  case assign x => simp only [op]; rw [h x (by simp [Op.operands])]
  case pick c a b => simp only [op]; rw [h c (by simp [Op.operands]), h a (by simp [Op.operands]), h b (by simp [Op.operands])]
  case box e x => simp only [op]; rw [h x (by simp [Op.operands])]
  case load ty x => simp only [op]; rw [h x (by simp [Op.operands])]
  case store ty x y => simp only [op]; rw [h x (by simp [Op.operands]), h y (by simp [Op.operands])]
  case nilCheck x => simp only [op]; rw [h x (by simp [Op.operands])]
  case binOp b ty x y yt => simp only [op]; rw [opndR_eq (h x (by simp [Op.operands])), opndR_eq (h y (by simp [Op.operands]))]
  case unOp u ty x => simp only [op]; rw [h x (by simp [Op.operands])]
  case convert a b x => simp only [op]; rw [h x (by simp [Op.operands])]
  case makeInterface ty x => simp only [op]; rw [h x (by simp [Op.operands])]
  case makeSlice ty x y => simp only [op]; rw [h x (by simp [Op.operands]), h y (by simp [Op.operands])]
  case fieldAddr ty x i => simp only [op]; rw [h x (by simp [Op.operands])]
  case field ty x i => simp only [op]; rw [h x (by simp [Op.operands])]
  case indexAddr ty x y => simp only [op]; rw [h x (by simp [Op.operands]), h y (by simp [Op.operands])]
  case index ty x y => simp only [op]; rw [h x (by simp [Op.operands]), h y (by simp [Op.operands])]
  case extract x i => simp only [op]; rw [h x (by simp [Op.operands])]
  case build ty ps => simp only [op]; rw [parts_congr (t := t) (t' := t') (fun y hy => h y (by simpa [Op.operands] using hy))]
  case buildSlice ty n ps => simp only [op]; rw [parts_congr (t := t) (t' := t') (fun y hy => h y (by simpa [Op.operands] using hy))]
  case makeFunc f first caps =>
    have hc : opnds E t caps.toList = opnds E t' caps.toList := opnds_congr fun y hy => h y (by simp [Op.operands]; exact .inr (by simpa using hy))
    cases f <;> simp only [op, hc]
  case slice ty x lo hi mx =>
    simp only [op]
    rw [h x (by simp [Op.operands]), opt_congr (x := lo) (t := t) (t' := t') (fun y hy => h y (by simp at hy; subst hy; simp [Op.operands])), opt_congr (x := hi) (t := t) (t' := t') (fun y hy => h y (by simp at hy; subst hy; simp [Op.operands])), opt_congr (x := mx) (t := t) (t' := t') (fun y hy => h y (by simp at hy; subst hy; simp [Op.operands]))]
  case call c =>
    obtain ⟨callee, args, ats⟩ := c
    cases callee with
    | builtin b =>
      have hc : opnds E t args.toList = opnds E t' args.toList := opnds_congr fun y hy => h y (by simp [Op.operands, Call.operands]; first | exact .inr (by simpa using hy) | simpa using hy)
      simp only [op, hc]
    | value x => rfl
    | invoke a b => rfl
  all_goals rfl

/-! what is looked at -/
def ShapeEq (s s2 : St) (o : Nat) : Prop := ∀ els opn, hget s.heap o = some (.row els opn) → ∃ els' opn', hget s2.heap o = some (.row els' opn') ∧ els'.length = els.length ∧ ∀ (i : Nat) (row : List V), els[i]? = some row → ∃ row', els'[i]? = some row' ∧ row'.length = row.length
def Agree (s s2 : St) : Rd → Prop
  | .shape o => ShapeEq s s2 o
  | .cells o i j n => ShapeEq s s2 o ∧ ∀ els opn row, hget s.heap o = some (.row els opn) → els[i]? = some row → ∃ els' opn' row', hget s2.heap o = some (.row els' opn') ∧ els'[i]? = some row' ∧ ∀ k, j ≤ k → k < j + n → row'[k]? = row[k]?
  | .all o => hget s2.heap o = hget s.heap o
section
variable {s s2 : St}
theorem ShapeEq.live {o hw : Nat} (h : ShapeEq s s2 o) (hl : liveRow s o hw = true) : liveRow s2 o hw = true := by
  unfold liveRow at hl ⊢
  split at hl
  · rename_i els opn hg
    obtain ⟨els', opn', h1, h2, _⟩ := h els opn hg
    rw [h1]; simp only; rw [h2]; exact hl
  · cases hl
theorem ShapeEq.rowAt {o hw i : Nat} {cells : List V} (h : ShapeEq s s2 o) (hr : rowAt? s o hw i = some cells) : ∃ cells', rowAt? s2 o hw i = some cells' ∧ cells'.length = cells.length := by
  unfold rowAt? at hr ⊢
  split at hr
  · rename_i els opn hg
    cases hb : Nat.beq els.length hw with
    | false => simp [hb] at hr
    | true =>
      simp only [hb, cond_true] at hr
      obtain ⟨els', opn', h1, h2, h3⟩ := h els opn hg
      obtain ⟨row', h4, h5⟩ := h3 i cells hr
      rw [h1]; simp only; rw [h2, hb]; simp only [cond_true]
      exact ⟨row', h4, h5⟩
  · cases hr
def AgreeL (s s2 : St) (l : List Rd) : Prop := ∀ r, r ∈ l → Agree s s2 r
theorem reads_mem {f : Nat → Rd} {x : V} {o : Nat} (ho : x.obj? = some o) : ∀ {l : List V}, x ∈ l → f o ∈ readsOf f l
  | y :: l, h => by
    simp only [readsOf]
    rcases List.mem_cons.1 h with rfl | h
    · rw [ho]; simp
    · split
      · exact List.mem_cons_of_mem _ (reads_mem ho h)
      · exact reads_mem ho h
theorem takeV_agree {b : Bool} {n : Nat} {c c' : List V} {v : V} (h : takeV b n c = some v) (hl : c'.length = c.length) (hc : ∀ k, k < (bif Nat.blt 1 n then n else 1) → c'[k]? = c[k]?) : takeV b n c' = some v := by
  have hn : n ≤ (bif Nat.blt 1 n then n else 1) := by
    cases hb : Nat.blt 1 n with
    | true => simp
    | false =>
      have : ¬ 1 < n := fun h => by rw [blt_iff.2 h] at hb; cases hb
      simp; omega
  have h1 : 0 < (bif Nat.blt 1 n then n else 1) := by
    cases hb : Nat.blt 1 n with
    | true => have := blt_iff.1 hb; simp; omega
    | false => simp
  unfold takeV at h ⊢
  cases b with
  | true =>
    simp only [cond_true] at h ⊢
    rw [hl]
    cases hle : Nat.ble n c.length with
    | false => simp [hle] at h
    | true =>
      simp only [hle, cond_true] at h ⊢
      have : c'.take n = c.take n := by
        apply List.ext_getElem?
        intro i
        rw [List.getElem?_take, List.getElem?_take]
        split
        · rename_i hi; exact hc i (by omega)
        · rfl
      rw [this]; exact h
  | false =>
    simp only [cond_false] at h ⊢
    have h0 := hc 0 h1
    cases c with
    | nil => simp at h
    | cons x xs =>
      cases c' with
      | nil => simp at hl
      | cons y ys =>
        simp at h0
        subst h0
        exact h
variable {E : Env}
theorem load_agree {i : TInfo} {p v : V} (h : load i p s = some v) (ha : ∀ o hw e j, p = .ptr o hw e j → Agree s s2 (.cells o e j (bif Nat.blt 1 i.size then i.size else 1))) : load i p s2 = some v := by
  unfold load at h ⊢
  split at h
  · rename_i o hw e j
    obtain ⟨hsh, hc⟩ := ha o hw e j rfl
    split at h
    · rename_i cells hr
      obtain ⟨cells', h1, h2⟩ := hsh.rowAt hr
      simp only [h1]
      refine takeV_agree h (by simp [h2]) (fun k hk => ?_)
      unfold rowAt? at hr h1
      split at hr
      · rename_i els opn hg
        cases hb : Nat.beq els.length hw with
        | false => simp [hb] at hr
        | true =>
          simp only [hb, cond_true] at hr
          obtain ⟨els', opn', row', h3, h4, h5⟩ := hc els opn cells hg hr
          rw [h3] at h1
          simp only at h1
          cases hb' : Nat.beq els'.length hw with
          | false => simp [hb'] at h1
          | true =>
            simp only [hb', cond_true] at h1
            rw [h4] at h1; cases h1
            rw [List.getElem?_drop, List.getElem?_drop]
            exact h5 _ (by omega) (by omega)
      · cases hr
    · cases h
  · exact h
  · cases h
theorem eqV_agree {t : TypeId} {c : Bool} {x y : V} {b : Bool} (h : eqV E t c s x y = some b) (hx : ∀ o, x.obj? = some o → ShapeEq s s2 o) (hy : ∀ o, y.obj? = some o → ShapeEq s s2 o) : eqV E t c s2 x y = some b := by
  unfold eqV at h ⊢
  split at h
  · rename_i ti hti
    split at h
    all_goals first
      | exact h
      | (rename_i hd; simp only [hd]; exact h)
      | skip
    all_goals first
      | (rename_i o hw i j hd
         cases hl : liveRow s o hw with
         | false => simp [hl] at h
         | true =>
           simp only [hl, cond_true] at h
           first
           | (have hl2 := (hx o rfl).live hl; simp only [hl2, cond_true]; exact h)
           | (have hl2 := (hy o rfl).live hl; simp only [hl2, cond_true]; exact h))
      | skip
    rename_i e o hw i j o' hw' i' j' hd
    cases hl : liveRow s o hw with
    | false => simp [hl] at h
    | true =>
      have hl2 := (hx o rfl).live hl
      rw [hl] at h
      rw [hl2]
      exact h
  · cases h
theorem binOp_agree {b : BinOp} {t : TypeId} {c : Bool} {x y v : V} (h : binOp E b t c x y s = some v) (hx : ∀ o, x.obj? = some o → ShapeEq s s2 o) (hy : ∀ o, y.obj? = some o → ShapeEq s s2 o) : binOp E b t c x y s2 = some v := by
  unfold binOp at h ⊢
  split at h
  · exact h
  · exact h
  · split at h
    · simp only [Option.map_eq_some_iff] at h ⊢
      obtain ⟨r, h1, h2⟩ := h
      exact ⟨r, eqV_agree h1 hx hy, h2⟩
    · simp only [Option.map_eq_some_iff] at h ⊢
      obtain ⟨r, h1, h2⟩ := h
      exact ⟨r, eqV_agree h1 hx hy, h2⟩
    · cases h
theorem live_agree {x : V} (h : x.live s = true) (hx : ∀ o, x.obj? = some o → ShapeEq s s2 o) : x.live s2 = true := by
  cases x <;> first | exact h | exact (hx _ rfl).live h
theorem fieldAddr_agree {t : TypeId} {x v : V} {i : Nat} (h : fieldAddr E t x i s = some v) (hx : ∀ o, x.obj? = some o → ShapeEq s s2 o) : fieldAddr E t x i s2 = some v := by
  unfold fieldAddr at h ⊢
  split at h
  · split at h
    · split at h
      · rename_i f hf
        split at h
        · rename_i fi hfi
          cases hc : (Nat.ble 1 fi.size && x.live s) with
          | false => simp [hc] at h
          | true =>
            obtain ⟨h1, h2⟩ := band_iff.1 hc
            rw [hc] at h
            rw [h1, live_agree h2 hx]
            exact h
        · cases h
      · cases h
    · cases h
  · cases h
theorem indexAddr_agree {t : TypeId} {x ix v : V} (h : indexAddr E t x ix s = some v) (hx : ∀ o, x.obj? = some o → ShapeEq s s2 o) : indexAddr E t x ix s2 = some v := by
  unfold indexAddr at h ⊢
  split at h
  · split at h
    · split at h
      · split at h
        · exact h
        · exact h
        · rename_i o hw i j sz
          split at h
          · rename_i k hk
            split at h
            · rename_i r hr
              obtain ⟨r', h1, h2⟩ := (hx _ rfl).rowAt hr
              simp only [h1, h2]
              exact h
            · cases h
          · cases h
        · rename_i o hw i j sz n cp
          rename_i ei _ _
          cases hc : (Nat.beq sz ei.size && liveRow s o hw) with
          | false => simp [hc] at h
          | true =>
            obtain ⟨h1, h2⟩ := band_iff.1 hc
            rw [hc] at h
            rw [h1, (hx _ rfl).live h2]
            exact h
        · cases h
      · cases h
    · split at h
      · split at h
        · rename_i k hk
          split at h
          · rename_i o hw i j
            cases hl : liveRow s o hw with
            | false => simp [hl] at h
            | true => rw [hl] at h; rw [(hx _ rfl).live hl]; exact h
          · exact h
          · cases h
        · cases h
      · cases h
    · cases h
  · cases h
theorem szRow_agree {e : TypeId} {b o : Nat} (h : szRow E e b s o = true) (hx : ShapeEq s s2 o) : szRow E e b s2 o = true := by
  unfold szRow at h ⊢
  split at h
  · rename_i els opn hg
    obtain ⟨els', opn', h1, h2, h3⟩ := hx els opn hg
    rw [h1]
    simp only [h2]
    obtain ⟨q1, q2⟩ := band_iff.1 h
    rw [q2, Bool.and_true]
    unfold szOk at q1 ⊢
    split at q1
    · rename_i ei hei
      cases hb : Nat.beq b 0 with
      | true => rfl
      | false =>
        rw [hb] at q1
        simp only [Bool.false_or] at q1 ⊢
        cases els with
        | nil =>
          have : els' = [] := List.eq_nil_of_length_eq_zero (by simpa using h2)
          rw [this]; rfl
        | cons r rs =>
          cases els' with
          | nil => simp at h2
          | cons r' rs' =>
            obtain ⟨row', h4, h5⟩ := h3 0 r rfl
            simp at h4; subst h4
            simp only [firstLen] at q1 ⊢
            rw [h5]; exact q1
    · cases q1
  · cases h
theorem slice_agree {t : TypeId} {x v : V} {lo hi mx : Option V} (h : slice E t x lo hi mx s = some v) (hx : ∀ o, x.obj? = some o → ShapeEq s s2 o) : slice E t x lo hi mx s2 = some v := by
  unfold slice at h ⊢
  cases hn : noHigh mx hi with
  | true => simp [hn] at h
  | false =>
  simp only [hn, cond_false] at h ⊢
  split at h
  · split at h
    · exact h
    · exact h
    · exact h
    · rename_i e o i n hw cut hd
      cases hl : liveRow s o hw with
      | false => simp [hl] at h
      | true =>
        rw [hl] at h
        rw [(hx _ rfl).live hl]
        simp only [cond_true] at h ⊢
        split at h
        · rename_i m hm
          split at h
          · rename_i hh hhi
            split at h
            · rename_i b hb
              cases hc : ((!(cut || mx.isSome) || Nat.beq hh m) && szRow E e b s o) with
              | false => rw [hc] at h; cases h
              | true =>
                obtain ⟨q1, q2⟩ := band_iff.1 hc
                rw [hc] at h
                rw [q1, szRow_agree q2 (hx _ rfl)]
                exact h
            · cases h
          · cases h
        · cases h
    · rename_i e o hw i j sz n cp hd
      cases hl : liveRow s o hw with
      | false => simp [hl] at h
      | true =>
        rw [hl] at h
        rw [(hx _ rfl).live hl]
        exact h
    · rename_i n e o hw i j hd
      cases hl : liveRow s o hw with
      | false => simp [hl] at h
      | true =>
        rw [hl] at h
        rw [(hx _ rfl).live hl]
        exact h
    · cases h
  · cases h
theorem lenOf_agree {x : V} {n : Nat} (hs : isSl x = true) (h : lenOf s x = some n) (hx : ∀ o, x.obj? = some o → ShapeEq s s2 o) : lenOf s2 x = some n := by
  cases x with
  | ms o i m hw cut =>
    simp only [lenOf] at h ⊢
    cases hl : liveRow s o hw with
    | false => simp [hl] at h
    | true => rw [hl] at h; rw [(hx _ rfl).live hl]; exact h
  | «as» o hw i j sz m cp =>
    simp only [lenOf] at h ⊢
    cases hl : liveRow s o hw with
    | false => simp [hl] at h
    | true => rw [hl] at h; rw [(hx _ rfl).live hl]; exact h
  | d d => cases d <;> first | exact h | (simp [isSl] at hs)
  | os o els => exact h
  | _ => simp [isSl] at hs
theorem len_agree {t : TypeId} {x v : V} (h : builtinLen E t x s = some v) (hx : ∀ o, x.obj? = some o → ShapeEq s s2 o) : builtinLen E t x s2 = some v := by
  unfold builtinLen at h ⊢
  split at h
  · split at h
    · exact h
    · exact h
    · exact h
    · cases hs : isSl x with
      | false => simp [hs] at h
      | true =>
        simp only [hs, cond_true, Option.map_eq_some_iff] at h ⊢
        obtain ⟨n, h1, h2⟩ := h
        exact ⟨n, lenOf_agree hs h1 hx, h2⟩
    · cases h
  · cases h
theorem elsOf_agree {x : V} {els : List (List V)} (h : elsOf s x = some els) (hx : ∀ o, x.obj? = some o → hget s2.heap o = hget s.heap o) : elsOf s2 x = some els := by
  cases x with
  | ms o i n hw cut => simp only [elsOf] at h ⊢; rw [hx o rfl]; exact h
  | «as» o hw i j sz n cp => simp only [elsOf, rowAt?] at h ⊢; rw [hx o rfl]; exact h
  | d d => cases d <;> first | exact h | (simp [elsOf] at h)
  | os o els => exact h
  | _ => simp [elsOf] at h
theorem convert_agree {src dst : TypeId} {x v : V} {s1 : St} (h : convert E src dst x s = some (v, s1)) (hn : isSliceTy E dst = false) (hx : ∀ o, x.obj? = some o → hget s2.heap o = hget s.heap o) : convert E src dst x s2 = some (v, s2) ∧ s1 = s := by
  unfold convert at h ⊢
  split at h
  · rename_i a b ha hb
    unfold isSliceTy at hn
    rw [hb] at hn
    split at h
    · simp only [Option.some.injEq, Prod.mk.injEq] at h ⊢
      exact ⟨⟨h.1, trivial⟩, h.2.symm⟩
    · simp only [Option.some.injEq, Prod.mk.injEq] at h ⊢
      exact ⟨⟨h.1, trivial⟩, h.2.symm⟩
    · rename_i hd hns
      split at h
      · rename_i e hde
        cases hu : isU8 E e with
        | false => simp [hu] at h
        | true =>
          simp only [hu, cond_true] at h ⊢
          split at h
          · rename_i els hels
            rw [elsOf_agree hels hx]
            simp only
            split at h
            · rename_i l hl
              simp only [Option.some.injEq, Prod.mk.injEq] at h ⊢
              exact ⟨⟨h.1, trivial⟩, h.2.symm⟩
            · cases h
          · cases h
      · cases h
    · rename_i e l hd
      simp only [hd] at hn; cases hn
    · cases h
  · cases h
theorem still_agree {mu : Bool} {o : Op} {t : List V} {v : V} {s1 : St} (h : op E mu o t s = some (v, s1)) (he : effS E mu o = false) (hv : stillVal o v = true) (ha : AgreeL s s2 (readsBy E t o)) : op E mu o t s2 = some (v, s2) ∧ s1 = s := by
  have shapes : ∀ {l : List V}, readsBy E t o = readsOf .shape l → ∀ x, x ∈ l → ∀ p, x.obj? = some p → ShapeEq s s2 p := fun hr x hx p hp => by
    have := ha (.shape p) (by rw [hr]; exact reads_mem hp hx)
    exact this
  have pure1 : ∀ {m : Option V} {m2 : Option V}, (m.map fun v => (v, s)) = some (v, s1) → (∀ v', m = some v' → m2 = some v') → (m2.map fun v => (v, s2)) = some (v, s2) ∧ s1 = s := by
    intro m m2 h1 h2
    simp only [Option.map_eq_some_iff, Prod.mk.injEq] at h1 ⊢
    obtain ⟨v', h3, h4, h5⟩ := h1
    exact ⟨⟨v', h2 v' h3, h4, trivial⟩, h5.symm⟩
  have same : ∀ {u : V}, some (u, s) = some (v, s1) → some (u, s2) = some (v, s2) ∧ s1 = s := by
    intro u h1
    simp only [Option.some.injEq, Prod.mk.injEq] at h1 ⊢
    exact ⟨⟨h1.1, trivial⟩, h1.2.symm⟩
  cases o
  case move x => exact same h
  case assign x => exact same h
  case pick c a b =>
    simp only [op] at h ⊢
    split at h
    · exact same h
    · exact same h
    · cases h
  case alloc e => simp [effS] at he
  case box e x => simp [effS] at he
  case store ty x y => simp [effS] at he
  case makeSlice ty x y => simp [effS] at he
  case build ty ps => exact pure1 h fun v' h => h
  case buildSlice ty n ps =>
    simp only [effS] at he
    subst he
    simp only [op, buildSlice] at h ⊢
    split at h
    · split at h
      · split at h
        · rename_i i hi e hd ei hei
          cases hc : (Nat.ble 1 ei.size && Nat.ble (n * ei.size) 16777216 && Nat.beq ei.zero.length ei.size && allOne ei.zero) with
          | false => simp [hc] at h
          | true =>
            simp only [hc, cond_true] at h ⊢
            split at h
            · rename_i rows hrows
              simp only [newSlice, cond_false] at h ⊢
              split at h
              · exact same h
              · simp only [Option.some.injEq, Prod.mk.injEq] at h
                rw [← h.1] at hv; simp [stillVal] at hv
            · cases h
        · cases h
      · cases h
    · cases h
  case load ty x =>
    simp only [op] at h ⊢
    split at h
    · rename_i i hi
      refine pure1 h fun v' h' => load_agree h' (fun o hw e j hp => ?_)
      have := ha (.cells o e j (bif Nat.blt 1 i.size then i.size else 1)) (by simp [readsBy, blind, hp, hi])
      exact this
    · cases h
  case nilCheck x =>
    have hx := shapes (l := opnds E t [x]) rfl (opnd E t x) (by simp [opnds])
    simp only [op] at h ⊢
    split at h
    · rename_i o hw i j hp
      cases hl : liveRow s o hw with
      | false => simp [hl] at h
      | true =>
        rw [hl] at h
        rw [(hx o (by rw [hp]; rfl)).live hl]
        exact same h
    · exact same h
    · cases h
  case binOp b ty x y yt =>
    have hx := shapes (l := opnds E t [x, y]) rfl (opnd E t x) (by simp [opnds])
    have hy := shapes (l := opnds E t [x, y]) rfl (opnd E t y) (by simp [opnds])
    exact pure1 h fun v' h' => binOp_agree h' (fun o ho => hx o (opndR_obj ho)) (fun o ho => hy o (opndR_obj ho))
  case unOp u ty x => exact pure1 h fun v' h => h
  case convert a b x =>
    have hx : ∀ p, (opnd E t x).obj? = some p → hget s2.heap p = hget s.heap p := fun p hp => by
      have := ha (.all p) (by simp only [readsBy, blind, cond_false]; exact reads_mem hp (by simp))
      exact this
    exact convert_agree h he hx
  case makeInterface ty x =>
    simp only [op] at h ⊢
    split at h
    · split at h
      · cases h
      · cases hc : allOne (opnd E t x).cells with
        | false => simp [hc] at h
        | true => simp only [hc, cond_true] at h ⊢; exact same h
    · cases h
  case makeFunc f first caps =>
    cases f <;> simp only [op] at h ⊢ <;> first | (cases hf : first.isEmpty <;> simp only [hf, cond_true, cond_false] at h ⊢ <;> first | exact same h | cases h) | cases h
  case slice ty x lo hi mx =>
    have hx := shapes (l := opnds E t (Op.slice ty x lo hi mx).operands.toList) rfl (opnd E t x) (by simp [Op.operands, opnds])
    exact pure1 h fun v' h' => slice_agree h' hx
  case fieldAddr ty x i =>
    have hx := shapes (l := opnds E t [x]) rfl (opnd E t x) (by simp [opnds])
    exact pure1 h fun v' h' => fieldAddr_agree h' hx
  case field ty x i => exact pure1 h fun v' h => h
  case indexAddr ty x y =>
    have hx := shapes (l := opnds E t [x, y]) rfl (opnd E t x) (by simp [opnds])
    exact pure1 h fun v' h' => indexAddr_agree h' hx
  case index ty x y => exact pure1 h fun v' h => h
  case extract x i =>
    simp only [op] at h ⊢
    split at h
    · split at h
      · exact same h
      · cases h
    · cases h
  case call c =>
    obtain ⟨callee, args, ats⟩ := c
    cases callee with
    | builtin b =>
      have hr : ∀ x, x ∈ opnds E t args.toList → ∀ p, x.obj? = some p → ShapeEq s s2 p := shapes (by
        have : (Op.call ⟨.builtin b, args, ats⟩).operands.toList = args.toList := by simp [Op.operands, Call.operands]
        simp only [readsBy, blind, cond_false, this])
      simp only [op] at h ⊢
      revert h hr
      generalize opnds E t args.toList = xs
      generalize ats.toList = tys
      intro h hr
      cases b
      case len =>
        cases tys with
        | nil => simp [builtin] at h
        | cons t0 ts =>
          match xs, h, hr with
          | [x], h, hr =>
            simp only [builtin] at h ⊢
            exact pure1 h fun v' h' => len_agree h' (hr x (by simp))
          | [], h, hr => simp [builtin] at h
          | _ :: _ :: _, h, hr => simp [builtin] at h
      case min =>
        cases xs with
        | nil => cases tys <;> simp [builtin] at h
        | cons x r =>
          have e1 : ∀ q, builtin E mu .min tys (x :: r) q = (fold2 min2 x r).map fun v => (v, q) := fun q => by
            unfold builtin; rfl
          rw [e1] at h ⊢
          exact pure1 h fun v' h => h
      case max =>
        cases xs with
        | nil => cases tys <;> simp [builtin] at h
        | cons x r =>
          have e1 : ∀ q, builtin E mu .max tys (x :: r) q = (fold2 max2 x r).map fun v => (v, q) := fun q => by
            unfold builtin; rfl
          rw [e1] at h ⊢
          exact pure1 h fun v' h => h
      all_goals simp [effS] at he
    | value x => cases h
    | invoke a b => cases h
  all_goals cases h
end
end Go.Ev
/- Open orders: new variables before their time. -/
namespace Go.Ev
/-- Two views that tell the same of all that may be named. -/
structure Move (g g' : G) : Prop where
  S : ∀ b i v, g.S b i = some v → g'.S b i = some v
  N : g.N ≤ g'.N
  O : ∀ o, o < g.N → ¬ g.pend o → ¬ g'.pend o ∧ ∀ r, g'.O o = some r → g.O o = some r
mutual
theorem VR.move {g g' : G} (e : Move g g') : ∀ (x : V) (v : Value), VR g x v → VR g' x v
  | .d x, v, h => by simp only [VR] at *; exact h.mono e.S
  | .ptr o hw i j, v, h => by
    simp only [VR] at *
    obtain ⟨h1, h2⟩ := e.O o h.1 h.2.1
    exact ⟨Nat.lt_of_lt_of_le h.1 e.N, h1, h.2.2.1, fun r hr => h.2.2.2 r (h2 r hr)⟩
  | .rp cells, v, h => by
    simp only [VR] at *
    obtain ⟨b, off, h1, h2⟩ := h
    exact ⟨b, off, h1, h2.mono e.S⟩
  | .ms o i n hw cut, v, h => by
    simp only [VR] at *
    obtain ⟨h1, h2⟩ := e.O o h.1 h.2.1
    exact ⟨Nat.lt_of_lt_of_le h.1 e.N, h1, h.2.2.1, fun r hr => h.2.2.2 r (h2 r hr)⟩
  | .os o els, v, h => by
    simp only [VR] at *
    obtain ⟨h1, h2⟩ := e.O o h.1 h.2.1
    exact ⟨Nat.lt_of_lt_of_le h.1 e.N, h1, h.2.2.1, h.2.2.2.1.mono e.S, fun r hr => h.2.2.2.2 r (h2 r hr)⟩
  | .as o hw i j sz n cap, v, h => by
    simp only [VR] at *
    obtain ⟨h1, h2⟩ := e.O o h.1 h.2.1
    exact ⟨Nat.lt_of_lt_of_le h.1 e.N, h1, h.2.2.1, fun r hr => h.2.2.2 r (h2 r hr)⟩
  | .fn f caps, v, h => by
    simp only [VR] at *
    obtain ⟨cvs, h1, h2⟩ := h
    exact ⟨cvs, h1, VRL.move e caps cvs h2⟩
  | .yld o, v, h => by
    simp only [VR] at *
    obtain ⟨h1, h2⟩ := e.O o h.1 h.2.1
    exact ⟨Nat.lt_of_lt_of_le h.1 e.N, h1, h.2.2.1, fun r hr => h.2.2.2 r (h2 r hr)⟩
  | .mp o, v, h => by
    simp only [VR] at *
    obtain ⟨h1, h2⟩ := e.O o h.1 h.2.1
    exact ⟨Nat.lt_of_lt_of_le h.1 e.N, h1, h.2.2.1, fun r hr => h.2.2.2 r (h2 r hr)⟩
  | .ifc t cs, v, h => by
    simp only [VR] at *
    obtain ⟨x, h1, h2⟩ := h
    exact ⟨x, h1, VRL.move e cs _ h2⟩
  | .agg cs, v, h => by
    simp only [VR] at *
    obtain ⟨cvs, h1, h2⟩ := h
    exact ⟨cvs, h1, VRL.move e cs cvs h2⟩
  | .tup cs, v, h => by
    simp only [VR] at *
    obtain ⟨cvs, h1, h2⟩ := h
    exact ⟨cvs, h1, VRL.move e cs cvs h2⟩
  | .nils, v, h => by simp only [VR] at *; exact h
  | .undef, v, h => by simp only [VR]
theorem VRL.move {g g' : G} (e : Move g g') : ∀ (xs : List V) (vs : List Value), VRL g xs vs → VRL g' xs vs
  | [], [], _ => by simp [VRL]
  | x :: xs, v :: vs, h => by
    simp only [VRL] at *
    exact ⟨VR.move e x v h.1, VRL.move e xs vs h.2⟩
  | [], _ :: _, h => by simp [VRL] at h
  | _ :: _, [], h => by simp [VRL] at h
end
theorem ObjR.move {g g' : G} {r : ORec} {w w' : World} {obj : Obj} (e : Move g g') (hS : ∀ k, g'.S r.b k = g.S r.b k) (hb : w'.heap[r.b]? = w.heap[r.b]?) (h : ObjR g r w obj) : ObjR g' r w' obj := by
  cases obj with
  | row els opn =>
    obtain ⟨h1, h2, h3, h4, c, T, fz, h5, h6, h7, h8, h9, h10⟩ := h
    exact ⟨h1, h2, h3, fun k => (hS k).trans (h4 k), c, T, fz, hb.trans h5, h6, h7, h8, fun i row hr j x hx => let ⟨v, k1, k2, k3⟩ := h9 i row hr j x hx; ⟨v, k1, k2, k3.move e⟩, h10⟩
  | tok n e' q =>
    obtain ⟨h1, h2, h2', h3, c, T, fz, h5, h6, h7, h8⟩ := h
    exact ⟨h1, h2, h2', fun k hk => (hS k).trans (h3 k hk), c, T, fz, hb.trans h5, h6, h7, h8⟩
  | loop f t ps a b pend busy =>
    obtain ⟨h1, h2, tm, df, fn, h3, h4⟩ := h
    exact ⟨h1, fun k => (hS k).trans (h2 k), tm, df, fn, VRL.move e _ _ h3, hb.trans h4⟩
  | map es => exact h.elim
/-- Objects that are named, and lie nowhere yet. -/
def G.await (g : G) (n : Nat) : G := { g with N := n, pend := fun o => g.pend o ∨ (g.N ≤ o ∧ o < n) }
theorem move_await {g : G} {n : Nat} (h : g.N ≤ n) : Move g (g.await n) := ⟨fun _ _ _ h => h, h, fun o ho hp => ⟨fun hq => by
  rcases hq with hq | hq
  · exact hp hq
  · omega, fun r hr => hr⟩⟩
theorem Inv.await {g : G} {s s' : St} {w : World} (hI : Inv g s w) (hn : s.next ≤ s'.next) (hh : ∀ o, o < s.next → hget s'.heap o = hget s.heap o) : Inv (g.await s'.next) s' w := by
  have hN : g.N = s.next := hI.N
  refine ⟨rfl, hI.S, fun o obj ho hg => ?_, fun o r h => ?_, hI.inj, hI.lt, hI.gl, fun o h => ?_⟩
  · by_cases hlt : o < s.next
    · rw [hh o hlt] at hg
      rcases hI.live o obj hlt hg with h | ⟨r, h1, h2⟩
      · exact .inl (.inl h)
      · exact .inr ⟨r, h1, h2.move (move_await (by omega)) (fun _ => rfl) rfl⟩
    · exact .inl (.inr ⟨by omega, ho⟩)
  · have := hI.dom o r h; omega
  · rcases h with h | h
    · have := hI.pd o h; omega
    · exact h.2
/-- One of them is laid. -/
def G.lay (g : G) (o : Nat) (r : ORec) : G := { g with O := fun x => if x = o then some r else g.O x, pend := fun x => g.pend x ∧ x ≠ o }
theorem move_lay {g : G} {o : Nat} {r : ORec} (hp : g.pend o) : Move g (g.lay o r) := ⟨fun _ _ _ h => h, Nat.le_refl _, fun x _ hn => ⟨fun hq => hn hq.1, fun r' hr => by
  simp only [G.lay] at hr
  split at hr
  · rename_i he; subst he; exact absurd hp hn
  · exact hr⟩⟩
theorem Inv.lay {g : G} {s : St} {w w' : World} {o : Nat} {r : ORec} {obj : Obj} {o' : Go.Obj} (hI : Inv g s w) (hp : g.pend o) (hg : hget s.heap o = some obj) (hh : w'.heap = w.heap.push o') (hb : r.b = w.heap.size) (hO : g.O o = none) (hobj : ObjR (g.lay o r) r w' obj) : Inv (g.lay o r) s w' := by
  have hk : ∀ b, b < w.heap.size → w'.heap[b]? = w.heap[b]? := fun b hb => Inv.heap_kept hh hb
  refine ⟨hI.N, fun b i v hv => ?_, fun x obj' hx hgx => ?_, fun x r' h => ?_, fun x y rx ry h1 h2 h3 => ?_, fun x r' h => ?_, hI.gl, fun x h => hI.pd x h.1⟩
  · have := hI.S b i v hv
    rw [cell_kept' (hk b (block_of_cell this))]; exact this
  · by_cases hxo : x = o
    · subst hxo
      rw [hg] at hgx; cases hgx
      exact .inr ⟨r, by simp [G.lay], hobj⟩
    · rcases hI.live x obj' hx hgx with h | ⟨r', h1, h2⟩
      · exact .inl ⟨h, hxo⟩
      · exact .inr ⟨r', by simp only [G.lay]; rw [if_neg hxo]; exact h1, h2.move (move_lay hp) (fun _ => rfl) (hk _ (hI.lt x r' h1))⟩
  · simp only [G.lay] at h
    split at h
    · rename_i he; subst he; exact hI.pd x hp
    · exact hI.dom x r' h
  · simp only [G.lay] at h1 h2
    split at h1 <;> split at h2
    · omega
    · cases h1; have := hI.lt y ry h2; omega
    · cases h2; have := hI.lt x rx h1; omega
    · exact hI.inj x y rx ry h1 h2 h3
  · simp only [G.lay] at h
    rw [hh]
    split at h
    · cases h; simp; omega
    · have := hI.lt x r' h; simp; omega

/-! what is looked at goes on -/
theorem clashes_ok {r : Rd} : ∀ {ws : List Wr}, clashes ws r = false → ∀ x, x ∈ ws → clash x r = false
  | y :: ws, h, x, hx => by
    simp only [clashes, Bool.or_eq_false_iff] at h
    rcases List.mem_cons.1 hx with rfl | hx
    · exact h.1
    · exact clashes_ok h.2 x hx
theorem anyIn_ok {ws : List Wr} : ∀ {l : List Rd}, anyIn ws l = false → ∀ r, r ∈ l → clashes ws r = false
  | y :: l, h, r, hr => by
    simp only [anyIn, Bool.or_eq_false_iff] at h
    rcases List.mem_cons.1 hr with rfl | hr
    · exact h.1
    · exact anyIn_ok h.2 r hr
theorem rdsBelow_ok {n : Nat} : ∀ {l : List Rd}, rdsBelow n l = true → ∀ r, r ∈ l → r.obj < n
  | y :: l, h, r, hr => by
    simp only [rdsBelow, Bool.and_eq_true] at h
    rcases List.mem_cons.1 hr with rfl | hr
    · exact blt_iff.1 h.1
    · exact rdsBelow_ok h.2 r hr
theorem Agree.refl (s : St) (r : Rd) : Agree s s r := by
  have hs : ∀ o, ShapeEq s s o := fun o els opn h => ⟨els, opn, h, rfl, fun i row hr => ⟨row, hr, rfl⟩⟩
  cases r with
  | shape o => exact hs o
  | cells o i j n => exact ⟨hs o, fun els opn row h1 h2 => ⟨els, opn, row, h1, h2, fun _ _ _ => rfl⟩⟩
  | all o => rfl
theorem ShapeEq.trans {a b c : St} {o : Nat} (h : ShapeEq a b o) (k : ShapeEq b c o) : ShapeEq a c o := fun els opn hg => by
  obtain ⟨e1, p1, h1, h2, h3⟩ := h els opn hg
  obtain ⟨e2, p2, k1, k2, k3⟩ := k e1 p1 h1
  refine ⟨e2, p2, k1, k2.trans h2, fun i row hr => ?_⟩
  obtain ⟨r1, q1, q2⟩ := h3 i row hr
  obtain ⟨r2, q3, q4⟩ := k3 i r1 q1
  exact ⟨r2, q3, q4.trans q2⟩
theorem Agree.trans {a b c : St} {r : Rd} (h : Agree a b r) (k : Agree b c r) : Agree a c r := by
  cases r with
  | shape o => exact ShapeEq.trans h k
  | cells o i j n =>
    refine ⟨h.1.trans k.1, fun els opn row hg hr => ?_⟩
    obtain ⟨e1, p1, r1, h1, h2, h3⟩ := h.2 els opn row hg hr
    obtain ⟨e2, p2, r2, k1, k2, k3⟩ := k.2 e1 p1 r1 h1 h2
    exact ⟨e2, p2, r2, k1, k2, fun q q1 q2 => (k3 q q1 q2).trans (h3 q q1 q2)⟩
  | all o => exact Eq.trans (show hget c.heap o = hget b.heap o from k) h
theorem Agree.of_keep {s s1 : St} {r : Rd} (hk : Keep s.fresh s1) (ho : r.obj < s.next) (hc : clashes s1.ws r = false) : Agree s s1 r := by
  have hcl := clashes_ok hc
  have shape : ∀ o, o < s.next → (∀ x, x ∈ s1.ws → x.o = o → x.n ≠ 0) → ShapeEq s s1 o := fun o h1 h2 els opn hg => by
    obtain ⟨e1, g1, l1, c1⟩ := hk.cells o h1 h1 h2 els opn hg
    exact ⟨e1, opn, g1, l1, fun i row hr => let ⟨r1, a1, a2, _⟩ := c1 i row hr; ⟨r1, a1, a2⟩⟩
  cases r with
  | shape o =>
    refine shape o ho (fun x hx he hn => ?_)
    have := hcl x hx
    simp [clash, he, hn] at this
  | cells o i j n =>
    have hn : ∀ x, x ∈ s1.ws → x.o = o → x.n ≠ 0 := fun x hx he hn => by
      have := hcl x hx
      simp [clash, he, hn] at this
    refine ⟨shape o ho hn, fun els opn row hg hr => ?_⟩
    obtain ⟨e1, g1, l1, c1⟩ := hk.cells o ho ho hn els opn hg
    obtain ⟨r1, a1, a2, a3⟩ := c1 i row hr
    refine ⟨e1, opn, r1, g1, a1, fun k k1 k2 => a3 k (fun x hx he hi hk' => ?_)⟩
    have := hcl x hx
    have hlt1 : Nat.blt x.j (j + n) = true := blt_iff.2 (by omega)
    have hlt2 : Nat.blt j (x.j + x.n) = true := blt_iff.2 (by omega)
    simp [clash, he, hi, hlt1, hlt2] at this
  | all o =>
    refine hk.keep o ho ho (fun x hx he => ?_)
    have := hcl x hx
    simp [clash, he] at this
end Go.Ev
/- Open orders: what the evaluator has computed, operation by operation. -/
namespace Go.Ev
def upd {α : Type} (f : Nat → α) (k : Nat) (v : α) : Nat → α := fun i => if i = k then v else f i
theorem upd_same {α : Type} (f : Nat → α) (k : Nat) (v : α) : upd f k v k = v := by simp [upd]
theorem upd_ne {α : Type} (f : Nat → α) {k i : Nat} (v : α) (h : i ≠ k) : upd f k v i = f i := by simp [upd, h]
def IsEff (E : Env) (mu : Bool) (ops : Array Oper) (i : Nat) : Prop := ∃ o, ops[i]? = some o ∧ isHoisted o = false ∧ effS E mu o.op = true
/-- Which object a hoisted operation makes. -/
def hsAt : List Oper → List Nat → Nat → Nat
  | [], _, _ => 0
  | o :: r, hs, j => match isHoisted o, j with
    | true, 0 => hs.headD 0
    | true, j + 1 => hsAt r hs.tail j
    | false, 0 => 0
    | false, j + 1 => hsAt r hs j
section
variable (P : Program) (E : Env) (f : FuncId) (ops : Array Oper) (ms : List Nat) (ob : Nat → Nat)
structure Tr where
  t : Nat → List V
  s : Nat → St
  n : Nat → St
  v : Nat → V
  rc : Nat → Rc
def Fact (T : Tr) (i : Nat) : Prop := ∀ o m, ops[i]? = some o → ms[i]? = some m →
  if isHoisted o = true then T.t (i + 1) = T.t i ∧ T.s (i + 1) = T.s i ∧ T.rc i = ⟨o.dst, usesOf ops o, [.all (ob i)], false, [], m, true⟩
  else if effS E (E.mutf f) o.op = true then OneStep P E f ops o (T.t i) (T.s i).fresh (T.v i) (T.n i) ∧ T.s (i + 1) = keepSt (T.s i) (T.n i) ∧ T.t (i + 1) = putDst (T.t i) o.dst (T.v i) ∧ T.rc i = ⟨o.dst, usesOf ops o, [], true, (T.n i).ws, m, false⟩
  else ∃ p rds, p ≤ i ∧ stillOp E (E.mutf f) ops o (T.t i) (T.s p) = some (T.v i, rds) ∧ (∀ e, e < i → IsEff E (E.mutf f) ops e → bitOf m e = true → e < p) ∧ (p = 0 ∨ ∃ q, p = q + 1 ∧ IsEff E (E.mutf f) ops q ∧ bitOf m q = true) ∧
    T.s (i + 1) = T.s i ∧ T.t (i + 1) = putDst (T.t i) o.dst (T.v i) ∧ T.rc i = ⟨o.dst, usesOf ops o, rds, false, [], m, false⟩
def Hist (T : Tr) (k : Nat) (H : List (Nat × St)) : Prop := ∀ m, ∃ p, p ≤ k ∧ stateAt (T.s 0) m H = T.s p ∧ (∀ e, e < k → IsEff E (E.mutf f) ops e → bitOf m e = true → e < p) ∧ (p = 0 ∨ ∃ q, p = q + 1 ∧ IsEff E (E.mutf f) ops q ∧ bitOf m q = true)
end
section
variable {R : Type} {P : Program} {E : Env} {ev : Evs R} (hev : Sound P E ev) {f : FuncId} {ops : Array Oper} {ms : List Nat} {ob : Nat → Nat}
/-- One operation more. -/
def Tr.next (T : Tr) (k : Nat) (t : List V) (s n : St) (v : V) (rc : Rc) : Tr := ⟨upd T.t (k + 1) t, upd T.s (k + 1) s, upd T.n k n, upd T.v k v, upd T.rc k rc⟩
theorem Fact.next {T : Tr} {k : Nat} {t : List V} {s n : St} {v : V} {rc : Rc} {i : Nat} (hi : i < k) (h : Fact P E f ops ms ob T i) : Fact P E f ops ms ob (T.next k t s n v rc) i := by
  intro o m ho hm
  have := h o m ho hm
  simp only [Tr.next, upd_ne _ _ (show i ≠ k + 1 by omega), upd_ne _ _ (show i + 1 ≠ k + 1 by omega), upd_ne _ _ (show i ≠ k by omega)]
  split
  · rename_i hh; rw [if_pos hh] at this; exact this
  · rename_i hh
    rw [if_neg hh] at this
    split
    · rename_i he; rw [if_pos he] at this; exact this
    · rename_i he
      rw [if_neg he] at this
      obtain ⟨p, rds, h1, h2⟩ := this
      exact ⟨p, rds, h1, by rw [upd_ne _ _ (show p ≠ k + 1 by omega)]; exact h2⟩
theorem Hist.next_same {T : Tr} {k : Nat} {t : List V} {n : St} {v : V} {rc : Rc} {H : List (Nat × St)} (h : Hist E f ops T k H) (he : ¬ IsEff E (E.mutf f) ops k) (s : St) : Hist E f ops (T.next k t s n v rc) (k + 1) H := by
  intro m
  obtain ⟨p, h1, h2, h3, h4⟩ := h m
  refine ⟨p, by omega, ?_, fun e hlt hE hb => ?_, h4⟩
  · simp only [Tr.next]; rw [upd_ne _ _ (show 0 ≠ k + 1 by omega), upd_ne _ _ (show p ≠ k + 1 by omega)]; exact h2
  · by_cases hek : e = k
    · subst hek; exact absurd hE he
    · exact h3 e (by omega) hE hb
theorem Hist.next_eff {T : Tr} {k : Nat} {t : List V} {n : St} {v : V} {rc : Rc} {H : List (Nat × St)} (h : Hist E f ops T k H) (he : IsEff E (E.mutf f) ops k) (s : St) : Hist E f ops (T.next k t s n v rc) (k + 1) ((k, s) :: H) := by
  intro m
  simp only [stateAt]
  cases hb : bitOf m k with
  | true =>
    refine ⟨k + 1, Nat.le_refl _, ?_, fun e hlt _ _ => hlt, .inr ⟨k, rfl, he, hb⟩⟩
    simp only [Tr.next, cond_true]; rw [upd_same]
  | false =>
    obtain ⟨p, h1, h2, h3, h4⟩ := h m
    refine ⟨p, by omega, ?_, fun e hlt hE hbe => ?_, h4⟩
    · simp only [Tr.next, cond_false]; rw [upd_ne _ _ (show 0 ≠ k + 1 by omega), upd_ne _ _ (show p ≠ k + 1 by omega)]; exact h2
    · by_cases hek : e = k
      · subst hek; rw [hb] at hbe; cases hbe
      · exact h3 e (by omega) hE hbe
include hev
theorem runDraw_facts {K : List V → St → Option R} {r : R} : ∀ (rest : List Oper) (ms' hs : List Nat) (k : Nat) (H : List (Nat × St)) (rs : List Rc) (t : List V) (s : St) (T : Tr),
    (∀ j, rest[j]? = ops[k + j]?) → (∀ j, ms'[j]? = ms[k + j]?) → (∀ j, (∀ o, rest[j]? = some o → isHoisted o = true → hsAt rest hs j = ob (k + j))) → T.t k = t → T.s k = s → rs = (List.range k).map T.rc →
    (∀ i, i < k → Fact P E f ops ms ob T i) → Hist E f ops T k H → runDraw E ev f ops K (T.s 0) rest ms' hs k H rs t s = some r →
    ∃ T' : Tr, T'.t 0 = T.t 0 ∧ T'.s 0 = T.s 0 ∧ (∀ i, i < k + rest.length → Fact P E f ops ms ob T' i) ∧ allOk ((List.range (k + rest.length)).map T'.rc) 0 ((List.range (k + rest.length)).map T'.rc) = true ∧ K (T'.t (k + rest.length)) (T'.s (k + rest.length)) = some r
  | [], ms', hs, k, H, rs, t, s, T, _, _, _, ht, hs', hrs, hF, _, h => by
    simp only [runDraw] at h
    cases ha : allOk rs 0 rs with
    | false => simp [ha] at h
    | true =>
      simp only [ha, cond_true] at h
      subst hrs; subst ht; subst hs'
      exact ⟨T, rfl, rfl, hF, ha, h⟩
  | o :: rest, [], hs, k, H, rs, t, s, T, _, _, _, _, _, _, _, _, h => by simp [runDraw] at h
  | o :: rest, m :: ms', hs, k, H, rs, t, s, T, hops, hms, hob, ht, hs', hrs, hF, hH, h => by
    have ho : ops[k]? = some o := by have := hops 0; simpa using this.symm
    have hm : ms[k]? = some m := by have := hms 0; simpa using this.symm
    have hops' : ∀ j, rest[j]? = ops[k + 1 + j]? := fun j => by have := hops (j + 1); rw [List.getElem?_cons_succ] at this; rw [this]; congr 1; omega
    have hms' : ∀ j, ms'[j]? = ms[k + 1 + j]? := fun j => by have := hms (j + 1); rw [List.getElem?_cons_succ] at this; rw [this]; congr 1; omega
    have hlen : k + 1 + rest.length = k + (o :: rest).length := by simp; omega
    have wrap : ∀ (T1 : Tr) (hs1 : List Nat) (H1 : List (Nat × St)) (rs1 : List Rc) (t1 : List V) (s1 : St), T1.t 0 = T.t 0 → T1.s 0 = T.s 0 → (∀ j, (∀ o, rest[j]? = some o → isHoisted o = true → hsAt rest hs1 j = ob (k + 1 + j))) → T1.t (k + 1) = t1 → T1.s (k + 1) = s1 →
        rs1 = (List.range (k + 1)).map T1.rc → (∀ i, i < k + 1 → Fact P E f ops ms ob T1 i) → Hist E f ops T1 (k + 1) H1 → runDraw E ev f ops K (T.s 0) rest ms' hs1 (k + 1) H1 rs1 t1 s1 = some r →
        ∃ T' : Tr, T'.t 0 = T.t 0 ∧ T'.s 0 = T.s 0 ∧ (∀ i, i < k + (o :: rest).length → Fact P E f ops ms ob T' i) ∧ allOk ((List.range (k + (o :: rest).length)).map T'.rc) 0 ((List.range (k + (o :: rest).length)).map T'.rc) = true ∧ K (T'.t (k + (o :: rest).length)) (T'.s (k + (o :: rest).length)) = some r := by
      intro T1 hs1 H1 rs1 t1 s1 e1 e2 e3 e4 e5 e6 e7 e8 e9
      rw [← e2] at e9
      obtain ⟨T', q1, q2, q3, q4, q5⟩ := runDraw_facts rest ms' hs1 (k + 1) H1 rs1 t1 s1 T1 hops' hms' e3 e4 e5 e6 e7 e8 e9
      rw [hlen] at q3 q4 q5
      exact ⟨T', q1.trans e1, q2.trans e2, q3, q4, q5⟩
    have hrange : ∀ (t1 : List V) (s1 n1 : St) (v1 : V) (rc1 : Rc), rs ++ [rc1] = (List.range (k + 1)).map (T.next k t1 s1 n1 v1 rc1).rc := fun t1 s1 n1 v1 rc1 => by
      rw [List.range_succ, List.map_append, hrs]
      congr 1
      · refine List.map_congr_left fun i hi => ?_
        have := List.mem_range.1 hi
        simp only [Tr.next]; rw [upd_ne _ _ (by omega)]
      · simp [Tr.next, upd_same]
    have base : ∀ (t1 : List V) (s1 n1 : St) (v1 : V) (rc1 : Rc), (T.next k t1 s1 n1 v1 rc1).t 0 = T.t 0 ∧ (T.next k t1 s1 n1 v1 rc1).s 0 = T.s 0 ∧ (T.next k t1 s1 n1 v1 rc1).t (k + 1) = t1 ∧ (T.next k t1 s1 n1 v1 rc1).s (k + 1) = s1 ∧ (T.next k t1 s1 n1 v1 rc1).t k = t ∧ (T.next k t1 s1 n1 v1 rc1).s k = s ∧
        (T.next k t1 s1 n1 v1 rc1).n k = n1 ∧ (T.next k t1 s1 n1 v1 rc1).v k = v1 ∧ (T.next k t1 s1 n1 v1 rc1).rc k = rc1 := fun t1 s1 n1 v1 rc1 => by
      simp only [Tr.next]
      refine ⟨upd_ne _ _ (by omega), upd_ne _ _ (by omega), upd_same _ _ _, upd_same _ _ _, ?_, ?_, upd_same _ _ _, upd_same _ _ _, upd_same _ _ _⟩
      · rw [upd_ne _ _ (by omega)]; exact ht
      · rw [upd_ne _ _ (by omega)]; exact hs'
    simp only [runDraw] at h
    cases hh : isHoisted o with
    | true =>
      simp only [hh, cond_true] at h
      cases hs with
      | nil => cases h
      | cons p hs =>
        simp only at h
        have hp : p = ob k := by
          have := hob 0 o rfl hh
          simpa [hsAt, hh] using this
        subst hp
        obtain ⟨b1, b2, b3, b4, b5, b6, b7, b8, b9⟩ := base t s (T.n k) (T.v k) ⟨o.dst, usesOf ops o, [.all (ob k)], false, [], m, true⟩
        refine wrap (T.next k t s (T.n k) (T.v k) ⟨o.dst, usesOf ops o, [.all (ob k)], false, [], m, true⟩) hs H _ t s b1 b2 (fun j o' h1 h2 => ?_) b3 b4 (hrange _ _ _ _ _) (fun i hi => ?_) (hH.next_same ?_ s) h
        · have := hob (j + 1) o' (by simpa using h1) h2
          simp only [hsAt, hh, List.tail_cons] at this
          rw [this]; congr 1; omega
        · by_cases hik : i = k
          · subst hik
            intro o' m' ho' hm'
            rw [ho] at ho'; cases ho'
            rw [hm] at hm'; cases hm'
            rw [if_pos hh, b3, b4, b5, b6, b9]
            exact ⟨rfl, rfl, rfl⟩
          · exact (hF i (by omega)).next (by omega)
        · rintro ⟨o', h1, h2, _⟩
          rw [ho] at h1; cases h1
          rw [hh] at h2; cases h2
    | false =>
      simp only [hh, cond_false] at h
      have hobn : ∀ j, (∀ o, rest[j]? = some o → isHoisted o = true → hsAt rest hs j = ob (k + 1 + j)) := fun j o' h1 h2 => by
        have := hob (j + 1) o' (by simpa using h1) h2
        simp only [hsAt, hh] at this
        rw [this]; congr 1; omega
      cases he : effS E (E.mutf f) o.op with
      | true =>
        simp only [he, cond_true] at h
        obtain ⟨v, s1, h1, h2⟩ := oneOp_step hev h
        obtain ⟨b1, b2, b3, b4, b5, b6, b7, b8, b9⟩ := base (putDst t o.dst v) (keepSt s s1) s1 v ⟨o.dst, usesOf ops o, [], true, s1.ws, m, false⟩
        refine wrap (T.next k (putDst t o.dst v) (keepSt s s1) s1 v ⟨o.dst, usesOf ops o, [], true, s1.ws, m, false⟩) hs _ _ _ _ b1 b2 hobn b3 b4 (hrange _ _ _ _ _) (fun i hi => ?_) (hH.next_eff ⟨o, ho, hh, he⟩ _) h1
        by_cases hik : i = k
        · subst hik
          intro o' m' ho' hm'
          rw [ho] at ho'; cases ho'
          rw [hm] at hm'; cases hm'
          rw [if_neg (by rw [hh]; simp), if_pos he, b3, b4, b5, b6, b7, b8, b9]
          exact ⟨h2, rfl, rfl, rfl⟩
        · exact (hF i (by omega)).next (by omega)
      | false =>
        simp only [he, cond_false] at h
        split at h
        · rename_i v rds hst
          obtain ⟨b1, b2, b3, b4, b5, b6, b7, b8, b9⟩ := base (putDst t o.dst v) s (T.n k) v ⟨o.dst, usesOf ops o, rds, false, [], m, false⟩
          refine wrap (T.next k (putDst t o.dst v) s (T.n k) v ⟨o.dst, usesOf ops o, rds, false, [], m, false⟩) hs _ _ _ _ b1 b2 hobn b3 b4 (hrange _ _ _ _ _) (fun i hi => ?_) (hH.next_same ?_ s) h
          · by_cases hik : i = k
            · subst hik
              intro o' m' ho' hm'
              rw [ho] at ho'; cases ho'
              rw [hm] at hm'; cases hm'
              rw [if_neg (by rw [hh]; simp), if_neg (by rw [he]; simp), b3, b4, b5, b6, b8, b9]
              obtain ⟨p, q1, q2, q3, q4⟩ := hH m
              refine ⟨p, rds, q1, ?_, q3, q4, rfl, rfl, rfl⟩
              simp only [Tr.next]; rw [upd_ne _ _ (show p ≠ i + 1 by omega), ← q2]; exact hst
            · exact (hF i (by omega)).next (by omega)
          · rintro ⟨o', h1, _, h2⟩
            rw [ho] at h1; cases h1
            rw [he] at h2; cases h2
        · cases h
end
end Go.Ev
/- Open orders: temporaries; new variables. -/
namespace Go.Ev
theorem tget_getD : ∀ (t : List V) (u : Nat), tget t u = t.getD u .undef
  | [], u => by simp [tget]
  | x :: t, 0 => rfl
  | x :: t, u + 1 => by simp [tget, tget_getD t u]
theorem putDst_len (t : List V) (dst : Option Tmp) (v : V) : (putDst t dst v).length = t.length := by
  cases dst <;> simp [putDst, tset_eq]
theorem tget_put (t : List V) (dst : Option Tmp) (v : V) (u : Nat) : tget (putDst t dst v) u = if dst = some u ∧ u < t.length then v else tget t u := by
  cases dst with
  | none => simp [putDst]
  | some d =>
    simp only [putDst, tset_eq, tget_getD, List.getD_eq_getElem?_getD, List.getElem?_set]
    by_cases hd : d = u
    · subst hd
      by_cases hl : d < t.length
      · simp [hl]
      · simp [hl]
    · simp [hd]
def Temps (ops : Array Oper) (vh : Nat → V) (t0 : List V) (l : Nat → Prop) (t : List V) : Prop :=
  t.length = t0.length ∧ (∀ (j : Nat) (o : Oper) (d : Tmp), ops[j]? = some o → l j → o.dst = some d → d < t0.length → tget t d = vh j) ∧ (∀ u, (∀ (j : Nat) (o : Oper), ops[j]? = some o → l j → o.dst ≠ some u) → tget t u = tget t0 u)
def Distinct (ops : Array Oper) : Prop := ∀ (j j' : Nat) (o o' : Oper) (d : Tmp), ops[j]? = some o → ops[j']? = some o' → o.dst = some d → o'.dst = some d → j = j'
theorem Temps.put {ops : Array Oper} {vh : Nat → V} {t0 t : List V} {l : Nat → Prop} (hd : Distinct ops) (h : Temps ops vh t0 l t) {i : Nat} {o : Oper} (ho : ops[i]? = some o) (hi : ¬ l i) : Temps ops vh t0 (fun j => l j ∨ j = i) (putDst t o.dst (vh i)) := by
  obtain ⟨h1, h2, h3⟩ := h
  refine ⟨by rw [putDst_len]; exact h1, fun j o' d ho' hl hd' hlt => ?_, fun u hu => ?_⟩
  · rw [tget_put]
    rcases hl with hl | rfl
    · have hne : o.dst ≠ some d := fun he => hi (by have := hd i j o o' d ho ho' he hd'; rw [this]; exact hl)
      rw [if_neg (fun h => hne h.1)]
      exact h2 j o' d ho' hl hd' hlt
    · rw [ho] at ho'; cases ho'
      rw [if_pos ⟨hd', by rw [h1]; exact hlt⟩]
  · rw [tget_put, if_neg (fun h => hu i o ho (.inr rfl) h.1)]
    exact h3 u (fun j o' ho' hl => hu j o' ho' (.inl hl))
theorem Temps.congr {ops : Array Oper} {vh : Nat → V} {t0 t : List V} {l l' : Nat → Prop} (h : Temps ops vh t0 l t) (hl : ∀ (j : Nat) (o : Oper), ops[j]? = some o → (l j ↔ l' j)) : Temps ops vh t0 l' t :=
  ⟨h.1, fun j o d ho hl' hd hlt => h.2.1 j o d ho ((hl j o ho).2 hl') hd hlt, fun u hu => h.2.2 u (fun j o ho hlj => hu j o ho ((hl j o ho).1 hlj))⟩
theorem Temps.eq {ops : Array Oper} {vh : Nat → V} {t0 t t' : List V} {l : Nat → Prop} (h : Temps ops vh t0 l t) (h' : Temps ops vh t0 l t') : t = t' := by
  have key : ∀ u, u < t0.length → tget t u = tget t' u := fun u hu => by
    by_cases hx : ∃ (j : Nat) (o : Oper), ops[j]? = some o ∧ l j ∧ o.dst = some u
    · obtain ⟨j, o, h1, h2, h3⟩ := hx
      rw [h.2.1 j o u h1 h2 h3 hu, h'.2.1 j o u h1 h2 h3 hu]
    · have hn : ∀ (j : Nat) (o : Oper), ops[j]? = some o → l j → o.dst ≠ some u := fun j o h1 h2 h3 => hx ⟨j, o, h1, h2, h3⟩
      rw [h.2.2 u hn, h'.2.2 u hn]
  apply List.ext_getElem?
  intro u
  have hl : t.length = t'.length := h.1.trans h'.1.symm
  by_cases hu : u < t.length
  · have := key u (by rw [← h.1]; exact hu)
    simp only [tget_getD, List.getD_eq_getElem?_getD] at this
    rw [List.getElem?_eq_getElem hu, List.getElem?_eq_getElem (hl ▸ hu)] at this ⊢
    simpa using this
  · rw [List.getElem?_eq_none (by omega), List.getElem?_eq_none (by omega)]

/-- What the first pass has made. -/
structure Hoisted (E : Env) (rest : List Oper) (t : List V) (s : St) (t2 : List V) (s2 : St) (hs : List Nat) : Prop where
  next : s.next ≤ s2.next
  keep : Keep s s2
  old : ∀ o, o < s.next → hget s2.heap o = hget s.heap o
  len : t2.length = t.length
  made : ∀ (j : Nat) (o : Oper), rest[j]? = some o → isHoisted o = true → s.next ≤ hsAt rest hs j ∧ hsAt rest hs j < s2.next ∧ ∃ e ti d, o.op = .alloc e ∧ o.guard = none ∧ o.dst = some d ∧ E.ti e = some ti ∧ ti.zero.length = ti.size ∧ 1 ≤ ti.size ∧ allOne ti.zero = true ∧ hget s2.heap (hsAt rest hs j) = some (.row [ti.zero] ⟨e, false⟩)
  inj : ∀ (j j' : Nat) (o o' : Oper), rest[j]? = some o → rest[j']? = some o' → isHoisted o = true → isHoisted o' = true → hsAt rest hs j = hsAt rest hs j' → j = j'
  onto : ∀ x, s.next ≤ x → x < s2.next → ∃ (j : Nat) (o : Oper), rest[j]? = some o ∧ isHoisted o = true ∧ hsAt rest hs j = x
  put : ∀ (j : Nat) (o : Oper) (d : Tmp), rest[j]? = some o → isHoisted o = true → o.dst = some d → d < t.length → (∀ (j' : Nat) (o' : Oper), rest[j']? = some o' → o'.dst = some d → j' = j) → tget t2 d = .ptr (hsAt rest hs j) 1 0 0
  same : ∀ u, (∀ (j : Nat) (o : Oper), rest[j]? = some o → isHoisted o = true → o.dst ≠ some u) → tget t2 u = tget t u
theorem isHoisted_spec {o : Oper} (h : isHoisted o = true) : ∃ e d, o.op = .alloc e ∧ o.guard = none ∧ o.dst = some d := by
  unfold isHoisted at h
  split at h
  · rename_i e d h1 h2 h3; exact ⟨e, d, h2, h1, h3⟩
  · cases h
theorem hoist_ok {E : Env} : ∀ {rest : List Oper} {t t2 : List V} {s s2 : St} {hs : List Nat}, hoist E rest t s = some (t2, s2, hs) → Hoisted E rest t s t2 s2 hs
  | [], t, t2, s, s2, hs, h => by
    simp only [hoist, Option.some.injEq, Prod.mk.injEq] at h
    obtain ⟨rfl, rfl, rfl⟩ := h
    exact ⟨Nat.le_refl _, .refl _, fun _ _ => rfl, rfl, fun j o h => by simp at h, fun j j' o o' h => by simp at h, fun x h1 h2 => by omega, fun j o d h => by simp at h, fun _ _ => rfl⟩
  | o :: rest, t, t2, s, s2, hs, h => by
    simp only [hoist] at h
    cases hh : isHoisted o with
    | false =>
      simp only [hh, cond_false] at h
      have ih := hoist_ok h
      have hat : ∀ j, hsAt (o :: rest) hs (j + 1) = hsAt rest hs j := fun j => by simp [hsAt, hh]
      refine ⟨ih.next, ih.keep, ih.old, ih.len, fun j o' h1 h2 => ?_, fun j j' o1 o2 h1 h2 h3 h4 h5 => ?_, fun x h1 h2 => ?_, fun j o' d h1 h2 h3 h4 h5 => ?_, fun u hu => ?_⟩
      · cases j with
        | zero => simp at h1; subst h1; rw [hh] at h2; cases h2
        | succ j => rw [hat]; exact ih.made j o' (by simpa using h1) h2
      · cases j with
        | zero => simp at h1; subst h1; rw [hh] at h3; cases h3
        | succ j =>
          cases j' with
          | zero => simp at h2; subst h2; rw [hh] at h4; cases h4
          | succ j' => rw [hat, hat] at h5; rw [ih.inj j j' o1 o2 (by simpa using h1) (by simpa using h2) h3 h4 h5]
      · obtain ⟨j, o', q1, q2, q3⟩ := ih.onto x h1 h2
        exact ⟨j + 1, o', by simpa using q1, q2, by rw [hat]; exact q3⟩
      · cases j with
        | zero => simp at h1; subst h1; rw [hh] at h2; cases h2
        | succ j =>
          rw [hat]
          refine ih.put j o' d (by simpa using h1) h2 h3 h4 (fun j' o2 q1 q2 => ?_)
          have := h5 (j' + 1) o2 (by simpa using q1) q2; omega
      · exact ih.same u (fun j o' q1 q2 => hu (j + 1) o' (by simpa using q1) q2)
    | true =>
      simp only [hh, cond_true] at h
      obtain ⟨e, d, ho, hg, hd⟩ := isHoisted_spec hh
      split at h
      · rename_i v s1 hop
        rw [ho] at hop
        simp only [op] at hop
        split at hop
        · rename_i ti hti
          cases hc : (Nat.beq ti.zero.length ti.size && Nat.ble 1 ti.size && allOne ti.zero) with
          | false => simp [hc] at hop
          | true =>
            simp only [hc, cond_true, Option.some.injEq, Prod.mk.injEq] at hop
            obtain ⟨rfl, rfl⟩ := hop
            simp only [Bool.and_eq_true] at hc
            obtain ⟨⟨c1, c2⟩, c3⟩ := hc
            split at h
            · rename_i t3 s3 hs3 hr
              simp only [Option.some.injEq, Prod.mk.injEq] at h
              obtain ⟨rfl, rfl, rfl⟩ := h
              have ih := hoist_ok hr
              have hn1 : (s.push (.row [ti.zero] ⟨e, false⟩)).next = s.next + 1 := rfl
              have hnx := ih.next
              rw [hn1] at hnx
              have hat : ∀ j, hsAt (o :: rest) (s.next :: hs3) (j + 1) = hsAt rest hs3 j := fun j => by simp [hsAt, hh]
              have hat0 : hsAt (o :: rest) (s.next :: hs3) 0 = s.next := by simp [hsAt, hh]
              refine ⟨by omega, (Keep.push s _).trans ih.keep, fun x hx => ?_, by rw [ih.len, putDst_len], fun j o' h1 h2 => ?_, fun j j' o1 o2 h1 h2 h3 h4 h5 => ?_, fun x h1 h2 => ?_, fun j o' d' h1 h2 h3 h4 h5 => ?_, fun u hu => ?_⟩
              · rw [ih.old x (by rw [hn1]; omega)]; exact hget_push (by omega)
              · cases j with
                | zero =>
                  simp at h1; subst h1
                  rw [hat0]
                  exact ⟨Nat.le_refl _, by omega, e, ti, d, ho, hg, hd, hti, nbeq_iff.1 c1, ble_iff.1 c2, c3, by rw [ih.old _ (by rw [hn1]; omega)]; exact hget_push_new⟩
                | succ j =>
                  rw [hat]
                  obtain ⟨q1, q2⟩ := ih.made j o' (by simpa using h1) h2
                  rw [hn1] at q1
                  exact ⟨by omega, q2⟩
              · cases j with
                | zero =>
                  cases j' with
                  | zero => rfl
                  | succ j' =>
                    rw [hat0, hat] at h5
                    have := (ih.made j' o2 (by simpa using h2) h4).1
                    rw [hn1] at this; omega
                | succ j =>
                  cases j' with
                  | zero =>
                    rw [hat0, hat] at h5
                    have := (ih.made j o1 (by simpa using h1) h3).1
                    rw [hn1] at this; omega
                  | succ j' => rw [hat, hat] at h5; rw [ih.inj j j' o1 o2 (by simpa using h1) (by simpa using h2) h3 h4 h5]
              · by_cases hx : x = s.next
                · exact ⟨0, o, rfl, hh, by rw [hat0]; exact hx.symm⟩
                · obtain ⟨j, o', q1, q2, q3⟩ := ih.onto x (by rw [hn1]; omega) h2
                  exact ⟨j + 1, o', by simpa using q1, q2, by rw [hat]; exact q3⟩
              · cases j with
                | zero =>
                  simp at h1; subst h1
                  rw [hat0]
                  rw [ih.same d' (fun j' o2 q1 _ q3 => by have := h5 (j' + 1) o2 (by simpa using q1) q3; omega), tget_put, if_pos ⟨h3, h4⟩]
                | succ j =>
                  rw [hat]
                  refine ih.put j o' d' (by simpa using h1) h2 h3 (by rw [putDst_len]; exact h4) (fun j' o2 q1 q2 => ?_)
                  have := h5 (j' + 1) o2 (by simpa using q1) q2; omega
              · rw [ih.same u (fun j o' q1 q2 => hu (j + 1) o' (by simpa using q1) q2), tget_put, if_neg (fun hq => hu 0 o rfl hh hq.1)]
            · cases h
        · cases hop
      · cases h
end Go.Ev
/- Open orders: what comes up sees what the evaluator saw. -/
namespace Go.Ev
def G.setPend (g : G) (p : Nat → Prop) : G := { g with pend := p }
theorem Ext.setPend {g g' : G} {W : Nat} (e : Ext W g g') (p : Nat → Prop) : Ext W (g.setPend p) (g'.setPend p) := ⟨e.S, e.new, e.O, e.blk, e.N, rfl, e.gl⟩
section
variable {P : Program} {E : Env} (hE : EnvOK P E) {f : FuncId} {ops : Array Oper} {ms : List Nat} {t t0 : List V} {sS s0 : St} {hs : List Nat} {T : Tr}
def HJ (ops : Array Oper) (j : Nat) : Prop := ∃ o, ops[j]? = some o ∧ isHoisted o = true
def vhOf (ops : Array Oper) (hs : List Nat) (T : Tr) (i : Nat) : V := match ops[i]? with
  | some o => if isHoisted o = true then .ptr (hsAt ops.toList hs i) 1 0 0 else T.v i
  | none => .undef
variable (hM : MasksOK ops.toList ms) (hH : Hoisted E ops.toList t sS t0 s0 hs) (hT0 : T.t 0 = t0) (hS0 : T.s 0 = s0)
  (hF : ∀ i, i < ops.size → Fact P E f ops ms (hsAt ops.toList hs) T i) (hA : allOk ((List.range ops.size).map T.rc) 0 ((List.range ops.size).map T.rc) = true)
theorem not_both {o : Oper} {j : Nat} {mu : Bool} (ho : ops[j]? = some o) (h : IsEff E mu ops j) : isHoisted o = false ∧ effS E mu o.op = true := by
  obtain ⟨o', h1, h2, h3⟩ := h
  rw [ho] at h1; cases h1; exact ⟨h2, h3⟩
include hM hF
theorem rc_at {i : Nat} {o : Oper} (ho : ops[i]? = some o) : ∃ m, ms[i]? = some m ∧ (T.rc i).dst = o.dst ∧ (T.rc i).uses = usesOf ops o ∧ (T.rc i).mask = m ∧ (T.rc i).hst = isHoisted o ∧ ((T.rc i).eff = true ↔ IsEff E (E.mutf f) ops i) ∧
    (IsEff E (E.mutf f) ops i → (T.rc i).ws = (T.n i).ws) ∧ (isHoisted o = true → (T.rc i).reads = [.all (hsAt ops.toList hs i)] ∧ (T.rc i).eff = false) := by
  have hi : i < ops.size := (Array.getElem?_eq_some_iff.1 ho).1
  have him : i < ms.length := by rw [hM.len]; simpa using hi
  have hm := List.getElem?_eq_getElem him
  refine ⟨ms[i], hm, ?_⟩
  have hf := hF i hi o _ ho hm
  cases hh : isHoisted o with
  | true =>
    rw [if_pos hh] at hf
    obtain ⟨_, _, h3⟩ := hf
    rw [h3]
    refine ⟨rfl, rfl, rfl, rfl, ⟨fun h => (by cases h), fun h => ?_⟩, fun h => ?_, fun _ => ⟨rfl, rfl⟩⟩
    · have := (not_both ho h).1; rw [hh] at this; cases this
    · have := (not_both ho h).1; rw [hh] at this; cases this
  | false =>
    rw [if_neg (by rw [hh]; simp)] at hf
    cases he : effS E (E.mutf f) o.op with
    | true =>
      rw [if_pos he] at hf
      obtain ⟨_, _, _, h3⟩ := hf
      rw [h3]
      exact ⟨rfl, rfl, rfl, rfl, ⟨fun _ => ⟨o, ho, hh, he⟩, fun _ => rfl⟩, fun _ => rfl, fun h => (by cases h)⟩
    | false =>
      rw [if_neg (by rw [he]; simp)] at hf
      obtain ⟨p, rds, _, _, _, _, _, _, h3⟩ := hf
      rw [h3]
      refine ⟨rfl, rfl, rfl, rfl, ⟨fun h => (by cases h), fun h => ?_⟩, fun h => ?_, fun h => by cases h⟩
      · have := (not_both ho h).2; rw [he] at this; cases this
      · have := (not_both ho h).2; rw [he] at this; cases this
omit hM hF in
include hA in
theorem pair_at {i j : Nat} (hi : i < ops.size) (hj : j < ops.size) (hij : i ≠ j) : PairOK i j (T.rc i) (T.rc j) := by
  have h1 : ((List.range ops.size).map T.rc)[i]? = some (T.rc i) := by rw [List.getElem?_map, List.getElem?_range hi]; rfl
  have h2 : ((List.range ops.size).map T.rc)[j]? = some (T.rc j) := by rw [List.getElem?_map, List.getElem?_range hj]; rfl
  have := allOk_get hA i _ h1 j _ h2
  rw [Nat.zero_add] at this
  exact pairOk_ok hij this
include hA
theorem distinct : Distinct ops := by
  intro j j' o o' d h1 h2 h3 h4
  by_cases hjj : j = j'
  · exact hjj
  · have hp := pair_at (T := T) hA (Array.getElem?_eq_some_iff.1 h1).1 (Array.getElem?_eq_some_iff.1 h2).1 hjj
    obtain ⟨_, _, q1, _⟩ := rc_at hM hF h1
    obtain ⟨_, _, q2, _⟩ := rc_at hM hF h2
    exact absurd (q2.trans h4) (hp.dst d (q1.trans h3))
include hH hT0
theorem canon_temps : ∀ i, i ≤ ops.size → Temps ops (vhOf ops hs T) t (fun j => j < i ∨ HJ ops j) (T.t i) := by
  have hD := distinct hM hF hA
  intro i
  induction i with
  | zero =>
    intro _
    rw [hT0]
    refine ⟨hH.len, fun j o d ho hl hd hlt => ?_, fun u hu => ?_⟩
    · rcases hl with hl | ⟨o', ho', hh⟩
      · omega
      · rw [ho] at ho'; cases ho'
        have hol : ops.toList[j]? = some o := by simpa using ho
        rw [hH.put j o d hol hh hd hlt (fun j' o' q1 q2 => hD j' j o' o d (by simpa using q1) ho q2 hd)]
        simp [vhOf, ho, hh]
    · exact hH.same u (fun j o q1 q2 => hu j o (by simpa using q1) (.inr ⟨o, by simpa using q1, q2⟩))
  | succ i ih =>
    intro hi
    have ih := ih (by omega)
    have hlt : i < ops.size := by omega
    have ho := Array.getElem?_eq_getElem hlt
    have him : i < ms.length := by rw [hM.len]; simpa using hlt
    have hf := hF i hlt _ _ ho (List.getElem?_eq_getElem him)
    cases hh : isHoisted ops[i] with
    | true =>
      rw [if_pos hh] at hf
      rw [hf.1]
      refine ih.congr (fun j o hj => ⟨fun h => h.imp (fun h => by omega) id, fun h => ?_⟩)
      rcases h with h | h
      · by_cases hji : j = i
        · subst hji; exact .inr ⟨_, ho, hh⟩
        · exact .inl (by omega)
      · exact .inr h
    | false =>
      have hnot : ¬ (i < i ∨ HJ ops i) := by
        rintro (h | ⟨o', h1, h2⟩)
        · omega
        · rw [ho] at h1; cases h1; rw [hh] at h2; cases h2
      have hput := ih.put hD ho hnot
      have hvh : vhOf ops hs T i = T.v i := by simp [vhOf, ho, hh]
      rw [hvh] at hput
      have ht : T.t (i + 1) = putDst (T.t i) ops[i].dst (T.v i) := by
        rw [if_neg (by rw [hh]; simp)] at hf
        split at hf
        · exact hf.2.2.1
        · obtain ⟨p, rds, _, _, _, _, _, h, _⟩ := hf; exact h
      rw [ht]
      refine hput.congr (fun j o hj => ?_)
      constructor
      · rintro ((h | h) | h)
        · exact .inl (by omega)
        · exact .inr h
        · exact .inl (by omega)
      · rintro (h | h)
        · by_cases hji : j = i
          · exact .inr hji
          · exact .inl (.inl (by omega))
        · exact .inl (.inr h)
omit hM hH hT0 hA in
omit hF in
theorem state_same (hM : MasksOK ops.toList ms) (hF : ∀ i, i < ops.size → Fact P E f ops ms (hsAt ops.toList hs) T i) {a : Nat} : ∀ b, a ≤ b → b ≤ ops.size → (∀ e, a ≤ e → e < b → ¬ IsEff E (E.mutf f) ops e) → T.s b = T.s a := by
  intro b
  induction b with
  | zero => intro h _ _; rw [show a = 0 by omega]
  | succ b ih =>
    intro h1 h2 h3
    by_cases hab : a = b + 1
    · rw [hab]
    · have hlt : b < ops.size := by omega
      have ho := Array.getElem?_eq_getElem hlt
      have him : b < ms.length := by rw [hM.len]; simpa using hlt
      have hf := hF b hlt _ _ ho (List.getElem?_eq_getElem him)
      have hs : T.s (b + 1) = T.s b := by
        split at hf
        · exact hf.2.1
        · rename_i hh
          split at hf
          · rename_i he
            exact absurd ⟨_, ho, by simpa using hh, he⟩ (h3 b (by omega) (by omega))
          · obtain ⟨p, rds, _, _, _, _, h, _, _⟩ := hf; exact h
      rw [hs]; exact ih (by omega) (by omega) (fun e q1 q2 => h3 e q1 (by omega))
/-- The operation that comes up sees the temporaries that the evaluator saw. -/
theorem uses_agree {l : Nat → Prop} (hc : ∀ (i : Nat) (o : Oper), l i → ops[i]? = some o → ∀ e, e ∈ o.after.toList → bindsAny e = true → l e.on) {i : Nat} {o : Oper} (ho : ops[i]? = some o) (hi : ¬ l i) (hh : isHoisted o = false)
    (hr : ∀ e, e ∈ o.after.toList → bindsAny e = true → l e.on) {tt : List V} (htt : Temps ops (vhOf ops hs T) t l tt) : ∀ u, u ∈ usesOf ops o → tget tt u = tget (T.t i) u := by
  intro u hu
  have hilt : i < ops.size := (Array.getElem?_eq_some_iff.1 ho).1
  have hD := distinct hM hF hA
  have hcan := canon_temps hM hH hT0 hF hA i (by omega)
  obtain ⟨m, hm, q1, q2, q3, q4, _⟩ := rc_at hM hF ho
  have hol : ops.toList[i]? = some o := by simpa using ho
  have hlisted := hM.listed (fun i o h1 h2 => hc i o h1 (by simpa using h2)) i o m hol hm hr
  by_cases hx : ∃ (j : Nat) (o' : Oper), ops[j]? = some o' ∧ o'.dst = some u
  · obtain ⟨j, o', hj, hjd⟩ := hx
    have hjlt : j < ops.size := (Array.getElem?_eq_some_iff.1 hj).1
    have only : ∀ {l' : Nat → Prop} {t' : List V}, Temps ops (vhOf ops hs T) t l' t' → ¬ l' j → tget t' u = tget t u := fun ht hn => ht.2.2 u (fun j' o2 h1 h2 h3 => hn (by rw [← hD j' j o2 o' u h1 hj h3 hjd]; exact h2))
    have both : ∀ {l' : Nat → Prop} {t' : List V}, Temps ops (vhOf ops hs T) t l' t' → l' j → tget t' u = if u < t.length then vhOf ops hs T j else .undef := fun {l' t'} ht hn => by
      by_cases hul : u < t.length
      · rw [if_pos hul]; exact ht.2.1 j o' u hj hn hjd hul
      · rw [if_neg hul, tget_getD, List.getD_eq_getElem?_getD, List.getElem?_eq_none (by rw [ht.1]; exact Nat.le_of_not_lt hul)]; rfl
    by_cases hji : j = i
    · subst hji
      rw [only htt hi, only hcan]
      rintro (h | ⟨o2, h1, h2⟩)
      · omega
      · rw [ho] at h1; cases h1; rw [hh] at h2; cases h2
    · have hp := pair_at (T := T) hA hilt hjlt (Ne.symm hji)
      obtain ⟨mj, hmj, r1, r2, r3, r4, _⟩ := rc_at hM hF hj
      have huse := hp.use u (r1.trans hjd) (by rw [q2]; exact hu)
      by_cases hcase : (T.rc j).hst = true ∨ j < i
      · rw [if_pos hcase, q3] at huse
        have hlj := hlisted j huse
        rw [both htt hlj, both hcan]
        rcases hcase with h | h
        · rw [r4] at h; exact .inr ⟨o', hj, h⟩
        · exact .inl h
      · rw [if_neg hcase, r3] at huse
        have hnj : ¬ l j := fun hlj => by
          have hoj : ops.toList[j]? = some o' := by simpa using hj
          exact hi (hM.listed (fun i o h1 h2 => hc i o h1 (by simpa using h2)) j o' mj hoj hmj (hc j o' hlj hj) i huse)
        rw [only htt hnj, only hcan]
        rintro (h | ⟨o2, h1, h2⟩)
        · exact hcase (.inr h)
        · rw [hj] at h1; cases h1; exact hcase (.inl (by rw [r4]; exact h2))
  · have hn : ∀ (j : Nat) (o' : Oper), ops[j]? = some o' → o'.dst ≠ some u := fun j o' h1 h2 => hx ⟨j, o', h1, h2⟩
    rw [htt.2.2 u (fun j o' h1 _ => hn j o' h1), hcan.2.2 u (fun j o' h1 _ => hn j o' h1)]
end
end Go.Ev
