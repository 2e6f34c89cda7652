/- Part CoF of the kept evaluator and its soundness; what each piece says stands ahead of it. No condition. -/
import Derived.Test.YtelhpneeiebeeaaGreatDoorCoE
/- Regions whose order is open. -/
namespace Go.Ev
theorem guard_congr {ops : Array Oper} {o : Oper} {t t' : List V} (h : ∀ u, u ∈ usesOf ops o → tget t u = tget t' u) : guardOk t ops o.guard = guardOk t' ops o.guard := by
  unfold guardOk
  cases hg : o.guard with
  | none => rfl
  | some jw =>
    obtain ⟨j, want⟩ := jw
    simp only
    cases hd : (ops[j]?).bind (·.dst) with
    | none => rfl
    | some d =>
      simp only
      rw [h d (by unfold usesOf; simp only [hg, hd]; simp)]
theorem operand_uses {ops : Array Oper} {o : Oper} : ∀ u, u ∈ tmpsOf o.op.operands.toList → u ∈ usesOf ops o := fun u hu => by
  unfold usesOf
  split
  · exact hu
  · split
    · exact List.mem_cons_of_mem _ hu
    · exact hu
theorem OneStep.congr {P : Program} {E : Env} {f : FuncId} {ops : Array Oper} {o : Oper} {t t' : List V} {s s' : St} {v : V} (h : OneStep P E f ops o t s v s') (hu : ∀ u, u ∈ usesOf ops o → tget t' u = tget t u) : OneStep P E f ops o t' s v s' := by
  have hg := guard_congr hu
  have ho := opnd_congr (E := E) (l := o.op.operands.toList) (fun u h => hu u (operand_uses u h))
  have hcall : ∀ (c : Call) (x : Operand), o.op = .call c → c.callee = .value x → opnd E t' x = opnd E t x ∧ opnds E t' c.args.toList = opnds E t c.args.toList := fun c x h1 h2 => by
    have hops : o.op.operands.toList = x :: c.args.toList := by rw [h1]; simp [Op.operands, Call.operands, h2]
    rw [hops] at ho
    exact ⟨ho x (by simp), opnds_congr fun y hy => ho y (by simp [hy])⟩
  cases h with
  | skip h => exact .skip (hg.trans h)
  | plain h v s' hop => exact .plain (hg.trans h) v s' (by rw [op_congr ho]; exact hop)
  | call h c x f' caps v s' h1 h2 h3 h4 =>
    obtain ⟨q1, q2⟩ := hcall c x h1 h2
    exact .call (hg.trans h) c x f' caps v s' h1 h2 (q1.trans h3) (by rw [q2]; exact h4)
  | yld h c x l v s' h1 h2 h3 h4 =>
    obtain ⟨q1, q2⟩ := hcall c x h1 h2
    exact .yld (hg.trans h) c x l v s' h1 h2 (q1.trans h3) (by rw [q2]; exact h4)
theorem readsBy_congr {E : Env} {t t' : List V} {o : Op} (h : ∀ x, x ∈ o.operands.toList → opnd E t x = opnd E t' x) : readsBy E t o = readsBy E t' o := by
  unfold readsBy
  cases blind o with
  | true => rfl
  | false =>
    simp only [cond_false]
    split
    · rw [h _ (by simp [Op.operands])]
    · rw [h _ (by simp [Op.operands])]
    · rw [opnds_congr h]

section
variable {P : Program} {E : Env} (hE : EnvOK P E) {f : FuncId} {ops : Array Oper} {ms : List Nat} {t t0 : List V} {sS s0 : St} {hs : List Nat} {T : Tr}
variable (hM : MasksOK ops.toList ms) (hH : Hoisted E ops.toList t sS t0 s0 hs) (hT0 : T.t 0 = t0) (hS0 : T.s 0 = s0)
  (hF : ∀ i, i < ops.size → Fact P E f ops ms (hsAt ops.toList hs) T i) (hA : allOk ((List.range ops.size).map T.rc) 0 ((List.range ops.size).map T.rc) = true)
def lst (listed : Array Bool) (j : Nat) : Prop := listed.getD j false = true
theorem lst_set {listed : Array Bool} {i j : Nat} (hi : i < listed.size) : lst (listed.setIfInBounds i true) j ↔ lst listed j ∨ j = i := by
  unfold lst
  simp only [Array.getD_eq_getD_getElem?, Array.getElem?_setIfInBounds]
  by_cases hij : i = j
  · subst hij; simp [hi]
  · have hji : ¬ j = i := fun h => hij h.symm
    simp [hij, hji]
theorem lst_true {listed : Array Bool} {j : Nat} (hj : j < listed.size) : listed.getD j true = false ↔ ¬ lst listed j := by
  unfold lst
  simp [Array.getD_eq_getD_getElem?, Array.getElem?_eq_getElem hj]
structure Sim (E : Env) (f : FuncId) (ops : Array Oper) (hs : List Nat) (t : List V) (T : Tr) (gS : G) (wS : World) (W : Nat) (listed : Array Bool) (m : Nat) (g : G) (w : World) (a : Act) : Prop where
  size : listed.size = ops.size
  closed : ∀ (i : Nat) (o : Oper), lst listed i → ops[i]? = some o → ∀ e, e ∈ o.after.toList → bindsAny e = true → lst listed e.on
  effs : ∀ e, IsEff E (E.mutf f) ops e → (lst listed e ↔ e < m)
  m_le : m ≤ ops.size
  inv : Inv g (T.s m) w
  pend : ∀ o, g.pend o ↔ gS.pend o ∨ ∃ i, HJ ops i ∧ ¬ lst listed i ∧ hsAt ops.toList hs i = o
  nowhere : ∀ i, HJ ops i → ¬ lst listed i → hsAt ops.toList hs i < g.N ∧ g.O (hsAt ops.toList hs i) = none
  tmp : ∃ tt, Temps ops (vhOf ops hs T) t (lst listed) tt ∧ TR g tt a
  ext : Ext wS.heap.size gS (g.setPend gS.pend)
  frame : Frame gS wS w
  marks : Marks g w W a.defers
  keeps : ∀ e, e < m → IsEff E (E.mutf f) ops e → Keep (T.s e).fresh (T.n e)
include hM hF in
theorem eff_fact {e : Nat} (he : IsEff E (E.mutf f) ops e) : e < ops.size ∧ T.s (e + 1) = keepSt (T.s e) (T.n e) := by
  obtain ⟨o, h1, h2, h3⟩ := he
  have hi : e < ops.size := (Array.getElem?_eq_some_iff.1 h1).1
  have him : e < ms.length := by rw [hM.len]; simpa using hi
  have hf := hF e hi o _ h1 (List.getElem?_eq_getElem him)
  rw [if_neg (by rw [h2]; simp), if_pos h3] at hf
  exact ⟨hi, hf.2.1⟩
include hM hF in
/-- What is looked at stands from p to m. -/
theorem agree_on {p : Nat} {r : Rd} (hr : r.obj < (T.s p).next) : ∀ m, p ≤ m → m ≤ ops.size → (∀ e, p ≤ e → e < m → IsEff E (E.mutf f) ops e → Keep (T.s e).fresh (T.n e) ∧ clashes (T.n e).ws r = false) → Agree (T.s p) (T.s m) r ∧ (T.s p).next ≤ (T.s m).next := by
  intro m
  induction m with
  | zero => intro h _ _; rw [show p = 0 by omega]; exact ⟨.refl _ _, Nat.le_refl _⟩
  | succ m ih =>
    intro h1 h2 h3
    by_cases hpm : p = m + 1
    · rw [hpm]; exact ⟨.refl _ _, Nat.le_refl _⟩
    · obtain ⟨a1, a2⟩ := ih (by omega) (by omega) (fun e q1 q2 => h3 e q1 (by omega))
      by_cases he : IsEff E (E.mutf f) ops m
      · obtain ⟨k1, k2⟩ := h3 m (by omega) (by omega) he
        obtain ⟨_, hs⟩ := eff_fact hM hF he
        have hag : Agree (T.s m) (T.n m) r := .of_keep k1 (by omega) k2
        have hag2 : Agree (T.n m) (T.s (m + 1)) r := by rw [hs]; exact Agree.refl (T.n m) r
        refine ⟨a1.trans (hag.trans hag2), ?_⟩
        rw [hs]; exact Nat.le_trans a2 k1.next
      · rw [state_same (a := m) hM hF (m + 1) (by omega) h2 (fun e q1 q2 => by rw [show e = m by omega]; exact he)]
        exact ⟨a1, a2⟩

variable {gS : G} {wS : World} {W : Nat} {listed : Array Bool} {m : Nat} {g : G} {w : World} {a : Act}
/-- Behind a step of the machine that is one of the evaluator's. -/
theorem Sim.step (h : Sim E f ops hs t T gS wS W listed m g w a) (hT0 : Distinct ops) {i m' : Nat} {o : Oper} (ho : ops[i]? = some o) (hi : ¬ lst listed i) (hh : isHoisted o = false) (hr : ∀ e, e ∈ o.after.toList → bindsAny e = true → lst listed e.on)
    (hm : m' ≤ ops.size) (heff : ∀ e, IsEff E (E.mutf f) ops e → ((lst listed e ∨ e = i) ↔ e < m')) {g' : G} {w' : World} {cv : Value} {s' : St} (hs' : T.s m' = s') (hst : Step g (T.s m) w g' s' w') (hv : VR g' (T.v i) cv) (hk : ∀ e, e < m' → IsEff E (E.mutf f) ops e → Keep (T.s e).fresh (T.n e)) :
    Sim E f ops hs t T gS wS W (listed.setIfInBounds i true) m' g' w' (a.put o.dst cv) := by
  have hilt : i < ops.size := (Array.getElem?_eq_some_iff.1 ho).1
  have hil : i < listed.size := by rw [h.size]; exact hilt
  have hset : ∀ j, lst (listed.setIfInBounds i true) j ↔ lst listed j ∨ j = i := fun j => lst_set hil
  have hnh : ∀ j, HJ ops j → j ≠ i := fun j ⟨o', h1, h2⟩ hji => by subst hji; rw [ho] at h1; cases h1; rw [hh] at h2; cases h2
  have hpe := hst.ext.pend
  subst hs'
  refine ⟨by simpa using h.size, fun j o' hj ho' e he hb => ?_, fun e he => by rw [hset]; exact heff e he, hm, hst.inv, fun x => ?_, fun j hj hn => ?_, ?_, ?_, ?_, ?_, hk⟩
  · rw [hset] at hj ⊢
    rcases hj with hj | rfl
    · exact .inl (h.closed j o' hj ho' e he hb)
    · rw [ho] at ho'; cases ho'; exact .inl (hr e he hb)
  · rw [hpe, h.pend]
    constructor
    · rintro (hq | ⟨j, q1, q2, q3⟩)
      · exact .inl hq
      · exact .inr ⟨j, q1, by rw [hset]; exact fun hq => hq.elim q2 (hnh j q1), q3⟩
    · rintro (hq | ⟨j, q1, q2, q3⟩)
      · exact .inl hq
      · exact .inr ⟨j, q1, fun hq => q2 ((hset j).2 (.inl hq)), q3⟩
  · have hn' : ¬ lst listed j := fun hq => hn ((hset j).2 (.inl hq))
    obtain ⟨q1, q2⟩ := h.nowhere j hj hn'
    refine ⟨Nat.lt_of_lt_of_le q1 hst.ext.N, ?_⟩
    cases hx : g'.O (hsAt ops.toList hs j) with
    | none => rfl
    | some r' =>
      obtain ⟨r, q3, _⟩ := hst.ext.O _ q1 r' hx
      rw [q2] at q3; cases q3
  · obtain ⟨tt, h1, h2⟩ := h.tmp
    have hvh : vhOf ops hs T i = T.v i := by simp [vhOf, ho, hh]
    have := h1.put hT0 ho hi
    rw [hvh] at this
    exact ⟨_, this.congr (fun j o' _ => (hset j).symm), (h2.mono hst.ext).set o.dst hv⟩
  · exact h.ext.trans (hst.ext.setPend gS.pend) h.frame.size
  · exact h.frame.trans h.ext ⟨hst.frame.os, hst.frame.tape, hst.frame.output, hst.frame.size, hst.frame.block⟩
  · have hd : (a.put o.dst cv).defers = a.defers := by cases o.dst <;> rfl
    rw [hd]
    exact h.marks.step hst
include hE hM hH hT0 hF hA in
/-- An operation that comes up. -/
theorem Sim.op (h : Sim E f ops hs t T gS wS W listed m g w a) (hgl : gS.gl = E.glob) (hNS : gS.N = sS.next) (hpS : ∀ o, gS.pend o → o < sS.next) (hS0 : T.s 0 = s0) {rd : Option Nat} {n i : Nat} {Q : Exit → Act → World → Prop} (hi : i ∈ Region.ready .any ops listed) {K : Act → World → Prop}
    (hK : ∀ m' g' w' a', Sim E f ops hs t T gS wS W (listed.setIfInBounds i true) m' g' w' a' → K a' w') : wpOpIn (Fd rd) n P ops Q i K a w := by
  obtain ⟨hun, o, ho, hall⟩ := mem_ready.1 hi
  have hilt : i < ops.size := (Array.getElem?_eq_some_iff.1 ho).1
  have hnl : ¬ lst listed i := (lst_true (by rw [h.size]; exact hilt)).1 hun
  have hr : ∀ e, e ∈ o.after.toList → bindsAny e = true → lst listed e.on := fun e he hb => hall e (by simpa using he) (by rw [← bindsAny_eq]; exact hb)
  have hD := distinct hM hF hA
  have hg1 : g.gl = E.glob := h.ext.gl.trans hgl
  have him : i < ms.length := by rw [hM.len]; simpa using hilt
  have hf := hF i hilt o _ ho (List.getElem?_eq_getElem him)
  have hol : ops.toList[i]? = some o := by simpa using ho
  have hlisted := hM.listed (l := lst listed) (fun i o h1 h2 => h.closed i o h1 (by simpa using h2)) i o _ hol (List.getElem?_eq_getElem him) hr
  obtain ⟨m0, hm0, r1, r2, r3, r4, r5, r6, r7⟩ := rc_at hM hF ho
  have hm0' : m0 = ms[i] := by rw [List.getElem?_eq_getElem him] at hm0; cases hm0; rfl
  obtain ⟨tt, htt, hTR⟩ := h.tmp
  -- an effect that is not listed has not i among what comes before, nor the other way round
  have nobit : ∀ e, e < ops.size → lst listed e → bitOf (T.rc e).mask i = false := fun e he hl => by
    cases hb : bitOf (T.rc e).mask i with
    | false => rfl
    | true =>
      obtain ⟨me, hme, _, _, q3, _⟩ := rc_at hM hF (Array.getElem?_eq_getElem he)
      rw [q3] at hb
      have hoe : ops.toList[e]? = some ops[e] := by simp [he]
      exact absurd (hM.listed (l := lst listed) (fun i o h1 h2 => h.closed i o h1 (by simpa using h2)) e _ me hoe hme (h.closed e _ hl (Array.getElem?_eq_getElem he)) i hb) hnl
  cases hh : isHoisted o with
  | true =>
    obtain ⟨e, d, hop, hgd, hdst⟩ := isHoisted_spec hh
    obtain ⟨k1, k2, e', ti, d', hop', _, hdst', hti, c1, c2, c3, hrow⟩ := hH.made i o hol hh
    rw [hop] at hop'; cases hop'
    rw [hdst] at hdst'; cases hdst'
    have hHJ : HJ ops i := ⟨o, ho, hh⟩
    have hpend : g.pend (hsAt ops.toList hs i) := (h.pend _).2 (.inr ⟨i, hHJ, hnl, rfl⟩)
    obtain ⟨hN, hO⟩ := h.nowhere i hHJ hnl
    -- the row stands as it was made
    have hrowm : hget (T.s m).heap (hsAt ops.toList hs i) = some (.row [ti.zero] ⟨e, false⟩) := by
      have := (agree_on (p := 0) (r := .all (hsAt ops.toList hs i)) hM hF (by show hsAt ops.toList hs i < (T.s 0).next; rw [hS0]; exact k2) m (Nat.zero_le _) h.m_le (fun e _ hem he => by
        refine ⟨h.keeps e hem he, ?_⟩
        have hel : e < ops.size := (eff_fact hM hF he).1
        have hei : i ≠ e := fun q => by
          subst q
          have := (not_both ho he).1; rw [hh] at this; cases this
        have hp := pair_at (T := T) hA hilt hel hei
        obtain ⟨oe, hoe, hoe2, hoe3⟩ := id he
        obtain ⟨_, _, _, _, _, _, s5, s6, _⟩ := rc_at hM hF hoe
        obtain ⟨q1, q2⟩ := r7 hh
        cases hcl : clashes (T.n e).ws (.all (hsAt ops.toList hs i)) with
        | false => rfl
        | true =>
          have hany : anyIn (T.rc e).ws (T.rc i).reads = true := by rw [q1, s6 he]; simp [anyIn, hcl]
          rcases hp.clash q2 (s5.2 he) hany with hq | hq
          · rw [r4, hh] at hq; cases hq.1
          · rw [nobit e hel ((h.effs e he).2 hem)] at hq; cases hq)).1
      rw [show hget (T.s m).heap (hsAt ops.toList hs i) = hget (T.s 0).heap (hsAt ops.toList hs i) from this, hS0]
      exact hrow
    obtain ⟨z, hz, hz2, hz3⟩ := hE.run_zero hti w
    let rc : ORec := ⟨w.heap.size, ti.size, ti.size, 1⟩
    let w1 := w.alloc (.cells z.cells e)
    have hz0 : VRL (g.lay (hsAt ops.toList hs i) rc) ti.zero z.cells.toList := by rw [hz2]; exact ofVals_ok _ _
    have hinv : Inv (g.lay (hsAt ops.toList hs i) rc) (T.s m) w1 := by
      refine h.inv.lay (o' := .cells z.cells e) hpend hrowm rfl rfl hO ?_
      refine ⟨rfl, c2, by simp [rc, c1], fun k => h.inv.S_new (Nat.le_refl _) k, z.cells, ⟨e, rfl⟩, (0, 0), heap_alloc_new w _, hz3, by simp [rc], by simp [rc], ?_, fun k _ => by simp⟩
      intro i' row hr' j x hx
      cases i' with
      | succ i' => simp at hr'
      | zero =>
        simp at hr'; subst hr'
        obtain ⟨v, q1, q2⟩ := hz0.get hx
        exact ⟨v, by simpa using q1, allOne_mem c3 x (List.mem_of_getElem? hx), q2⟩
    have hmv := move_lay (r := rc) hpend
    unfold wpOpIn
    simp only [ho]
    have hwant : Region.wanted o (yielded ops a.tmps) = true := by simp [Region.wanted, hgd]
    rw [hwant]
    refine ⟨fun _ _ => trivial, ?_⟩
    have hexec : (execOp a.eval o).run P w = .ok (.value (.pointer (some ⟨w.heap.size, 0, none⟩))) w1 := by
      simp [execOp, hop, Instr.alloc, hz, newVar, newRow, w1]
    rw [show (Fd rd).round = rd from rfl, semAt_exec _ _ _ (by rw [hop]; simp), hexec]
    have hil : i < listed.size := by rw [h.size]; exact hilt
    have hset : ∀ j, lst (listed.setIfInBounds i true) j ↔ lst listed j ∨ j = i := fun j => lst_set hil
    have hinj : ∀ j, HJ ops j → hsAt ops.toList hs j = hsAt ops.toList hs i → j = i := fun j ⟨o', q1, q2⟩ q3 => hH.inj j i o' o (by simpa using q1) hol q2 hh q3
    refine hK m (g.lay (hsAt ops.toList hs i) rc) w1 _ ⟨by simpa using h.size, fun j o' hj ho' e2 he hb => ?_, fun e2 he => ?_, h.m_le, hinv, fun x => ?_, fun j hj hn => ?_, ?_, ?_, ?_, ?_, h.keeps⟩
    · rw [hset] at hj ⊢
      rcases hj with hj | rfl
      · exact .inl (h.closed j o' hj ho' e2 he hb)
      · rw [ho] at ho'; cases ho'; exact .inl (hr e2 he hb)
    · rw [hset, ← h.effs e2 he]
      refine ⟨fun hq => hq.resolve_right (fun q => ?_), .inl⟩
      subst q
      have := (not_both ho he).1; rw [hh] at this; cases this
    · simp only [G.lay]
      rw [h.pend]
      constructor
      · rintro ⟨hq | ⟨j, q1, q2, q3⟩, hne⟩
        · exact .inl hq
        · refine .inr ⟨j, q1, fun hq => ?_, q3⟩
          rcases (hset j).1 hq with hq | hq
          · exact q2 hq
          · subst hq; exact hne q3.symm
      · rintro (hq | ⟨j, q1, q2, q3⟩)
        · refine ⟨.inl hq, fun hx => ?_⟩
          have := hpS x hq; omega
        · refine ⟨.inr ⟨j, q1, fun hq => q2 ((hset j).2 (.inl hq)), q3⟩, fun hx => ?_⟩
          rw [← q3] at hx
          exact q2 ((hset j).2 (.inr (hinj j q1 hx)))
    · have hn' : ¬ lst listed j := fun hq => hn ((hset j).2 (.inl hq))
      obtain ⟨q1, q2⟩ := h.nowhere j hj hn'
      refine ⟨q1, ?_⟩
      simp only [G.lay]
      rw [if_neg (fun q => hn ((hset j).2 (.inr (hinj j hj q))))]
      exact q2
    · have hvh : vhOf ops hs T i = .ptr (hsAt ops.toList hs i) 1 0 0 := by simp [vhOf, ho, hh]
      have hput := htt.put hD ho hnl
      rw [hvh] at hput
      refine ⟨_, hput.congr (fun j o' _ => (hset j).symm), TR.set (VRL.move hmv _ _ hTR) o.dst ?_⟩
      simp only [VR]
      refine ⟨hN, fun hq => hq.2 rfl, rfl, fun r' hr' => ?_⟩
      simp only [G.lay, if_true] at hr'
      cases hr'
      exact ⟨Nat.le_refl _, fun _ => by simp [rc]⟩
    · refine ⟨h.ext.S, h.ext.new, fun o1 ho1 r' hr' => ?_, fun o1 r' hr' => ?_, h.ext.N, rfl, h.ext.gl⟩
      · simp only [G.setPend, G.lay] at hr'
        rw [if_neg (by omega)] at hr'
        exact h.ext.O o1 ho1 r' hr'
      · simp only [G.setPend, G.lay] at hr'
        split at hr'
        · cases hr'; exact .inr h.frame.size
        · exact h.ext.blk o1 r' hr'
    · refine ⟨h.frame.os, h.frame.tape, h.frame.output, by have := h.frame.size; simp [w1]; omega, fun k q1 q2 => ?_⟩
      rw [← h.frame.block k q1 q2]
      have := h.frame.size
      exact heap_alloc_old w _ (by omega)
    · have hd : (a.put o.dst (.pointer (some ⟨w.heap.size, 0, none⟩))).defers = a.defers := by cases o.dst <;> rfl
      rw [hd]
      obtain ⟨rs, q1, q2, q3⟩ := h.marks
      refine ⟨rs, q1, q2, fun r' hr' => ?_⟩
      obtain ⟨q4, q5, q6⟩ := q3 r' hr'
      have hlt := Marks.lt q5
      refine ⟨q4, by rw [heap_alloc_old w _ hlt]; exact q5, fun x rcx hx => ?_⟩
      simp only [G.lay] at hx
      split at hx
      · cases hx; show w.heap.size ≠ r'; omega
      · exact q6 x rcx hx
  | false =>
    rw [if_neg (by rw [hh]; simp)] at hf
    have hag := uses_agree hM hH hT0 hF hA (l := lst listed) h.closed ho hnl hh hr htt
    cases he : effS E (E.mutf f) o.op with
    | true =>
      rw [if_pos he] at hf
      obtain ⟨hone, hsn, _, _⟩ := hf
      have hE1 : IsEff E (E.mutf f) ops i := ⟨o, ho, hh, he⟩
      have hmi : m ≤ i := by
        rcases Nat.lt_or_ge i m with q | q
        · exact absurd ((h.effs i hE1).2 q) hnl
        · exact q
      -- all effects before are listed
      have hbef : ∀ e, IsEff E (E.mutf f) ops e → e < i → e < m := fun e hee hlt => by
        have hel := (eff_fact hM hF hee).1
        have hp := pair_at (T := T) hA hilt hel (by omega)
        obtain ⟨oe, hoe, _⟩ := id hee
        obtain ⟨_, _, _, _, _, _, s5, _⟩ := rc_at hM hF hoe
        have := hp.eff (r5.2 hE1) (s5.2 hee) hlt
        rw [r3, hm0'] at this
        exact (h.effs e hee).1 (hlisted e this)
      have hsame : T.s i = T.s m := state_same (a := m) hM hF i hmi (by omega) (fun e q1 q2 hee => by have := hbef e hee q2; omega)
      have hinv : Inv g (T.s i).fresh w := by rw [hsame]; exact h.inv.fresh
      refine (hone.congr hag).sound hE ho hg1 hinv hTR (fun g' cv w' hv hst => ?_)
      refine hK (i + 1) g' w' _ (h.step hD ho hnl hh hr (by omega) (fun e hee => ?_) rfl ?_ hv (fun e hlt hee => ?_))
      · constructor
        · rintro (q | rfl)
          · have := (h.effs e hee).1 q; omega
          · omega
        · intro q
          by_cases hei : e = i
          · exact .inr hei
          · exact .inl ((h.effs e hee).2 (hbef e hee (by omega)))
      · rw [hsn, ← hsame]; exact keep_ok hst
      · by_cases hei : e = i
        · subst hei; exact hst.keep
        · exact h.keeps e (hbef e hee (by omega)) hee
    | false =>
      rw [if_neg (by rw [he]; simp)] at hf
      obtain ⟨p, rds, hpi, hstl, hbits, hpe, _, _, hrc⟩ := hf
      have hpm : p ≤ m := by
        rcases hpe with rfl | ⟨q, rfl, hq1, hq2⟩
        · exact Nat.zero_le _
        · have := (h.effs q hq1).1 (hlisted q hq2); omega
      have hone : OneStep P E f ops o tt (T.s m) (T.v i) (T.s m) := by
        unfold stillOp at hstl
        have hgc := guard_congr hag
        split at hstl
        · rename_i hgd
          split at hstl
          · rename_i v1 s1 hop
            cases hc : (stillVal o.op v1 && rdsBelow (T.s p).next (readsBy E (T.t i) o.op)) with
            | false => simp [hc] at hstl
            | true =>
              simp only [hc, cond_true, Option.some.injEq, Prod.mk.injEq] at hstl
              obtain ⟨hv1, hrds⟩ := hstl
              obtain ⟨hsv, hbl⟩ := band_iff.1 hc
              have hoc := opnd_congr (E := E) (l := o.op.operands.toList) (fun u hu => hag u (operand_uses u hu))
              have hagree : AgreeL (T.s p) (T.s m) (readsBy E (T.t i) o.op) := fun r hr' => by
                refine (agree_on hM hF (rdsBelow_ok hbl r hr') m hpm h.m_le (fun e q1 q2 hee => ⟨h.keeps e q2 hee, ?_⟩)).1
                have hel := (eff_fact hM hF hee).1
                have hei : i ≠ e := fun q => by subst q; have := (not_both ho hee).2; rw [he] at this; cases this
                have hp := pair_at (T := T) hA hilt hel hei
                obtain ⟨oe, hoe, _⟩ := id hee
                obtain ⟨_, _, _, _, _, _, s5, s6, _⟩ := rc_at hM hF hoe
                have hle := (h.effs e hee).2 q2
                cases hcl : clashes (T.n e).ws r with
                | false => rfl
                | true =>
                  have hany : anyIn (T.rc e).ws (T.rc i).reads = true := by
                    rw [hrc, s6 hee]
                    simp only
                    rw [← hrds]
                    cases hx : anyIn (T.n e).ws (readsBy E (T.t i) o.op) with
                    | true => rfl
                    | false => have := anyIn_ok hx r hr'; rw [hcl] at this; cases this
                  rcases hp.clash (by rw [hrc]) (s5.2 hee) hany with hq | hq
                  · exfalso
                    have hbit := hq.2
                    rw [r3, hm0'] at hbit
                    by_cases hlt : e < i
                    · have := hbits e hlt hee hbit; omega
                    · have := hM.bit_lt i _ (List.getElem?_eq_getElem him) e hbit; omega
                  · rw [nobit e hel hle] at hq; cases hq
              obtain ⟨q1, _⟩ := still_agree hop he hsv hagree
              exact .plain (hgc.trans hgd) _ _ (by rw [op_congr hoc, ← hv1]; exact q1)
          · cases hstl
        · rename_i hgd
          simp only [Option.some.injEq, Prod.mk.injEq] at hstl
          rw [← hstl.1]
          exact .skip (hgc.trans hgd)
        · cases hstl
      refine hone.sound hE ho hg1 h.inv hTR (fun g' cv w' hv hst => ?_)
      refine hK m g' w' _ (h.step hD ho hnl hh hr h.m_le (fun e hee => ?_) rfl hst hv h.keeps)
      rw [← h.effs e hee]
      refine ⟨fun q => q.resolve_right (fun q => ?_), .inl⟩
      subst q
      have := (not_both ho hee).2; rw [he] at this; cases this

theorem cnt_lt {l : List Nat} {p q : Nat → Bool} (h : ∀ i, q i = true → p i = true) {i : Nat} (hi : i ∈ l) (hp : p i = true) (hq : q i = false) : (l.filter q).length < (l.filter p).length := by
  induction l with
  | nil => cases hi
  | cons x l ih =>
    have hle : (l.filter q).length ≤ (l.filter p).length := by
      clear ih hi
      induction l with
      | nil => simp
      | cons y l ih =>
        simp only [List.filter_cons]
        cases hqy : q y with
        | true => simp [h y hqy]; exact ih
        | false => cases hpy : p y <;> simp <;> omega
    rcases List.mem_cons.1 hi with rfl | hi
    · simp only [List.filter_cons, hp, hq]; simp; omega
    · have := ih hi
      simp only [List.filter_cons]
      cases hqx : q x with
      | true => simp [h x hqx]; exact this
      | false => cases hpx : p x <;> simp <;> omega
def cnt (listed : Array Bool) (n : Nat) : Nat := ((List.range n).filter fun i => !listed.getD i false).length
include hE hM hH hT0 hF hA in
theorem sim_all (hgl : gS.gl = E.glob) (hNS : gS.N = sS.next) (hpS : ∀ o, gS.pend o → o < sS.next) (hS0 : T.s 0 = s0) {rd : Option Nat} {n : Nat} {Q : Exit → Act → World → Prop}
    (hQ : ∀ g' a' w', TR g' (T.t ops.size) a' → Step gS sS wS g' (T.s ops.size) w' → Marks g' w' W a'.defers → Q .normal a' w') :
    ∀ (fuel : Nat) (listed : Array Bool) (m : Nat) (g : G) (w : World) (a : Act), Sim E f ops hs t T gS wS W listed m g w a → cnt listed ops.size ≤ fuel → wpAnyIn (Fd rd) n P .any ops Q fuel listed a w := by
  have fin : ∀ (listed : Array Bool) (m : Nat) (g : G) (w : World) (a : Act), Sim E f ops hs t T gS wS W listed m g w a → (∀ i, i < ops.size → lst listed i) → Q .normal a w := by
    intro listed m g w a h hall
    have hval : ∀ j o, ops[j]? = some o → j < ops.size := fun j o ho => (Array.getElem?_eq_some_iff.1 ho).1
    obtain ⟨tt, h1, h2⟩ := h.tmp
    have hcan := canon_temps hM hH hT0 hF hA ops.size (Nat.le_refl _)
    have htt : tt = T.t ops.size := Temps.eq (l := lst listed) h1 (hcan.congr (fun j o ho => ⟨fun _ => hall j (hval j o ho), fun _ => .inl (hval j o ho)⟩))
    subst htt
    have hsN : T.s ops.size = T.s m := state_same (a := m) hM hF ops.size h.m_le (Nat.le_refl _) (fun e q1 q2 hee => by have := (h.effs e hee).1 (hall e q2); omega)
    have hp : g.setPend gS.pend = g := by
      have : g.pend = gS.pend := by
        funext o
        apply propext
        rw [h.pend]
        refine ⟨fun q => q.resolve_right (fun ⟨i, ⟨o', q1, _⟩, q2, _⟩ => q2 (hall i (hval i o' q1))), .inl⟩
      simp only [G.setPend, ← this]
    have hkeep : ∀ k, k ≤ ops.size → Keep sS (T.s k) := by
      intro k
      induction k with
      | zero => intro _; rw [hS0]; exact hH.keep
      | succ k ih =>
        intro hk
        refine (ih (by omega)).trans ?_
        by_cases hee : IsEff E (E.mutf f) ops k
        · obtain ⟨q1, q2⟩ := eff_fact hM hF hee
          have hkm := h.keeps k ((h.effs k hee).1 (hall k q1)) hee
          rw [q2]
          exact hkm.wider rfl hkm.next (fun _ _ => rfl) rfl
        · rw [state_same (a := k) hM hF (k + 1) (by omega) hk (fun e q1 q2 => by rw [show e = k by omega]; exact hee)]
          exact .refl _
    have hext := h.ext
    rw [hp] at hext
    refine hQ g a w h2 ⟨?_, hext, h.frame, hkeep _ (Nat.le_refl _)⟩ h.marks
    rw [hsN]; exact h.inv
  have ready_nil : ∀ (listed : Array Bool) (m : Nat) (g : G) (w : World) (a : Act), Sim E f ops hs t T gS wS W listed m g w a → Region.ready .any ops listed = [] → ∀ i, i < ops.size → lst listed i := by
    intro listed m g w a h hnil i
    induction i using Nat.strongRecOn with
    | _ i ih =>
      intro hi
      by_cases hl : lst listed i
      · exact hl
      · exfalso
        have ho := Array.getElem?_eq_getElem hi
        have : i ∈ Region.ready .any ops listed := by
          refine mem_ready.2 ⟨(lst_true (by rw [h.size]; exact hi)).2 hl, _, ho, fun e he hb => ?_⟩
          have hol : ops.toList[i]? = some ops[i] := by simp [hi]
          have hlt := hM.lt i _ hol e (by simpa using he) (by rw [bindsAny_eq]; exact hb)
          exact ih e.on hlt (by omega)
        rw [hnil] at this; cases this
  intro fuel
  induction fuel with
  | zero =>
    intro listed m g w a h hc
    have hall : ∀ i, i < ops.size → lst listed i := fun i hi => by
      have h0 : (List.range ops.size).filter (fun i => !listed.getD i false) = [] := List.eq_nil_of_length_eq_zero (Nat.le_zero.1 hc)
      unfold lst
      cases hq : listed.getD i false with
      | true => rfl
      | false =>
        have : i ∈ (List.range ops.size).filter (fun i => !listed.getD i false) := List.mem_filter.2 ⟨List.mem_range.2 hi, by simp [hq]⟩
        rw [h0] at this; cases this
    refine ⟨?_, fin listed m g w a h hall⟩
    cases hr : Region.ready .any ops listed with
    | nil => rfl
    | cons i is =>
      have : i ∈ Region.ready .any ops listed := by rw [hr]; simp
      obtain ⟨h1, o, ho, _⟩ := mem_ready.1 this
      have hi := (Array.getElem?_eq_some_iff.1 ho).1
      exact absurd (hall i hi) ((lst_true (by rw [h.size]; exact hi)).1 h1)
  | succ fuel ih =>
    intro listed m g w a h hc
    refine ⟨fun hnil => fin listed m g w a h (ready_nil listed m g w a h hnil), fun i hi => ?_⟩
    obtain ⟨h1, o, ho, _⟩ := mem_ready.1 hi
    have hil := (Array.getElem?_eq_some_iff.1 ho).1
    have hnl := (lst_true (by rw [h.size]; exact hil)).1 h1
    refine h.op hE hM hH hT0 hF hA hgl hNS hpS hS0 hi (fun m' g' w' a' h' => ih _ _ _ _ _ h' ?_)
    have : cnt (listed.setIfInBounds i true) ops.size < cnt listed ops.size := by
      unfold cnt
      refine cnt_lt (i := i) (fun j hj => ?_) (List.mem_range.2 hil) ?_ ?_
      · have hj' : ¬ lst (listed.setIfInBounds i true) j := by unfold lst; simpa using hj
        rw [lst_set (by rw [h.size]; exact hil)] at hj'
        have : ¬ lst listed j := fun q => hj' (.inl q)
        unfold lst at this; simpa using this
      · unfold lst at hnl; simpa using hnl
      · have : lst (listed.setIfInBounds i true) i := (lst_set (by rw [h.size]; exact hil)).2 (.inr rfl)
        unfold lst at this; simp [this]
    omega
end
theorem draw_ok {R : Type} {P : Program} {E : Env} (hE : EnvOK P E) {ev : Evs R} (hev : Sound P E ev) {f : FuncId} {id : Nat} {ops : Array Oper} {K : List V → St → Option R} {t : List V} {s : St} {r : R} (h : draw E ev f ops K t s = some r) :
    ∃ t' s', K t' s' = some r ∧ CodeOK P E (.region id ops true) t s .norm t' s' := by
  unfold draw at h
  split at h
  · rename_i ms t1 s1 hs hm hh
    have hM := masks_all hm
    have hH := hoist_ok hh
    let T0 : Tr := ⟨fun _ => t1, fun _ => s1, fun _ => s1, fun _ => .undef, fun _ => ⟨none, [], [], false, [], 0, false⟩⟩
    obtain ⟨T, e1, e2, hF, hA, hK⟩ := runDraw_facts (ms := ms) (ob := hsAt ops.toList hs) hev ops.toList ms hs 0 [] [] t1 s1 T0 (fun j => by simp) (fun j => by simp) (fun j o _ _ => by simp) rfl rfl rfl (fun i hi => by omega)
      (fun m => ⟨0, Nat.le_refl _, rfl, fun e he => by omega, .inl rfl⟩) h
    simp only [Nat.zero_add, Array.length_toList] at hF hA hK
    refine ⟨_, _, hK, fun rd n Q g w a W hgl hI hT hR hMk hW hQ => wpIn_region_any hE.mixed ?_⟩
    have hN : g.N = s.next := hI.N
    let w0 : World := { w with drawn := w.drawn + 1 }
    have hI0 : Inv g s w0 := hI.heap_eq rfl
    have hst0 : Step g s w g s w0 := ⟨hI0, .refl _ _, ⟨rfl, rfl, rfl, Nat.le_refl _, fun _ _ _ => rfl⟩, .refl _⟩
    have hN1 : g.N ≤ s1.next := by rw [hN]; exact hH.next
    refine sim_all (gS := g) (wS := w0) (W := W) hE hM hH e1 hF hA hgl hN hI.pd e2 (fun g' a' w' q1 q2 q3 => hQ g' a' w' q1 (hst0.trans q2) q3) ops.size _ 0 (g.await s1.next) w0 a ?_ ?_
    · have hnot : ∀ j, ¬ lst (Array.replicate ops.size false) j := fun j => by
        unfold lst
        simp [Array.getD_eq_getD_getElem?, Array.getElem?_replicate]
        split <;> rfl
      have hmv := move_await hN1
      refine ⟨by simp, fun i o hi => absurd hi (hnot i), fun e _ => ⟨fun q => absurd q (hnot e), fun q => by omega⟩, Nat.zero_le _, ?_, fun o => ?_, fun i hi _ => ?_, ⟨t, ?_, VRL.move hmv _ _ hT⟩, ?_, .refl _ _, ?_, fun e he => by omega⟩
      · rw [e2]; exact hI0.await hH.next hH.old
      · simp only [G.await]
        refine or_congr Iff.rfl ⟨fun ⟨q1, q2⟩ => ?_, fun ⟨i, ⟨o', q1, q2⟩, _, q3⟩ => ?_⟩
        · obtain ⟨j, o', q3, q4, q5⟩ := hH.onto o (by omega) q2
          exact ⟨j, ⟨o', by simpa using q3, q4⟩, hnot j, q5⟩
        · obtain ⟨k1, k2, _⟩ := hH.made i o' (by simpa using q1) q2
          omega
      · obtain ⟨o', q1, q2⟩ := hi
        obtain ⟨k1, k2, _⟩ := hH.made i o' (by simpa using q1) q2
        refine ⟨k2, ?_⟩
        cases hx : (g.await s1.next).O (hsAt ops.toList hs i) with
        | none => rfl
        | some r' => have := hI.dom _ r' hx; omega
      · exact ⟨rfl, fun j o d _ hl => absurd hl (hnot j), fun _ _ => rfl⟩
      · exact ⟨fun _ _ _ h => h, fun _ _ _ h => .inl h, fun o _ r' h => ⟨r', h, .inl rfl⟩, fun o r' h => .inl ⟨o, r', h, rfl⟩, hN1, rfl, rfl⟩
      · obtain ⟨rs, q1, q2, q3⟩ := hMk
        exact ⟨rs, q1, q2, q3⟩
    · unfold cnt
      refine Nat.le_trans (List.length_filter_le _ _) (by simp)
  · cases h
end Go.Ev
/- Code, calls. -/
namespace Go.Ev
theorem hget_hrem_ne {h : Heap} {i o : Nat} (hne : i ≠ o) : hget (hrem h i) o = hget h o := by
  induction h with
  | nil => rfl
  | cons p h ih =>
    obtain ⟨k, x⟩ := p
    simp only [hrem]
    cases hk : Nat.beq k i with
    | true =>
      have := nbeq_iff.1 hk
      subst this
      simp only [cond_true, hget, nbeq_ne hne, cond_false]; exact ih
    | false => simp only [cond_false, hget, ih]
theorem hget_hrem_same {h : Heap} {i : Nat} : hget (hrem h i) i = none := by
  induction h with
  | nil => rfl
  | cons p h ih =>
    obtain ⟨k, x⟩ := p
    simp only [hrem]
    cases hk : Nat.beq k i with
    | true => simp only [cond_true]; exact ih
    | false => simp only [cond_false, hget, hk, ih]
/-- A block that is no object's. -/
theorem Inv.alloc {g : G} {s : St} {w : World} (hI : Inv g s w) (o : Go.Obj) : Step g s w g s (w.alloc o) := by
  have hk : ∀ b, b < w.heap.size → (w.alloc o).heap[b]? = w.heap[b]? := fun b hb => heap_alloc_old w o hb
  refine ⟨⟨hI.N, fun b i v hv => ?_, fun o1 obj ho hg => ?_, hI.dom, hI.inj, fun o1 r h => ?_, hI.gl, hI.pd⟩, .refl _ _, ⟨rfl, rfl, rfl, by simp, fun k hk1 _ => hk k hk1⟩, .refl _⟩
  · have := hI.S b i v hv
    rw [cell_kept' (hk b (block_of_cell this))]; exact this
  · rcases hI.live o1 obj ho hg with h | ⟨r, h1, h2⟩
    · exact .inl h
    · exact .inr ⟨r, h1, h2.heap (hk _ (hI.lt o1 r h1))⟩
  · have := hI.lt o1 r h; simp; omega
/-- A block that is no object's turns. -/
theorem Inv.other {g : G} {s : St} {w : World} (hI : Inv g s w) {b : Nat} {o o' : Go.Obj} (hb : ∀ x r, g.O x = some r → r.b ≠ b) (ho : w.heap[b]? = some o) (hc : ∀ c T fz, o ≠ .cells c T fz) : Inv g s (w.putObj b o') := by
  have hk : ∀ k, k ≠ b → (w.putObj b o').heap[k]? = w.heap[k]? := fun k h => World.putObj_heap_other h
  have hne : ∀ b' i v, g.S b' i = some v → b' ≠ b := fun b' i v hv he => by
    subst he
    have := hI.S b' i v hv
    simp only [World.cell?, ho] at this
    cases o <;> simp at this
    exact absurd rfl (hc _ _ _)
  refine ⟨hI.N, fun b' i v hv => ?_, fun o1 obj ho1 hg => ?_, hI.dom, hI.inj, fun o1 r h => ?_, hI.gl, hI.pd⟩
  · rw [cell_kept' (hk b' (hne b' i v hv))]; exact hI.S b' i v hv
  · rcases hI.live o1 obj ho1 hg with h | ⟨r, h1, h2⟩
    · exact .inl h
    · exact .inr ⟨r, h1, h2.heap (hk _ (hb o1 r h1))⟩
  · simpa using hI.lt o1 r h
theorem Marks.alloc {g : G} {s : St} {w : World} {W : Nat} {ds : List Deferred} (hI : Inv g s w) (h : Marks g w W ds) (hW : W ≤ w.heap.size) : Marks g (w.alloc (.deferred (some []))) W (mk1 w.heap.size :: ds) := by
  obtain ⟨rs, h1, h2, h3⟩ := h
  refine ⟨w.heap.size :: rs, by rw [h1]; rfl, ?_, fun r hr => ?_⟩
  · refine List.nodup_cons.2 ⟨fun hm => ?_, h2⟩
    have := Marks.lt (h3 _ hm).2.1
    omega
  · rcases List.mem_cons.1 hr with rfl | hr
    · exact ⟨hW, heap_alloc_new w _, fun o rc ho => by have := hI.lt o rc ho; omega⟩
    · obtain ⟨k1, k2, k3⟩ := h3 r hr
      exact ⟨k1, by rw [heap_alloc_old w _ (Marks.lt k2)]; exact k2, k3⟩
theorem Marks.push {g : G} {w : World} {W : Nat} {ds : List Deferred} {rc : ORec} (o : Go.Obj) (h : Marks g w W ds) (hb : rc.b = w.heap.size) : Marks (g.push rc) (w.alloc o) W ds := by
  obtain ⟨rs, h1, h2, h3⟩ := h
  refine ⟨rs, h1, h2, fun r hr => ?_⟩
  obtain ⟨k1, k2, k3⟩ := h3 r hr
  refine ⟨k1, by rw [heap_alloc_old w _ (Marks.lt k2)]; exact k2, fun o rc' ho => ?_⟩
  simp only [G.push] at ho
  split at ho
  · cases ho; have := Marks.lt k2; omega
  · exact k3 o rc' ho
/-- A new loop's record. -/
theorem push_loop {g : G} {s : St} {w : World} {f fn : FuncId} {t : List V} {ps : List Nat} {as bd : Code} {tm : List Value} {df : Nat} (hI : Inv g s w) (ht : VRL g t tm) :
    Step g s w (g.push ⟨w.heap.size, 0, 0, 0⟩) (s.push (.loop f t ps as bd none false)) (w.alloc (.loop { state := .ready, pending := none, fn := fn, tmps := ⟨tm⟩, params := ⟨ps⟩, assign := as, body := bd, defers := df })) := by
  have e : Ext w.heap.size g (g.push ⟨w.heap.size, 0, 0, 0⟩) := .push (Nat.le_refl _)
  refine hI.push (r := ⟨w.heap.size, 0, 0, 0⟩) (.alloc _ _) rfl rfl ⟨rfl, fun k => hI.S_new (Nat.le_refl _) k, tm, df, fn, ht.mono e, heap_alloc_new w _⟩

section
variable {R : Type} {P : Program} {E : Env} (hE : EnvOK P E) {ev : Evs R} (hev : Sound P E ev)
include hev
theorem range_ok {f : FuncId} {g : Operand} {ps : Array Tmp} {as bd : Code} {K : Kc R} {t : List V} {s : St} {r : R} (h : codeStep E ev f (.rangeFunc g ps as bd) K t s = some r) :
    ∃ ex t' s', K ex t' s' = some r ∧ CodeOK P E (.rangeFunc g ps as bd) t s ex t' s' := by
  simp only [codeStep] at h
  split at h
  · rename_i f' caps hx
    split at h
    · rename_i hintr
      obtain ⟨v, s2, h1, _, h2⟩ := hev.call _ _ _ _ _ h
      have hC := h2 hintr
      split at h1
      · rename_i f3 t3 ps3 as3 bd3 pd hg2
        refine ⟨_, _, _, h1, ?_⟩
        intro rd n Q G0 w a W hgl hI hT hR hM hW hQ
        have hxv := opnd_ok hI hgl hT g
        rw [hx] at hxv
        simp only [VR] at hxv
        obtain ⟨ccaps, hcx, hcap⟩ := hxv
        refine wpIn_rangeFunc (fun fn _ => ?_)
        -- the record is laid
        obtain ⟨mark, w0, df, hent, hS0, hM0, hmk⟩ : ∃ (mark : List Deferred) (w0 : World) (df : Nat),
            (Instr.enterLoop fn a.tmps ps as bd rd).run P w = .ok (w0.heap.size, mark) (w0.alloc (.loop { state := .ready, pending := none, fn := fn, tmps := a.tmps, params := ps, assign := as, body := bd, defers := df })) ∧
            Step G0 s.fresh w G0 s.fresh w0 ∧ Marks G0 w0 W (mark ++ a.defers) ∧ W ≤ w0.heap.size := by
          cases rd with
          | none =>
            refine ⟨[mk1 w.heap.size], w.alloc (.deferred (some [])), w.heap.size, ?_, hI.fresh.alloc _, hM.alloc hI hW, by simp; omega⟩
            rw [run_enterLoop_outer]; simp [mk1]
          | some l0 =>
            obtain ⟨o, rc, q1, q2, q3, q4, q5⟩ := hR l0 rfl
            obtain ⟨rc', q6, _, L, q7⟩ := loop_rec hI q1 q2 q3
            rw [q4] at q6; cases q6
            rw [q5] at q7
            exact ⟨[], w, L.defers, run_enterLoop_inner q7 fn _ _ _ _, .refl hI.fresh, hM, hW⟩
        have hT0 : VRL G0 t a.tmps.toList := hT
        have hS1 := push_loop (f := f) (fn := fn) (ps := ps.toList) (as := as) (bd := bd) (df := df) hS0.inv hT0
        have hM1 := hM0.push (rc := ⟨w0.heap.size, 0, 0, 0⟩) (.loop { state := .ready, pending := none, fn := fn, tmps := a.tmps, params := ps, assign := as, body := bd, defers := df }) rfl
        have hN : G0.N = s.next := hI.N
        let g1 := G0.push ⟨w0.heap.size, 0, 0, 0⟩
        let w1 := w0.alloc (.loop { state := .ready, pending := none, fn := fn, tmps := a.tmps, params := ps, assign := as, body := bd, defers := df })
        have hS1' : Step G0 s.fresh w0 g1 (s.fresh.push (.loop f t ps.toList as bd none false)) w1 := hS1
        have hO1 : g1.O s.next = some ⟨w0.heap.size, 0, 0, 0⟩ := by rw [← hN]; exact G.push_N
        have hlt1 : s.next < g1.N := by rw [hS1'.inv.N]; simp [St.push, St.fresh]
        have hnp1 : ¬ g1.pend s.next := fun hp => by have := hI.pd _ hp; omega
        have hyv : VR g1 (.yld s.next) (.func (.yield w0.heap.size) #[] #[]) := by
          simp only [VR]
          refine ⟨hlt1, hnp1, rfl, fun r' hr' => ?_⟩
          rw [hO1] at hr'; cases hr'
          exact ⟨Nat.le_refl _, fun _ => rfl⟩
        have hcargs : VRL g1 (.yld s.next :: caps) (.func (.yield w0.heap.size) #[] #[] :: ccaps) := by
          simp only [VRL]; exact ⟨hyv, hcap.mono (hS0.trans hS1').ext⟩
        obtain ⟨hcf, hcall⟩ := hC g1 w1 _ hgl hS1'.inv hcargs
        refine ⟨w0.heap.size, mark, w1, { target := .fn (.func f') ⟨ccaps⟩, args := #[.func (.yield w0.heap.size) #[] #[]] }, w1, f', ⟨.func (.yield w0.heap.size) #[] #[] :: ccaps⟩, w1, hent, ?_, fun _ _ => trivial, ?_, fun h => by simp [Fence.wide] at h, ?_⟩
        · have := resolve_value (P := P) (ρ := a.eval) (c := rangeCall g w0.heap.size) (x := g) (ty := 0) (w := w1) rfl hcx
          rw [this]; simp [Act.eval]
        · rw [← hcf]; simp [invoke]
        · refine CallsIn.mono (callsIn_wide.2 hcall : CallsIn (Fd rd) (n - 1) P f' _ w1 _) fun e w2 he => ?_
          obtain ⟨cv, rfl, g2, hv2, hS2⟩ := he
          have hlt2 : s.next < g2.N := Nat.lt_of_lt_of_le hlt1 hS2.ext.N
          have hnp2 : ¬ g2.pend s.next := by rw [hS2.ext.pend]; exact hnp1
          obtain ⟨rc, tm, df', fn', ho, hver, hSS, ht, hw⟩ := loop_live hS2.inv hlt2 hnp2 hg2
          have he := loop_same hS2.ext hlt1 hO1 ho hver
          subst he
          have hb : w0.heap.size < w2.heap.size := (Array.getElem?_eq_some_iff.1 hw).1
          have hend := run_endLoop (P := P) hw (by cases pd <;> simp [loopState])
          refine ⟨_, _, hend, ?_⟩
          -- the record is forgotten
          let w3 := w2.putObj w0.heap.size (.loop { state := .exhausted, pending := pd.map exCode, fn := fn', tmps := ⟨tm⟩, params := ⟨ps3⟩, assign := as3, body := bd3, defers := df' })
          let s3 : St := { s2 with heap := hrem s2.heap s.next }
          have hI3 : Inv g2 s3 w3 := by
            have hk : ∀ b, b ≠ w0.heap.size → w3.heap[b]? = w2.heap[b]? := fun b hb => World.putObj_heap_other hb
            refine ⟨hS2.inv.N, fun b i v hv => ?_, fun o1 obj ho1 hg1 => ?_, hS2.inv.dom, hS2.inv.inj, fun o1 r1 h => ?_, hS2.inv.gl, hS2.inv.pd⟩
            · have hbne : b ≠ w0.heap.size := fun he => by subst he; rw [hSS i] at hv; cases hv
              rw [cell_kept' (hk b hbne)]; exact hS2.inv.S b i v hv
            · by_cases hoo : o1 = s.next
              · subst hoo
                rw [show s3.heap = hrem s2.heap s.next from rfl, hget_hrem_same] at hg1; cases hg1
              · rw [show s3.heap = hrem s2.heap s.next from rfl, hget_hrem_ne (Ne.symm hoo)] at hg1
                rcases hS2.inv.live o1 obj ho1 hg1 with h | ⟨r1, h3, h4⟩
                · exact .inl h
                · exact .inr ⟨r1, h3, h4.heap (hk _ (fun he => hoo (hS2.inv.inj _ _ _ _ h3 ho he)))⟩
            · show r1.b < (w2.putObj _ _).heap.size
              simpa using hS2.inv.lt o1 r1 h
          have h02 := hS0.trans (hS1'.trans hS2)
          have hW0 : w.heap.size ≤ w0.heap.size := hS0.frame.size
          have hS3 : Step G0 s.fresh w g2 s3 w3 := by
            refine ⟨hI3, h02.ext, ⟨h02.frame.os, h02.frame.tape, h02.frame.output, by show w.heap.size ≤ (w2.putObj _ _).heap.size; simpa using h02.frame.size, fun k hk1 hk2 => ?_⟩, ⟨h02.keep.mark, h02.keep.next, h02.keep.sub, fun o h3 h4 h5 => ?_, fun o h3 h4 h5 els opn h6 => ?_, fun o h3 h4 => ?_⟩⟩
            · rw [← h02.frame.block k hk1 hk2]
              exact World.putObj_heap_other (by omega)
            · have h4' : o < s.next := h4
              rw [← h02.keep.keep o h3 h4 h5]
              exact hget_hrem_ne (by omega)
            · have h4' : o < s.next := h4
              obtain ⟨els', h7, h8⟩ := h02.keep.cells o h3 h4 h5 els opn h6
              exact ⟨els', by rw [show s3.heap = hrem s2.heap s.next from rfl, hget_hrem_ne (by omega)]; exact h7, h8⟩
            · have h3' : o < s.next := h3
              obtain ⟨f4, t4, p4, a4, b4, d4, z4, h7⟩ := h02.keep.loop o h3 h4
              exact ⟨f4, t4, p4, a4, b4, d4, z4, by rw [show s3.heap = hrem s2.heap s.next from rfl, hget_hrem_ne (by omega)]; exact h7⟩
          obtain ⟨g4, hS4, hsub⟩ := leaveSt_ok hI hS3
          have hM2 := hM1.step hS2
          have hM4 : Marks g4 w3 W (mark ++ a.defers) := by
            obtain ⟨rs, m1, m2, m3⟩ := hM2
            refine ⟨rs, m1, m2, fun r1 hr1 => ?_⟩
            obtain ⟨k1, k2, k3⟩ := m3 r1 hr1
            have hne : r1 ≠ w0.heap.size := fun he => k3 _ _ ho he.symm
            exact ⟨k1, by rw [show w3.heap[r1]? = w2.heap[r1]? from World.putObj_heap_other hne]; exact k2, fun o rc ho4 => k3 o rc (hsub o rc ho4)⟩
          have hT4 : TR g4 t { a with defers := mark ++ a.defers } := hT.mono hS4.ext
          cases pd with
          | none => exact hQ g4 { a with defers := mark ++ a.defers } w3 hT4 hS4 hM4
          | some e =>
            cases e with
            | norm => exact wpIn_skip (hQ g4 { a with defers := mark ++ a.defers } w3 hT4 hS4 hM4)
            | exit id => exact wpIn_exit (hQ g4 { a with defers := mark ++ a.defers } w3 hT4 hS4 hM4)
            | ret => exact wpIn_ret (hQ g4 { a with defers := mark ++ a.defers } w3 hT4 hS4 hM4)
      · cases h1
    · cases h
  · cases h
end
end Go.Ev
/- Code and calls, joined. -/
namespace Go.Ev
theorem VRL.forget {g : G} {t : List V} {vs : List Value} (h : VRL g t vs) (i : Nat) : VRL g (tset t i .undef) vs := by
  rw [tset_eq]
  refine VRL.of_get (by simp [h.length]) (fun j y u hy hu => ?_)
  rw [List.getElem?_set] at hy
  by_cases hij : i = j
  · subst hij
    by_cases hl : i < t.length
    · simp [hl] at hy; subst hy; simp [VR]
    · simp [hl] at hy
  · simp [hij] at hy
    obtain ⟨v, h1, h2⟩ := h.get hy
    rw [hu] at h1; cases h1; exact h2
theorem VRL.scrub {g : G} : ∀ (l : List Nat) {t : List V} {vs : List Value}, VRL g t vs → VRL g (scrubL l t) vs
  | [], _, _, h => h
  | i :: l, _, _, h => VRL.scrub l (h.forget i)
section
variable {R : Type} {P : Program} {E : Env} (hE : EnvOK P E) {ev : Evs R} (hev : Sound P E ev)
include hE hev
theorem codeStep_ok {f : FuncId} {c : Code} {K : Kc R} {t : List V} {s : St} {r : R} (h : codeStep E ev f c K t s = some r) :
    ∃ ex t' s', K ex t' s' = some r ∧ CodeOK P E c t s ex t' s' ∧ ∀ b, c = .loop b → LoopOK P E b t s ex t' s' := by
  have noloop : ∀ {ex t' s'}, (∀ b, c ≠ .loop b) → K ex t' s' = some r → CodeOK P E c t s ex t' s' → ∃ ex t' s', K ex t' s' = some r ∧ CodeOK P E c t s ex t' s' ∧ ∀ b, c = .loop b → LoopOK P E b t s ex t' s' :=
    fun hn h1 h2 => ⟨_, _, _, h1, h2, fun b hb => absurd hb (hn b)⟩
  have h0 := h
  unfold codeStep at h
  split at h
  · exact noloop (by simp) h fun rd n Q g w a W hgl hI hT hR hM hW hQ => wpIn_skip (hQ g a w hT (.refl hI) hM)
  · exact noloop (by simp) h fun rd n Q g w a W hgl hI hT hR hM hW hQ => wpIn_label (hQ g a w hT (.refl hI) hM)
  · obtain ⟨t', s', h1, h2⟩ := region_ok hE hev h
    exact noloop (by simp) h1 h2
  · obtain ⟨t', s', h1, h2⟩ := draw_ok hE hev h
    exact noloop (by simp) h1 h2
  · rename_i a b
    obtain ⟨ex, t1, s1, h1, hA, _⟩ := hev.code _ _ _ _ _ _ h
    cases ex with
    | norm =>
      simp only at h1
      obtain ⟨ex2, t2, s2, h2, hB, _⟩ := hev.code _ _ _ _ _ _ h1
      refine noloop (by simp) h2 fun rd n Q g w act W hgl hI hT hR hM hW hQ => wpIn_seq ?_
      refine hA rd n _ g w act W hgl hI hT hR hM hW fun g1 a1 w1 hT1 hS1 hM1 => ?_
      exact hB rd n _ g1 w1 a1 W (hS1.ext.gl.trans hgl) hS1.inv hT1 (hR.step hI hS1) hM1 (Nat.le_trans hW hS1.frame.size) fun g2 a2 w2 hT2 hS2 hM2 => hQ g2 a2 w2 hT2 (hS1.trans hS2) hM2
    | exit id =>
      refine noloop (by simp) h1 fun rd n Q g w act W hgl hI hT hR hM hW hQ => wpIn_seq ?_
      exact hA rd n _ g w act W hgl hI hT hR hM hW fun g1 a1 w1 hT1 hS1 hM1 => hQ g1 a1 w1 hT1 hS1 hM1
    | ret =>
      refine noloop (by simp) h1 fun rd n Q g w act W hgl hI hT hR hM hW hQ => wpIn_seq ?_
      exact hA rd n _ g w act W hgl hI hT hR hM hW fun g1 a1 w1 hT1 hS1 hM1 => hQ g1 a1 w1 hT1 hS1 hM1
  · rename_i cnd a b
    split at h
    · rename_i x hx
      have key : ∀ (c' : Code), ev.code f c' K t s = some r → (if x then a else b) = c' → ∃ ex t' s', K ex t' s' = some r ∧ CodeOK P E (.cond cnd a b) t s ex t' s' ∧ ∀ b', Code.cond cnd a b = .loop b' → LoopOK P E b' t s ex t' s' := by
        intro c' hc' he
        obtain ⟨ex, t1, s1, h1, hA, _⟩ := hev.code _ _ _ _ _ _ hc'
        refine noloop (by simp) h1 fun rd n Q g w act W hgl hI hT hR hM hW hQ => ?_
        have hv := opnd_ok hI hgl hT cnd
        rw [hx] at hv
        simp only [VR] at hv
        generalize hcv : act.eval cnd = cv at hv
        cases hv
        refine wpIn_cond hcv ?_
        rw [he]
        exact hA rd n _ g w act W hgl hI hT hR hM hW hQ
      cases x with
      | true => exact key a h rfl
      | false => exact key b h rfl
    · cases h
  · rename_i id b
    obtain ⟨ex, t1, s1, h1, hA, _⟩ := hev.code _ _ _ _ _ _ h
    cases ex with
    | norm =>
      refine noloop (by simp) h1 fun rd n Q g w act W hgl hI hT hR hM hW hQ => wpIn_block ?_
      exact hA rd n _ g w act W hgl hI hT hR hM hW fun g1 a1 w1 hT1 hS1 hM1 => hQ g1 a1 w1 hT1 hS1 hM1
    | ret =>
      refine noloop (by simp) h1 fun rd n Q g w act W hgl hI hT hR hM hW hQ => wpIn_block ?_
      exact hA rd n _ g w act W hgl hI hT hR hM hW fun g1 a1 w1 hT1 hS1 hM1 => hQ g1 a1 w1 hT1 hS1 hM1
    | exit i =>
      cases hi : Nat.beq i id with
      | true =>
        simp only [hi, cond_true] at h1
        have hii := nbeq_iff.1 hi
        refine noloop (by simp) h1 fun rd n Q g w act W hgl hI hT hR hM hW hQ => wpIn_block ?_
        exact hA rd n _ g w act W hgl hI hT hR hM hW fun g1 a1 w1 hT1 hS1 hM1 => by
          simp only [exitOf, Exit.inBlock, hii, if_true]; exact hQ g1 a1 w1 hT1 hS1 hM1
      | false =>
        simp only [hi, cond_false] at h1
        have hii : i ≠ id := fun he => by rw [nbeq_iff.2 he] at hi; cases hi
        refine noloop (by simp) h1 fun rd n Q g w act W hgl hI hT hR hM hW hQ => wpIn_block ?_
        exact hA rd n _ g w act W hgl hI hT hR hM hW fun g1 a1 w1 hT1 hS1 hM1 => by
          simp only [exitOf, Exit.inBlock, hii, if_false]; exact hQ g1 a1 w1 hT1 hS1 hM1
  · rename_i b
    obtain ⟨ex, t1, s1, h1, hA, _⟩ := hev.code _ _ _ _ _ _ h
    have fin : ∀ {ex t' s'}, K ex t' s' = some r → LoopOK P E b t s ex t' s' → ∃ ex t' s', K ex t' s' = some r ∧ CodeOK P E (.loop b) t s ex t' s' ∧ ∀ b', Code.loop b = .loop b' → LoopOK P E b' t s ex t' s' := by
      intro ex t' s' q1 q2
      refine ⟨ex, t', s', q1, fun rd n Q g w act W hgl hI hT hR hM hW hQ => wpIn_of_loopIn (q2 rd n Q g w act W hgl hI hT hR hM hW hQ), fun b' hb' => ?_⟩
      cases hb'; exact q2
    cases ex with
    | norm =>
      simp only at h1
      obtain ⟨ex2, t2, s2, h2, _, hB⟩ := hev.code _ _ _ _ _ _ h1
      refine fin h2 fun rd n Q g w act W hgl hI hT hR hM hW hQ => loopIn_once ?_
      refine hA rd n _ g w act W hgl hI (VRL.scrub _ hT) hR hM hW fun g1 a1 w1 hT1 hS1 hM1 => ?_
      exact hB b rfl rd n _ g1 w1 a1 W (hS1.ext.gl.trans hgl) hS1.inv hT1 (hR.step hI hS1) hM1 (Nat.le_trans hW hS1.frame.size) fun g2 a2 w2 hT2 hS2 hM2 => hQ g2 a2 w2 hT2 (hS1.trans hS2) hM2
    | exit id =>
      refine fin h1 fun rd n Q g w act W hgl hI hT hR hM hW hQ => loopIn_once ?_
      exact hA rd n _ g w act W hgl hI (VRL.scrub _ hT) hR hM hW fun g1 a1 w1 hT1 hS1 hM1 => hQ g1 a1 w1 hT1 hS1 hM1
    | ret =>
      refine fin h1 fun rd n Q g w act W hgl hI hT hR hM hW hQ => loopIn_once ?_
      exact hA rd n _ g w act W hgl hI (VRL.scrub _ hT) hR hM hW fun g1 a1 w1 hT1 hS1 hM1 => hQ g1 a1 w1 hT1 hS1 hM1
  · exact noloop (by simp) h fun rd n Q g w a W hgl hI hT hR hM hW hQ => wpIn_exit (hQ g a w hT (.refl hI) hM)
  · exact noloop (by simp) h fun rd n Q g w a W hgl hI hT hR hM hW hQ => wpIn_ret (hQ g a w hT (.refl hI) hM)
  · obtain ⟨ex, t', s', h1, h2⟩ := range_ok hev h0
    exact noloop (by simp) h1 h2
  · cases h
end
section
variable {P : Program} {E : Env} (hE : EnvOK P E)
theorem undefs_len (n : Nat) : (undefs n).length = n := by
  induction n with
  | zero => rfl
  | succ n ih => simp [undefs, ih]
theorem undefs_ok (g : G) : ∀ n : Nat, VRL g (undefs n) (List.replicate n undef)
  | 0 => by simp [undefs, VRL]
  | n + 1 => by simp only [undefs, List.replicate_succ, VRL]; exact ⟨by simp only [VR], undefs_ok g n⟩
include hE
theorem results_ok {g : G} {s : St} {w : World} {t : List V} {tm : Array Value} (hI : Inv g s w) (hT : VRL g t tm.toList) : ∀ {rs : List ResultVar} {vs : List V}, results E t s rs = some vs →
    ∃ cvs : List Value, (rs.mapM fun | .tmp t => pure (tm.getD t undef) | .cell a t => do loadVar t (← asAddr (tm.getD a undef)) : Sem (List Value)).run P w = .ok cvs w ∧ VRL g vs cvs
  | [], vs, h => by simp [results] at h; subst h; exact ⟨[], by simp, by simp [VRL]⟩
  | .tmp i :: rs, vs, h => by
    simp only [results] at h
    split at h
    · rename_i l hl
      simp only [Option.some.injEq] at h; subst h
      obtain ⟨cvs, h1, h2⟩ := results_ok hI hT hl
      have hv := tget_ok hT i
      refine ⟨tm.getD i undef :: cvs, ?_, by simp only [VRL]; exact ⟨by rwa [show tm.getD i undef = tm.toList.getD i undef by simp [Array.getD_eq_getD_getElem?]], h2⟩⟩
      simp only [List.mapM_cons, Sem.run_bind, Sem.run_pure, Result.andThen_ok, h1]
    · cases h
  | .cell a ty :: rs, vs, h => by
    simp only [results] at h
    split at h
    · rename_i i hi
      split at h
      · rename_i v l hv hl
        simp only [Option.some.injEq] at h; subst h
        obtain ⟨cvs, h1, h2⟩ := results_ok hI hT hl
        have hp := tget_ok hT a
        obtain ⟨cv, h3, h4⟩ := load_ok hE hI hi hp hv
        have hga : tm.getD a undef = tm.toList.getD a undef := by simp [Array.getD_eq_getD_getElem?]
        refine ⟨cv :: cvs, ?_, by simp only [VRL]; exact ⟨h4, h2⟩⟩
        simp only [List.mapM_cons, Sem.run_bind, hga]
        have : ((asAddr (tm.toList.getD a undef)).run P w).andThen (fun x => (loadVar ty x).run P) = .ok cv w := by
          revert h3 hp
          generalize tm.toList.getD a undef = cp
          intro hp h3
          cases cp with
          | pointer q =>
            cases q with
            | none => simp [Instr.loadAt, Instr.sureAddr] at h3
            | some ad => simpa [asAddr, Instr.loadAt, Instr.sureAddr] using h3
          | _ => simp [Instr.loadAt, Instr.sureAddr, stuck] at h3
        rw [this]
        simp only [Result.andThen_ok, h1, Sem.run_pure]
      · cases h
    · cases h
end
end Go.Ev
/- The evaluator is right. -/
namespace Go.Ev
theorem marks_leave {P : Program} {fn : Func} {tm : Array Value} {R : Ending → World → Prop} {n : Nat} {g g1 : G} {s s1 : St} {w : World}
    (hR : ∀ w2, Step g s w g1 s1 w2 → ∃ v, (Go.results fn tm).run P w2 = .ok v w2 ∧ R (.returned v) w2) : ∀ (rs : List Nat) (w1 : World), Step g s w g1 s1 w1 → rs.Nodup →
    (∀ r, r ∈ rs → w.heap.size ≤ r ∧ w1.heap[r]? = some (.deferred (some [])) ∧ ∀ o rc, g1.O o = some rc → rc.b ≠ r) → LeavesInM Fence.wide n P fn tm R (rs.map mk1) .returning w1
  | [], w1, hs, _, _ => by
    obtain ⟨v, h1, h2⟩ := hR w1 hs
    exact ⟨v, h1, h2⟩
  | r :: rs, w1, hs, hn, hm => by
    obtain ⟨k1, k2, k3⟩ := hm r (by simp)
    obtain ⟨n1, n2⟩ := List.nodup_cons.1 hn
    refine ⟨by simp, .inl ⟨r, _, rfl, run_takeDeferred k2, ?_⟩⟩
    have hs2 : Step g s w g1 s1 (w1.putObj r (.deferred none)) := by
      refine ⟨hs.inv.other k3 k2 (fun _ _ _ h => by cases h), hs.ext, ⟨hs.frame.os, hs.frame.tape, hs.frame.output, by simpa using hs.frame.size, fun k hk1 hk2 => ?_⟩, hs.keep⟩
      rw [← hs.frame.block k hk1 hk2]
      exact World.putObj_heap_other (by omega)
    refine marks_leave hR rs _ hs2 n2 (fun r' hr' => ?_)
    obtain ⟨q1, q2, q3⟩ := hm r' (by simp [hr'])
    have hne : r' ≠ r := fun he => n1 (he ▸ hr')
    exact ⟨q1, by rw [World.putObj_heap_other hne]; exact q2, q3⟩
section
variable {R : Type} {P : Program} {E : Env} (hE : EnvOK P E) {ev : Evs R} (hev : Sound P E ev)
include hE hev
theorem callStep_ok {f : FuncId} {args : List V} {K : V → St → Option R} {s : St} {r : R} (h : callStep E ev f args K s = some r) :
    ∃ v s', K v s' = some r ∧ InvokeOK P E.glob f args s v s' ∧ (E.intr f = none → CallsOK P E.glob f args s v s') := by
  unfold callStep at h
  split at h
  · rename_i g hg
    split at h
    · rename_i v s' hr
      exact ⟨v, s', h, hE.intr f g hg args s v s' hr, fun hn => by rw [hg] at hn; cases hn⟩
    · cases h
  · rename_i hn
    split at h
    · rename_i fi hfi
      obtain ⟨ex, t1, s1, h1, hB, _⟩ := hev.code _ _ _ _ _ _ h
      have key : ∀ (v : V) (s' : St), finish E f fi s t1 s1 = some (v, s') → (ex = .norm ∨ ex = .ret) → CallsOK P E.glob f args s v s' := by
        intro v s' hfin hex g w cargs hgl hI hargs
        obtain ⟨fn, f1, f2, f3, f4, f5⟩ := hE.fi f fi hfi
        refine ⟨by
          have h1 : fn.name ≠ "runtime.NumGoroutine" := by simpa using f2
          simp [callFunc, f1, h1, f3], callsIn_wide.1 (callsIn_of_wp_marks (n := 0) f1 f3 trivial ?_)⟩
        have hT : TR g (args ++ undefs (fi.ntmps - args.length)) { tmps := (⟨cargs⟩ : Array Value) ++ Array.replicate (fn.ntmps - (⟨cargs⟩ : Array Value).size) undef, defers := [] } := by
          unfold TR
          simp only [Array.toList_append, Array.toList_replicate]
          rw [f4, show (⟨cargs⟩ : Array Value).size = args.length by simp [hargs.length]]
          exact hargs.append (undefs_ok g _)
        refine hB none 0 _ g w _ w.heap.size hgl hI.fresh hT (RdOK.none _ _) (Marks.nil _ _ _) (Nat.le_refl _) (fun g1 a1 w1 hT1 hS1 hM1 => ?_)
        have hgoal : LeavesInM Fence.wide 0 P fn a1.tmps (fun e w' => ∃ cv, e = .returned cv ∧ ∃ g', VR g' v cv ∧ Step g s w g' s' w') a1.defers .returning w1 := by
          obtain ⟨rs, m1, m2, m3⟩ := hM1
          rw [m1]
          refine marks_leave (g := g) (s := s.fresh) (w := w) (fun w2 hS2 => ?_) rs w1 hS1 m2 m3
          unfold finish at hfin
          split at hfin
          · rename_i vs hvs
            obtain ⟨cvs, c1, c2⟩ := results_ok hE hS2.inv (tm := a1.tmps) hT1 hvs
            cases hlv : leave (E.keep f) s s1 vs with
            | mk us s2 =>
              rw [hlv] at hfin
              simp only [Option.some.injEq, Prod.mk.injEq] at hfin
              obtain ⟨rfl, rfl⟩ := hfin
              obtain ⟨g2, d1, d2⟩ := leave_ok hI hS2 c2 hlv
              have hres : (Go.results fn a1.tmps).run P w2 = .ok (if h : (⟨cvs⟩ : Array Value).size = 1 then (⟨cvs⟩ : Array Value)[0] else .tuple ⟨cvs⟩) w2 := by
                unfold Go.results
                rw [Array.mapM_eq_mapM_toList, f5]
                revert c1
                generalize (fi.results.mapM _ : Sem (List Value)) = m
                intro c1
                simp [c1]
              refine ⟨_, hres, _, rfl, g2, ?_, d2⟩
              have hl := d1.length
              match us, cvs, d1 with
              | [u], [cv], d1 => simp only [VRL] at d1; simpa [oneOf] using d1.1
              | [], [], d1 => simp only [oneOf, VR]; exact ⟨[], by simp, by simp [VRL]⟩
              | u :: u' :: us, c :: c' :: cs, d1 => simp only [oneOf, VR]; exact ⟨_, by simp, d1⟩
              | [], _ :: _, d1 => simp [VRL] at d1
              | _ :: _, [], d1 => simp [VRL] at d1
              | [_], _ :: _ :: _, d1 => simp [VRL] at d1
              | _ :: _ :: _, [_], d1 => simp [VRL] at d1
          · cases hfin
        rcases hex with rfl | rfl <;> exact hgoal
      have fin : (match finish E f fi s t1 s1 with | some (v, s') => K v s' | none => none) = some r → (ex = .norm ∨ ex = .ret) → ∃ v s', K v s' = some r ∧ InvokeOK P E.glob f args s v s' ∧ (E.intr f = none → CallsOK P E.glob f args s v s') := by
        intro h2 hex
        split at h2
        · rename_i v s' hfin
          have := key v s' hfin hex
          exact ⟨v, s', h2, this.invoke, fun _ => this⟩
        · cases h2
      cases ex with
      | exit id => cases h1
      | norm => exact fin h1 (.inl rfl)
      | ret => exact fin h1 (.inr rfl)
    · cases h
theorem step_sound : Sound P E ⟨codeStep E ev, callStep E ev⟩ :=
  ⟨fun _ _ _ _ _ _ h => codeStep_ok hE hev h, fun _ _ _ _ _ h => callStep_ok hE hev h⟩
end
theorem evs_sound {R : Type} {P : Program} {E : Env} (hE : EnvOK P E) : ∀ n : Nat, Sound P E (evs R E n)
  | 0 => ⟨fun _ _ _ _ _ _ h => by (have h : (none : Option R) = some _ := h; cases h), fun _ _ _ _ _ h => by (have h : (none : Option R) = some _ := h; cases h)⟩
  | n + 1 => step_sound hE (evs_sound hE n)
/-- **What the evaluator computes, a call does.** -/
theorem run_sound {P : Program} {E : Env} (hE : EnvOK P E) {n : Nat} {f : FuncId} {args : List V} {s : St} {v : V} {s' : St} (hf : E.intr f = none) (h : (evs (V × St) E n).call f args (fun v s => some (v, s)) s = some (v, s')) : CallsOK P E.glob f args s v s' := by
  obtain ⟨v1, s1, h1, _, h2⟩ := (evs_sound hE n).call _ _ _ _ _ h
  simp only [Option.some.injEq, Prod.mk.injEq] at h1
  obtain ⟨rfl, rfl⟩ := h1
  exact h2 hf
end Go.Ev
/- What holds of a call on plain data in the empty state holds in every state. -/
namespace Go.Ev
def G.bare (g : G) : G := { S := g.S, O := fun _ => none, N := 0, pend := fun _ => False, gl := g.gl }
theorem Inv.bare {g : G} {s : St} {w : World} (h : Inv g s w) : Inv g.bare St.none w :=
  ⟨rfl, h.S, fun o obj ho => (by cases ho), fun o r h => (by cases h), fun o o' r r' h => (by cases h), fun o r h => (by cases h), h.gl, fun o h => h.elim⟩
theorem bare_vrl {g : G} {xs : List V} {vs : List Value} (h : VRL g xs vs) (hl : V.ltL 0 xs = true) : VRL g.bare xs vs :=
  VRL.move (g := g.trunc 0) (g' := g.bare) ⟨fun _ _ _ h => h, Nat.le_refl _, fun o ho => absurd ho (Nat.not_lt_zero o)⟩ _ _ (VRL.trunc xs vs h hl)
theorem lift_step {g g' : G} {s s' : St} {w w' : World} (hI : Inv g s w) (hs : Step g.bare St.none w g' s' w') {v : V} {cv : Value} (hv : VR g' v cv) (hl : V.lt 0 v = true) : ∃ g2, VR g2 v cv ∧ Step g s w g2 s w' := by
  have hmono : ∀ b i x, g.S b i = some x → g'.S b i = some x := hs.ext.S
  have hnew : ∀ b i x, g'.S b i = some x → g.S b i = some x ∨ w.heap.size ≤ b := fun b i x h => by
    rcases hs.ext.new b i x h with h | h | ⟨o, r, h, _⟩
    · exact .inl h
    · exact .inr h
    · cases h
  have hblk : ∀ b, b < w.heap.size → w'.heap[b]? = w.heap[b]? := fun b hb => hs.frame.block b hb (fun o r h => by cases h)
  have hsame : ∀ b, b < w.heap.size → ∀ k, g'.S b k = g.S b k := fun b hb k => by
    cases hk : g.S b k with
    | some x => exact hmono _ _ _ hk
    | none =>
      cases hk2 : g'.S b k with
      | none => rfl
      | some x =>
        rcases hnew b k x hk2 with h | h
        · rw [hk] at h; cases h
        · omega
  let g2 : G := { g with S := g'.S }
  have hmv : Move g g2 := ⟨hmono, Nat.le_refl _, fun o _ hp => ⟨hp, fun r h => h⟩⟩
  refine ⟨g2, VR.move (g := g'.trunc 0) (g' := g2) ⟨fun _ _ _ h => h, Nat.zero_le _, fun o ho => absurd ho (Nat.not_lt_zero o)⟩ _ _ (VR.trunc v cv hv hl), ⟨⟨hI.N, hs.inv.S, fun o obj ho hg => ?_, hI.dom, hI.inj, fun o r h => ?_, fun x cs h => (hI.gl x cs h).mono hmono, hI.pd⟩, ?_, ?_, .refl _⟩⟩
  · rcases hI.live o obj ho hg with h | ⟨r, h1, h2⟩
    · exact .inl h
    · have hb := hI.lt o r h1
      exact .inr ⟨r, h1, h2.move hmv (hsame r.b hb) (hblk _ hb)⟩
  · have h1 := hI.lt o r h
    have h2 := hs.frame.size
    omega
  · exact ⟨hmono, fun b i x h => (hnew b i x h).imp id .inl, fun o _ r h => ⟨r, h, .inl rfl⟩, fun o r h => .inl ⟨o, r, h, rfl⟩, Nat.le_refl _, rfl, rfl⟩
  · exact ⟨hs.frame.os, hs.frame.tape, hs.frame.output, hs.frame.size, fun k hk _ => hblk k hk⟩
theorem CallsOK.lift {P : Program} {gl : Nat → Option (List D)} {f : FuncId} {args : List V} {v : V} {s' : St} (h : CallsOK P gl f args St.none v s') (ha : V.ltL 0 args = true) (hv : V.lt 0 v = true) (s : St) : CallsOK P gl f args s v s := by
  intro g w cargs hgl hI hargs
  obtain ⟨h1, h2⟩ := h g.bare w cargs hgl hI.bare (bare_vrl hargs ha)
  refine ⟨h1, Calls.mono h2 fun e w' he => ?_⟩
  obtain ⟨cv, rfl, g', q1, q2⟩ := he
  exact ⟨cv, rfl, lift_step hI q2 q1 hv⟩
/-- A contract on plain data, out of the evaluator. -/
theorem contract {P : Program} {E : Env} (hE : EnvOK P E) {n : Nat} {f : FuncId} {args : List V} {v : V} {s' : St} (hf : E.intr f = none) (h : run E n f args = some (v, s')) (ha : V.ltL 0 args = true) (hv : V.lt 0 v = true) (s : St) : CallsOK P E.glob f args s v s :=
  (run_sound hE hf h).lift ha hv s
/-- A contract of a smaller environment serves a larger one. -/
structure Env.Le (E E' : Env) : Prop where
  ti : E'.ti = E.ti
  fi : E'.fi = E.fi
  glob : E'.glob = E.glob
  eqc : E'.eqc = E.eqc
theorem EnvOK.more {P : Program} {E E' : Env} (hE : EnvOK P E) (hl : E.Le E') (hi : ∀ f h, E'.intr f = some h → ∀ args s v s', h args s = some (v, s') → InvokeOK P E'.glob f args s v s') : EnvOK P E' :=
  ⟨hE.mixed, by rw [hl.ti]; exact hE.ti, by rw [hl.fi]; exact hE.fi, by rw [hl.eqc]; exact hE.eqc, hi⟩
end Go.Ev
/- Tables of types and of functions. -/
namespace Go.Ev
inductive Tab (α : Type) where
  | none
  | leaf (k : Nat) (v : α)
  | node (m : Nat) (l r : Tab α)
def Tab.get {α : Type} : Tab α → Nat → Option α
  | .none, _ => Option.none
  | .leaf k v, n => bif Nat.beq k n then some v else Option.none
  | .node m l r, n => bif Nat.blt n m then l.get n else r.get n
def Tab.All {α : Type} (p : Nat → α → Prop) : Tab α → Prop
  | .none => True
  | .leaf k v => p k v
  | .node _ l r => l.All p ∧ r.All p
theorem Tab.get_all {α : Type} {p : Nat → α → Prop} : ∀ {t : Tab α}, t.All p → ∀ {n : Nat} {v : α}, t.get n = some v → p n v
  | .none, _, n, v, h => by cases h
  | .leaf k v0, ha, n, v, h => by
    simp only [Tab.get] at h
    cases hk : Nat.beq k n with
    | false => simp [hk] at h
    | true =>
      simp only [hk, cond_true, Option.some.injEq] at h
      subst h
      have := nbeq_iff.1 hk
      subst this
      exact ha
  | .node m l r, ha, n, v, h => by
    simp only [Tab.get] at h
    cases hk : Nat.blt n m with
    | true => simp only [hk, cond_true] at h; exact Tab.get_all ha.1 h
    | false => simp only [hk, cond_false] at h; exact Tab.get_all ha.2 h
def TiOK (P : Program) (t : Nat) (i : TInfo) : Prop := P.underlying t = some i.desc ∧ ∃ pi, P.info? t = some pi ∧ pi.size = i.size ∧ pi.bytes = i.bytes ∧ ∃ z, pi.zero = some z ∧ i.zero = V.ofVals z.cells.toList ∧ z.cells.size = i.size
def FiOK (P : Program) (f : Nat) (i : FInfo) : Prop := ∃ fn, P.funcs[f]? = some fn ∧ (fn.name == "runtime.NumGoroutine") = false ∧ fn.body = some i.body ∧ fn.ntmps = i.ntmps ∧ fn.results.toList = i.results
def fiOf (fn : Func) : FInfo := ⟨fn.body.getD .skip, fn.ntmps, fn.results.toList⟩
def fiChk (fn : Func) : Bool := !(fn.name == "runtime.NumGoroutine") && fn.body.isSome
theorem FiOK.of {P : Program} {f : Nat} {fn : Func} (h : P.funcs[f]? = some fn) (hc : fiChk fn = true) : FiOK P f (fiOf fn) := by
  simp only [fiChk, Bool.and_eq_true, Bool.not_eq_true'] at hc
  refine ⟨fn, h, hc.1, ?_, rfl, rfl⟩
  obtain ⟨b, hb⟩ := Option.isSome_iff_exists.1 hc.2
  simp [fiOf, hb]
def zeroOf (i : TypeInfo) : List V := V.ofVals (i.zero.getD undef).cells.toList
theorem TiOK.of {P : Program} {t : Nat} {pi : TypeInfo} {d : TypeDesc} {n b : Nat} {zs : List V} (h1 : P.underlying t = some d) (h2 : P.info? t = some pi) (h3 : pi.size = n) (h4 : pi.bytes = b) (h5 : pi.zero.isSome = true) (h6 : zs = zeroOf pi) (h7 : Nat.beq (pi.zero.getD undef).cells.size n = true) :
    TiOK P t ⟨d, n, b, zs⟩ := by
  obtain ⟨z, hz⟩ := Option.isSome_iff_exists.1 h5
  simp only [zeroOf, hz, Option.getD_some] at h6 h7
  exact ⟨h1, pi, h2, h3, h4, z, hz, h6, nbeq_iff.1 h7⟩
end Go.Ev
