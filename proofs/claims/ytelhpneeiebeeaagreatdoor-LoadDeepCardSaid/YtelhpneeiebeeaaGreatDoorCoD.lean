/- Part CoD of the kept evaluator and its soundness; what each piece says stands ahead of it. No condition. -/
import Derived.Test.YtelhpneeiebeeaaGreatDoorCoC
import Derived.TacticsIn
import Derived.RangeFuncNested
import Derived.OrdersIn
/- Each operation that is no call of a function. -/
set_option maxHeartbeats 1000000
namespace Go.Ev
/-- What an operation hands on, and the state it leaves. -/
def OpDone (P : Program) (ρ : Operand → Value) (o : Oper) (g : G) (s : St) (w : World) (v : V) (s' : St) : Prop :=
  ∃ g' cv w', ((execOp ρ o).run P w = .ok (.value cv) w' ∨ ((execOp ρ o).run P w = .ok .skip w' ∧ cv = undef)) ∧ VR g' v cv ∧ Step g s w g' s' w'
theorem parts_ok {E : Env} {g : G} {s : St} {w : World} {t : List V} {a : Act} (hI : Inv g s w) (hgl : g.gl = E.glob) (hT : TR g t a) : ∀ l : List (Nat × Operand), PR g (partsV E t l) (l.map fun x => (x.1, a.eval x.2))
  | [] => by simp [partsV, PR]
  | (i, o) :: r => by simp only [partsV, List.map_cons, PR]; exact ⟨trivial, opnd_ok hI hgl hT o, parts_ok hI hgl hT r⟩
theorem opt_ok {E : Env} {g : G} {s : St} {w : World} {t : List V} {a : Act} (hI : Inv g s w) (hgl : g.gl = E.glob) (hT : TR g t a) (x : Option Operand) : VRO g (optOpnd E t x) (x.map a.eval) := by
  cases x with
  | none => simp [optOpnd, VRO]
  | some o => simp only [optOpnd, Option.map_some, VRO]; exact opnd_ok hI hgl hT o
section
variable {P : Program} {E : Env} (hE : EnvOK P E) {g : G} {s s' : St} {w : World} {t : List V} {a : Act} (hI : Inv g s w) (hgl : g.gl = E.glob) (hT : TR g t a)
include hE hI hgl hT
theorem builtin_ok {mu : Bool} {b : Builtin} {ats : Array TypeId} {ty : TypeId} {consts : Array Bool} {args : List Operand} {v : V} (h : builtin E mu b ats.toList (opnds E t args) s = some (v, s')) :
    ∃ g' cv w', (Go.builtin b ats ty consts ⟨args.map a.eval⟩).run P w = .ok (.value cv) w' ∧ VR g' v cv ∧ Step g s w g' s' w' := by
  have hargs := opnds_ok hI hgl hT args
  revert h hargs
  generalize opnds E t args = xs
  generalize args.map a.eval = cxs
  intro h hargs
  unfold builtin at h
  split at h
  · rename_i t0 ts x hats
    simp only [Option.map_eq_some_iff, Prod.mk.injEq] at h
    obtain ⟨v', h1, rfl, rfl⟩ := h
    match cxs, hargs with
    | [cx], hargs =>
      simp only [VRL] at hargs
      obtain ⟨cv, h2, h3⟩ := len_ok (ts := ts) (ty := ty) hE hI hargs.1 h1
      have : ats = ⟨t0 :: ts⟩ := by rw [← hats]
      subst this
      exact ⟨g, cv, w, by simp [Go.builtin, h2], h3, .refl hI⟩
  · rename_i t0 ts x y hats
    cases hn : notIntTy E ts with
    | false => simp [hn] at h
    | true =>
      simp only [hn, Bool.not_true, cond_false] at h
      split at h
      · rename_i ti hti
        split at h
        · rename_i e hd
          split at h
          · rename_i ei hei
            cases hb : Nat.ble ei.bytes 4096 with
            | false => simp [hb] at h
            | true =>
              simp only [hb, cond_true] at h
              match cxs, hargs with
              | [cx, cy], hargs =>
                simp only [VRL] at hargs
                obtain ⟨g', cv, w', h1, h2, h3⟩ := append_ok (ts := ts) (ty := ty) hE hI hti hd hei hn (ble_iff.1 hb) hargs.2.1 hargs.1 h
                have : ats = ⟨t0 :: ts⟩ := by rw [← hats]
                subst this
                exact ⟨g', cv, w', by simp [Go.builtin, h1], h2, h3⟩
          · cases h
        · cases h
      · cases h
  · rename_i t0 ts x y hats
    split at h
    · rename_i ti hti
      split at h
      · rename_i e hd
        split at h
        · rename_i ei hei
          match cxs, hargs with
          | [cx, cy], hargs =>
            simp only [VRL] at hargs
            obtain ⟨g', cv, w', h1, h2, h3⟩ := copy_ok (ts := ts) (ty := ty) hE hI hti hd hei hargs.1 hargs.2.1 h
            have : ats = ⟨t0 :: ts⟩ := by rw [← hats]
            subst this
            exact ⟨g', cv, w', by simp [Go.builtin, h1], h2, h3⟩
        · cases h
      · cases h
    · cases h
  · rename_i x r
    simp only [Option.map_eq_some_iff, Prod.mk.injEq] at h
    obtain ⟨v', h1, rfl, rfl⟩ := h
    match cxs, hargs with
    | cx :: cr, hargs =>
      simp only [VRL] at hargs
      obtain ⟨cv, h2, h3⟩ := fold2_ok (P := P) (w := w) (cf := Builtin.min2) (fun x y z cx cy hx hy h => min2_ok hx hy h w) hargs.1 hargs.2 h1
      exact ⟨g, cv, w, by simp [Go.builtin, Builtin.min_, h2], h3, .refl hI⟩
  · rename_i x r
    simp only [Option.map_eq_some_iff, Prod.mk.injEq] at h
    obtain ⟨v', h1, rfl, rfl⟩ := h
    match cxs, hargs with
    | cx :: cr, hargs =>
      simp only [VRL] at hargs
      obtain ⟨cv, h2, h3⟩ := fold2_ok (P := P) (w := w) (cf := Builtin.max2) (fun x y z cx cy hx hy h => max2_ok hx hy h w) hargs.1 hargs.2 h1
      exact ⟨g, cv, w, by simp [Go.builtin, Builtin.max_, h2], h3, .refl hI⟩
  · cases h
theorem op_ok {mu : Bool} {o : Oper} {v : V} (h : op E mu o.op t s = some (v, s')) : OpDone P a.eval o g s w v s' := by
  obtain ⟨dst, opr, typ, ps, aft, grd⟩ := o
  simp only at h
  have same : ∀ {cv : Value} (v' : V), v' = v → s' = s → (∀ w' : World, True) → VR g v' cv → (execOp a.eval ⟨dst, opr, typ, ps, aft, grd⟩).run P w = .ok (.value cv) w → OpDone P a.eval ⟨dst, opr, typ, ps, aft, grd⟩ g s w v s' := by
    intro cv v' h1 h2 _ h3 h4
    subst h1; subst h2
    exact ⟨g, cv, w, .inl h4, h3, .refl hI⟩
  have pure1 : ∀ {m : Sem Value} {v' : V}, (execOp a.eval ⟨dst, opr, typ, ps, aft, grd⟩) = (do pure (.value (← m))) → v' = v → s' = s → (∃ cv, m.run P w = .ok cv w ∧ VR g v' cv) → OpDone P a.eval ⟨dst, opr, typ, ps, aft, grd⟩ g s w v s' := by
    intro m v' h1 h2 h3 ⟨cv, h4, h5⟩
    exact same v' h2 h3 (fun _ => trivial) h5 (by rw [h1]; simp [h4])
  have done1 : ∀ {m : Sem Value}, (execOp a.eval ⟨dst, opr, typ, ps, aft, grd⟩) = (do pure (.value (← m))) → Done P m g s w v s' → OpDone P a.eval ⟨dst, opr, typ, ps, aft, grd⟩ g s w v s' := by
    intro m h1 ⟨g', cv, w', h4, h5, h6⟩
    exact ⟨g', cv, w', .inl (by rw [h1]; simp [h4]), h5, h6⟩
  unfold op at h
  split at h
  · rename_i x
    simp only [Option.some.injEq, Prod.mk.injEq] at h
    exact same _ h.1 h.2.symm (fun _ => trivial) (opnd_ok hI hgl hT x) (by simp [execOp])
  · rename_i x
    simp only [Option.some.injEq, Prod.mk.injEq] at h
    exact same _ h.1 h.2.symm (fun _ => trivial) (opnd_ok hI hgl hT x) (by simp [execOp])
  · rename_i c x y
    have hc := opnd_ok hI hgl hT c
    split at h
    · rename_i hb
      rw [hb] at hc; simp only [VR] at hc
      simp only [Option.some.injEq, Prod.mk.injEq] at h
      have he : a.eval c = .bool true := by cases hv : a.eval c <;> rw [hv] at hc <;> cases hc; rfl
      exact same _ h.1 h.2.symm (fun _ => trivial) (opnd_ok hI hgl hT x) (by simp [execOp, he, asBool])
    · rename_i hb
      rw [hb] at hc; simp only [VR] at hc
      simp only [Option.some.injEq, Prod.mk.injEq] at h
      have he : a.eval c = .bool false := by cases hv : a.eval c <;> rw [hv] at hc <;> cases hc; rfl
      exact same _ h.1 h.2.symm (fun _ => trivial) (opnd_ok hI hgl hT y) (by simp [execOp, he, asBool])
    · cases h
  · rename_i e
    split at h
    · rename_i i hi
      cases hc : (Nat.beq i.zero.length i.size && Nat.ble 1 i.size && allOne i.zero) with
      | false => simp [hc] at h
      | true =>
        simp only [hc, cond_true, Option.some.injEq, Prod.mk.injEq] at h
        obtain ⟨rfl, rfl⟩ := h
        simp only [Bool.and_eq_true] at hc
        obtain ⟨⟨c1, c2⟩, c3⟩ := hc
        have c1 := nbeq_iff.1 c1
        have c2 := ble_iff.1 c2
        obtain ⟨z, hz, hz2, hz3⟩ := hE.run_zero hi w
        have hz0 : VRL g i.zero z.cells.toList := by rw [hz2]; exact ofVals_ok g _
        obtain ⟨g', h1, h2⟩ := new1_ok (w' := w.alloc (.cells z.cells e)) (T := e) (fz := (0, 0)) (cvs := z.cells.toList) hI (.alloc _ _) rfl hz0 c3 (by omega) (fun k _ => by simp)
        exact ⟨g', _, _, .inl (by simp [execOp, Instr.alloc, hz, newVar, newRow]), h1, h2⟩
    · cases h
  · rename_i e x
    have hx := opnd_ok hI hgl hT x
    cases hc : (allOne (opnd E t x).cells && Nat.ble 1 (opnd E t x).cells.length) with
    | false => simp [hc] at h
    | true =>
      simp only [hc, cond_true, Option.some.injEq, Prod.mk.injEq] at h
      obtain ⟨rfl, rfl⟩ := h
      simp only [Bool.and_eq_true] at hc
      have c2 := ble_iff.1 hc.2
      obtain ⟨g', h1, h2⟩ := new1_ok (w' := w.alloc (.cells (a.eval x).cells e)) (T := e) (fz := (0, 0)) (cvs := (a.eval x).cells.toList) hI (.alloc _ _) rfl (cells_ok hx hc.1) hc.1 (by omega) (fun k _ => by simp)
      exact ⟨g', _, _, .inl (by simp [execOp, Instr.box, newVar, newRow]), h1, h2⟩
  · rename_i ty parts
    simp only [Option.map_eq_some_iff, Prod.mk.injEq] at h
    obtain ⟨v', h1, h2, h3⟩ := h
    obtain ⟨cv, h4, h5⟩ := build_ok (w := w) hE (parts_ok hI hgl hT parts.toList) h1
    refine pure1 (m := Instr.build ty (parts.map fun (i, x) => (i, a.eval x))) rfl h2 h3.symm ⟨cv, ?_, h5⟩
    rw [← h4]; congr 2; apply Array.ext'; simp
  · rename_i ty len parts
    have := buildSlice_ok hE hI (parts_ok hI hgl hT parts.toList) h
    refine done1 (m := Instr.buildSlice ty len (parts.map fun (i, x) => (i, a.eval x))) rfl ?_
    have e1 : (parts.map fun (i, x) => (i, a.eval x)) = ⟨parts.toList.map fun x => (x.1, a.eval x.2)⟩ := by apply Array.ext'; simp
    rw [e1]; exact this
  · rename_i ty x
    split at h
    · rename_i i hi
      simp only [Option.map_eq_some_iff, Prod.mk.injEq] at h
      obtain ⟨v', h1, h2, h3⟩ := h
      exact pure1 rfl h2 h3.symm (load_ok hE hI hi (opnd_ok hI hgl hT x) h1)
    · cases h
  · rename_i ty p x
    split at h
    · rename_i i hi
      simp only [Option.map_eq_some_iff, Prod.mk.injEq] at h
      obtain ⟨s1, h1, h2, h3⟩ := h
      subst h2; subst h3
      obtain ⟨w', h4, h5⟩ := store_ok hE hI hi (opnd_ok hI hgl hT p) (opnd_ok hI hgl hT x) h1
      exact ⟨g, undef, w', .inr ⟨by simp [execOp, h4], rfl⟩, by simp only [VR], h5⟩
    · cases h
  · rename_i x
    have hx := opnd_ok hI hgl hT x
    split at h
    · rename_i o hw i j hp
      cases hl : liveRow s o hw with
      | false => simp [hl] at h
      | true =>
        simp only [hl, cond_true, Option.some.injEq, Prod.mk.injEq] at h
        rw [hp] at hx
        have hx0 := hx
        simp only [VR] at hx
        obtain ⟨r, hr, hv⟩ := live_ok hI hx.1 hx.2.1 hl
        have he := (hx.2.2.2 r hr).2 hv
        exact same _ h.1 h.2.symm (fun _ => trivial) hx0 (by simp [execOp, he])
    · rename_i cs hp
      simp only [Option.some.injEq, Prod.mk.injEq] at h
      rw [hp] at hx
      have hx0 := hx
      simp only [VR] at hx
      obtain ⟨b, off, he, _⟩ := hx
      exact same _ h.1 h.2.symm (fun _ => trivial) hx0 (by simp [execOp, he])
    · cases h
  · rename_i b ty x y yt
    simp only [Option.map_eq_some_iff, Prod.mk.injEq] at h
    obtain ⟨v', h1, h2, h3⟩ := h
    exact pure1 rfl h2 h3.symm (binOp_ok hE hI (opndR_ok hI hgl hT x) (opndR_ok hI hgl hT y) h1)
  · rename_i u ty x
    simp only [Option.map_eq_some_iff, Prod.mk.injEq] at h
    obtain ⟨v', h1, h2, h3⟩ := h
    exact pure1 rfl h2 h3.symm (unOp_ok (opnd_ok hI hgl hT x) h1)
  · rename_i src dst' x
    exact done1 rfl (convert_ok hE hI (opnd_ok hI hgl hT x) h)
  · rename_i ty x
    split at h
    · rename_i i hi
      have hu := hE.run_und hi w
      split at h
      · cases h
      · rename_i hne
        cases hc : allOne (opnd E t x).cells with
        | false => simp [hc] at h
        | true =>
          simp only [hc, cond_true, Option.some.injEq, Prod.mk.injEq] at h
          have hcx := cells_ok (opnd_ok hI hgl hT x) hc
          refine pure1 (m := Instr.makeInterface ty (a.eval x)) rfl h.1 h.2.symm ⟨.iface ty (a.eval x), ?_, by simp only [VR]; exact ⟨_, rfl, hcx⟩⟩
          simp only [Instr.makeInterface, Sem.run_bind, hu, Result.andThen_ok]
          revert hne
          generalize i.desc = d
          intro hne
          cases d <;> first | exact absurd rfl (hne _) | rfl
    · cases h
  · rename_i f first caps
    cases hf : first.isEmpty with
    | false => simp [hf] at h
    | true =>
      simp only [hf, cond_true, Option.some.injEq, Prod.mk.injEq] at h
      have hfe : first = #[] := by simpa using hf
      subst hfe
      refine same _ h.1 h.2.symm (fun _ => trivial) (cv := .func (.func f) #[] (caps.map a.eval)) ?_ (by simp [execOp, Instr.makeFunc])
      simp only [VR]
      exact ⟨caps.toList.map a.eval, by congr 1; apply Array.ext'; simp, opnds_ok hI hgl hT _⟩
  · rename_i ty l c
    exact done1 rfl (makeSlice_ok hE hI (opnd_ok hI hgl hT l) (opnd_ok hI hgl hT c) h)
  · rename_i ty x lo hi mx
    simp only [Option.map_eq_some_iff, Prod.mk.injEq] at h
    obtain ⟨v', h1, h2, h3⟩ := h
    exact pure1 rfl h2 h3.symm (slice_ok hE hI (opnd_ok hI hgl hT x) (opt_ok hI hgl hT lo) (opt_ok hI hgl hT hi) (opt_ok hI hgl hT mx) h1)
  · rename_i ty x i
    simp only [Option.map_eq_some_iff, Prod.mk.injEq] at h
    obtain ⟨v', h1, h2, h3⟩ := h
    exact pure1 rfl h2 h3.symm (fieldAddr_ok hE (opnd_ok hI hgl hT x) hI h1)
  · rename_i ty x i
    simp only [Option.map_eq_some_iff, Prod.mk.injEq] at h
    obtain ⟨v', h1, h2, h3⟩ := h
    exact pure1 rfl h2 h3.symm (field_ok hE (opnd_ok hI hgl hT x) h1)
  · rename_i ty x ix
    simp only [Option.map_eq_some_iff, Prod.mk.injEq] at h
    obtain ⟨v', h1, h2, h3⟩ := h
    exact pure1 rfl h2 h3.symm (indexAddr_ok hE hI (opnd_ok hI hgl hT x) (opnd_ok hI hgl hT ix) h1)
  · rename_i ty x ix
    simp only [Option.map_eq_some_iff, Prod.mk.injEq] at h
    obtain ⟨v', h1, h2, h3⟩ := h
    exact pure1 rfl h2 h3.symm (index_ok hE (opnd_ok hI hgl hT x) (opnd_ok hI hgl hT ix) h1)
  · rename_i x i
    have hx := opnd_ok hI hgl hT x
    split at h
    · rename_i vs hvs
      split at h
      · rename_i v' hv'
        simp only [Option.some.injEq, Prod.mk.injEq] at h
        rw [hvs] at hx; simp only [VR] at hx
        obtain ⟨cvs, he, hl⟩ := hx
        obtain ⟨cv, h1, h2⟩ := hl.get hv'
        exact same _ h.1 h.2.symm (fun _ => trivial) h2 (by simp [execOp, Instr.extract, he, h1])
      · cases h
    · cases h
  · rename_i b args ats
    obtain ⟨g', cv, w', h1, h2, h3⟩ := builtin_ok hE hI hgl hT (ty := typ) (consts := args.map fun | .const _ => true | _ => false) h
    refine ⟨g', cv, w', .inl ?_, h2, h3⟩
    have e1 : args.map a.eval = ⟨args.toList.map a.eval⟩ := by apply Array.ext'; simp
    simp only [execOp, resolve, Sem.run_bind, Sem.run_pure, Result.andThen_ok, invoke, e1]
    exact h1
  · cases h
end
end Go.Ev
/- Leaving a call. -/
namespace Go.Ev
theorem hget_hdrop {h : Heap} {m o : Nat} (ho : o < m) : hget (hdrop h m) o = hget h o := by
  induction h with
  | nil => rfl
  | cons p h ih =>
    obtain ⟨i, x⟩ := p
    simp only [hdrop]
    cases hb : Nat.ble m i with
    | true =>
      have := ble_iff.1 hb
      simp only [cond_true, hget]
      rw [nbeq_ne (show i ≠ o by omega), cond_false]; exact ih
    | false => rfl
theorem notes_sub {m : Nat} {x : Wr} : ∀ {l ws : List Wr}, x ∈ ws → x ∈ notes m l ws
  | [], _, h => h
  | _ :: l, _, h => by simp only [notes]; exact notes_sub (note_sub h)
theorem mem_notes {m : Nat} {x : Wr} (hx : x.o < m) : ∀ {l ws : List Wr}, x ∈ l → x ∈ notes m l ws
  | y :: l, ws, h => by
    simp only [notes]
    rcases List.mem_cons.1 h with rfl | h
    · exact notes_sub (mem_note hx)
    · exact mem_notes hx h
theorem scan_ok {h : Heap} {m : Nat} {x : Wr} {obj : Obj} : ∀ {l : List Wr}, scan h m l = true → x ∈ l → hget h x.o = some obj → obj.lt m = true
  | y :: l, hs, hx, hg => by
    simp only [scan, Bool.and_eq_true] at hs
    rcases List.mem_cons.1 hx with rfl | hx
    · rw [hg] at hs; exact hs.1
    · exact scan_ok hs.2 hx hg
theorem ltLL_of {n : Nat} : ∀ {l : List (List V)}, (∀ r, r ∈ l → V.ltL n r = true) → V.ltLL n l = true
  | [], _ => rfl
  | r :: l, h => by simp only [V.ltLL, Bool.and_eq_true]; exact ⟨h r (by simp), ltLL_of fun r' hr' => h r' (by simp [hr'])⟩
theorem ltL_of {n : Nat} : ∀ {l : List V}, (∀ r, r ∈ l → V.lt n r = true) → V.ltL n l = true
  | [], _ => rfl
  | r :: l, h => by simp only [V.ltL, Bool.and_eq_true]; exact ⟨h r (by simp), ltL_of fun r' hr' => h r' (by simp [hr'])⟩
theorem ltL_mem {n : Nat} : ∀ {l : List V}, V.ltL n l = true → ∀ r, r ∈ l → V.lt n r = true
  | x :: l, h, r, hr => by
    simp only [V.ltL, Bool.and_eq_true] at h
    rcases List.mem_cons.1 hr with rfl | hr
    · exact h.1
    · exact ltL_mem h.2 r hr
theorem ltLL_mem {n : Nat} : ∀ {l : List (List V)}, V.ltLL n l = true → ∀ r, r ∈ l → V.ltL n r = true
  | x :: l, h, r, hr => by
    simp only [V.ltLL, Bool.and_eq_true] at h
    rcases List.mem_cons.1 hr with rfl | hr
    · exact h.1
    · exact ltLL_mem h.2 r hr
theorem ObjR.lt {g : G} {r : ORec} {w : World} {obj : Obj} (h : ObjR g r w obj) : obj.lt g.N = true := by
  cases obj with
  | row els opn =>
    obtain ⟨h1, h2, h3, h4, c, T, fz, h5, h6, h7, h8, h9, h10⟩ := h
    simp only [Obj.lt]
    refine ltLL_of fun r hr => ltL_of fun x hx => ?_
    obtain ⟨i, hi⟩ := List.mem_iff_getElem?.1 hr
    obtain ⟨j, hj⟩ := List.mem_iff_getElem?.1 hx
    obtain ⟨v, _, _, h⟩ := h9 i r hi j x hj
    exact h.lt
  | tok n e q => rfl
  | loop f t ps a b pend busy =>
    obtain ⟨h1, h2, tm, df, fn, h3, h4⟩ := h
    exact h3.lt
  | map es => exact h.elim

/-- What a truncated view may add: cells of the blocks of what is forgotten. -/
structure Cut (g1 : G) (w1 : World) (m : Nat) (g2 : G) : Prop where
  O : ∀ o, g2.O o = if o < m then g1.O o else none
  N : g2.N = m
  pend : g2.pend = g1.pend
  gl : g2.gl = g1.gl
  S : ∀ b i v, g1.S b i = some v → g2.S b i = some v
  new : ∀ b i v, g2.S b i = some v → g1.S b i = some v ∨ ((∃ o r, m ≤ o ∧ g1.O o = some r ∧ r.b = b) ∧ w1.cell? ⟨b, i, none⟩ = some v)
theorem Cut.vr {g1 g2 : G} {w1 : World} {m : Nat} (c : Cut g1 w1 m g2) {x : V} {v : Value} (h : VR g1 x v) (hl : V.lt m x = true) : VR g2 x v := by
  refine VR.mono (W := 0) (g := g1.trunc m) ⟨c.S, fun b i v _ => .inr (.inl (Nat.zero_le _)), fun o ho r' hr' => ?_, fun o r' hr' => ?_, Nat.le_of_eq c.N.symm, c.pend, c.gl⟩ x v (VR.trunc x v h hl)
  · rw [c.O] at hr'; exact ⟨r', hr', .inl rfl⟩
  · exact .inr (Nat.zero_le _)
theorem Cut.vrl {g1 g2 : G} {w1 : World} {m : Nat} (c : Cut g1 w1 m g2) : ∀ {xs : List V} {vs : List Value}, VRL g1 xs vs → V.ltL m xs = true → VRL g2 xs vs
  | [], [], _, _ => by simp [VRL]
  | x :: xs, v :: vs, h, k => by simp only [VRL, V.ltL, Bool.and_eq_true] at *; exact ⟨c.vr h.1 k.1, c.vrl h.2 k.2⟩
  | _ :: _, [], h, _ => by simp [VRL] at h
  | [], _ :: _, h, _ => by simp [VRL] at h
theorem Cut.obj {g1 g2 : G} {w1 : World} {m : Nat} (c : Cut g1 w1 m g2) {r : ORec} {obj : Obj} (h : ObjR g1 r w1 obj) (hl : obj.lt m = true) (hS : ∀ k, g2.S r.b k = g1.S r.b k) : ObjR g2 r w1 obj := by
  cases obj with
  | row els opn =>
    obtain ⟨h1, h2, h3, h4, cc, T, fz, h5, h6, h7, h8, h9, h10⟩ := h
    refine ⟨h1, h2, h3, fun k => (hS k).trans (h4 k), cc, T, fz, h5, h6, h7, h8, fun i row hr j x hx => ?_, h10⟩
    obtain ⟨v, k1, k2, k3⟩ := h9 i row hr j x hx
    exact ⟨v, k1, k2, c.vr k3 (ltL_mem (ltLL_mem hl row (List.mem_of_getElem? hr)) x (List.mem_of_getElem? hx))⟩
  | tok n e q =>
    obtain ⟨h1, h2, h2', h3, cc, T, fz, h5, h6, h7, h8⟩ := h
    exact ⟨h1, h2, h2', fun k hk => (hS k).trans (h3 k hk), cc, T, fz, h5, h6, h7, h8⟩
  | loop f t ps a b pend busy =>
    obtain ⟨h1, h2, tm, df, fn, h3, h4⟩ := h
    exact ⟨h1, fun k => (hS k).trans (h2 k), tm, df, fn, c.vrl h3 hl, h4⟩
  | map es => exact h.elim

theorem Keep.wider {s0 s1 s' : St} (hk : Keep s0.fresh s1) (hm : s'.mark = s0.mark) (hn : s0.next ≤ s'.next) (hh : ∀ o, o < s0.next → hget s'.heap o = hget s1.heap o) (hw : s'.ws = notes s0.mark s1.ws s0.ws) : Keep s0 s' where
  mark := hm
  next := hn
  sub := fun x hx => by rw [hw]; exact notes_sub hx
  keep := fun o h1 h2 h3 => by
    rw [hh o h2]
    refine hk.keep o h2 h2 (fun x hx he => h3 x ?_ he)
    rw [hw]; exact mem_notes (by omega) hx
  cells := fun o h1 h2 h3 els opn he => by
    obtain ⟨e1, g1, l1, c1⟩ := hk.cells o h2 h2 (fun x hx he => h3 x (by rw [hw]; exact mem_notes (by omega) hx) he) els opn he
    refine ⟨e1, by rw [hh o h2]; exact g1, l1, fun i row hr => ?_⟩
    obtain ⟨r1, a1, a2, a3⟩ := c1 i row hr
    exact ⟨r1, a1, a2, fun q hq => a3 q (fun x hx he => hq x (by rw [hw]; exact mem_notes (by omega) hx) he)⟩
  loop := fun o h1 h2 => by
    obtain ⟨f, t, ps, a, b, p, z, h⟩ := hk.loop o h1 h2
    exact ⟨f, t, ps, a, b, p, z, by rw [hh o h1]; exact h⟩
section
variable {g g1 g2 : G} {s0 s1 s' : St} {w w1 : World}
theorem trunc_ok (h0 : Inv g s0 w) (hs : Step g s0.fresh w g1 s1 w1) (c : Cut g1 w1 s0.next g2) (ht : truncSt s0 s1 = some s') : Step g s0 w g2 s' w1 := by
  have hNg : g.N = s0.next := h0.N
  have hheap : s'.next = s0.next ∧ (∀ o, o < s0.next → hget s'.heap o = hget s1.heap o) ∧ (∀ o obj, o < s0.next → hget s1.heap o = some obj → ¬ g.pend o → obj.lt s0.next = true) ∧ Keep s0 s' := by
    have old : ∀ o obj, o < s0.next → (∀ x, x ∈ s1.ws → x.o ≠ o) → hget s1.heap o = some obj → ¬ g.pend o → obj.lt s0.next = true := fun o obj ho hn hg hp => by
      have h1 := hs.keep.keep o ho ho hn
      rw [hg] at h1
      rcases h0.live o obj ho h1.symm with h | ⟨r, _, h⟩
      · exact absurd h hp
      · have := h.lt; rwa [hNg] at this
    unfold truncSt at ht
    split at ht
    · rename_i hws
      simp only [Option.some.injEq] at ht
      subst ht
      have hk : ∀ o, o < s0.next → hget s0.heap o = hget s1.heap o := fun o ho => (hs.keep.keep o ho ho (fun x hx => by rw [hws] at hx; cases hx)).symm
      exact ⟨rfl, hk, fun o obj ho => old o obj ho (fun x hx => by rw [hws] at hx; cases hx), .refl _⟩
    · rename_i ws hne
      cases hsc : scan s1.heap s0.next s1.ws with
      | false => simp [hsc] at ht
      | true =>
        simp only [hsc, cond_true, Option.some.injEq] at ht
        subst ht
        refine ⟨rfl, fun o ho => hget_hdrop ho, fun o obj ho hg hp => ?_, hs.keep.wider rfl (Nat.le_refl _) (fun o ho => hget_hdrop ho) rfl⟩
        by_cases hx : ∃ x, x ∈ s1.ws ∧ x.o = o
        · obtain ⟨x, hx, rfl⟩ := hx
          exact scan_ok hsc hx hg
        · exact old o obj ho (fun x hx' he => hx ⟨x, hx', he⟩) hg hp
  obtain ⟨hn, hh, hl, hK⟩ := hheap
  have hpe : g1.pend = g.pend := hs.ext.pend
  have hnew : s0.next ≤ s1.next := hs.keep.next
  refine ⟨⟨c.N.trans hn.symm, fun b i v hv => ?_, fun o obj ho hg => ?_, fun o r hr => ?_, fun o o' r r' hr hr' hb => ?_, fun o r hr => ?_, fun x cs hx => ?_, fun o ho => ?_⟩, ?_, ?_, hK⟩
  · rcases c.new b i v hv with h | h
    · exact hs.inv.S b i v h
    · exact h.2
  · rw [hn] at ho
    rw [hh o ho] at hg
    by_cases hp : g.pend o
    · exact .inl (by rw [c.pend, hpe]; exact hp)
    · rcases hs.inv.live o obj (by omega) hg with h | ⟨r, h1, h2⟩
      · exact absurd (by rw [hpe] at h; exact h) hp
      · refine .inr ⟨r, by rw [c.O, if_pos ho]; exact h1, c.obj h2 (hl o obj ho hg hp) (fun k => ?_)⟩
        cases hk : g1.S r.b k with
        | some v => exact c.S _ _ _ hk
        | none =>
          cases hk2 : g2.S r.b k with
          | none => rfl
          | some v =>
            rcases c.new _ _ _ hk2 with h | ⟨⟨o', r', h3, h4, h5⟩, _⟩
            · rw [hk] at h; cases h
            · have := hs.inv.inj _ _ _ _ h4 h1 h5; omega
  · rw [c.O] at hr
    split at hr
    · rename_i h; rw [hn]; exact h
    · cases hr
  · rw [c.O] at hr hr'
    split at hr <;> split at hr'
    · exact hs.inv.inj _ _ _ _ hr hr' hb
    all_goals first | cases hr | cases hr'
  · rw [c.O] at hr
    split at hr
    · exact hs.inv.lt _ _ hr
    · cases hr
  · rw [c.gl] at hx
    exact (hs.inv.gl x cs hx).mono c.S
  · rw [c.pend, hpe] at ho; rw [hn]; exact h0.pd o ho
  · refine ⟨fun b i v hv => c.S _ _ _ (hs.ext.S _ _ _ hv), fun b i v hv => ?_, fun o ho r' hr' => ?_, fun o r' hr' => ?_, by rw [c.N, hNg]; exact Nat.le_refl _, c.pend.trans hpe, c.gl.trans hs.ext.gl⟩
    · rcases c.new b i v hv with h | ⟨⟨o', r', h3, h4, h5⟩, _⟩
      · exact hs.ext.new _ _ _ h
      · rcases hs.ext.blk o' r' h4 with ⟨o1, r1, h6, h7⟩ | h6
        · exact .inr (.inr ⟨o1, r1, h6, h7.trans h5⟩)
        · exact .inr (.inl (h5 ▸ h6))
    · rw [c.O] at hr'
      split at hr'
      · exact hs.ext.O o ho r' hr'
      · cases hr'
    · rw [c.O] at hr'
      split at hr'
      · exact hs.ext.blk o r' hr'
      · cases hr'
  · exact ⟨hs.frame.os, hs.frame.tape, hs.frame.output, hs.frame.size, hs.frame.block⟩
theorem keep_ok (hs : Step g s0.fresh w g1 s1 w1) : Step g s0 w g1 (keepSt s0 s1) w1 := by
  refine ⟨⟨hs.inv.N, hs.inv.S, hs.inv.live, hs.inv.dom, hs.inv.inj, hs.inv.lt, hs.inv.gl, hs.inv.pd⟩, hs.ext, ⟨hs.frame.os, hs.frame.tape, hs.frame.output, hs.frame.size, hs.frame.block⟩, hs.keep.wider rfl hs.keep.next (fun _ _ => rfl) rfl⟩
theorem cut_self (g1 : G) (w1 : World) (m : Nat) : Cut g1 w1 m (g1.trunc m) := ⟨fun _ => rfl, rfl, rfl, rfl, fun _ _ _ h => h, fun _ _ _ h => .inl h⟩
theorem leaveSt_ok (h0 : Inv g s0 w) (hs : Step g s0.fresh w g1 s1 w1) : ∃ g2, Step g s0 w g2 (leaveSt s0 s1) w1 ∧ ∀ o r, g2.O o = some r → g1.O o = some r := by
  unfold leaveSt
  split
  · rename_i s' ht
    refine ⟨_, trunc_ok h0 hs (cut_self _ _ _) ht, fun o r h => ?_⟩
    simp only [G.trunc] at h
    split at h
    · exact h
    · cases h
  · exact ⟨_, keep_ok hs, fun _ _ h => h⟩

/-- The view behind a call: the blocks of what is forgotten are written no more. -/
noncomputable def G.freeze (g1 : G) (w1 : World) (m : Nat) : G :=
  open Classical in
  { S := fun b i => match g1.S b i with
      | some v => some v
      | none => if ∃ o r, m ≤ o ∧ g1.O o = some r ∧ r.b = b then w1.cell? ⟨b, i, none⟩ else none,
    O := fun o => if o < m then g1.O o else none, N := m, pend := g1.pend, gl := g1.gl }
theorem cut_freeze (g1 : G) (w1 : World) (m : Nat) : Cut g1 w1 m (g1.freeze w1 m) := by
  refine ⟨fun _ => rfl, rfl, rfl, rfl, fun b i v h => by simp only [G.freeze, h], fun b i v h => ?_⟩
  simp only [G.freeze] at h
  split at h
  · rename_i v' hv; exact .inl (by rw [hv]; exact h)
  · split at h
    · rename_i hb; exact .inr ⟨hb, h⟩
    · cases h
theorem freeze_cell {m o : Nat} {r : ORec} {i : Nat} {v : Value} (hI : Inv g1 s1 w1) (ho : m ≤ o) (hr : g1.O o = some r) (hv : w1.cell? ⟨r.b, i, none⟩ = some v) : (g1.freeze w1 m).S r.b i = some v := by
  simp only [G.freeze]
  split
  · rename_i v' h
    have := hI.S _ _ _ h
    rw [hv] at this; exact this.symm
  · rw [if_pos ⟨o, r, ho, hr, rfl⟩]; exact hv
theorem freeze_sl {m o : Nat} {r : ORec} {b off n c esz : Nat} {els : List (List V)} {l : List (List D)} {cut : Bool} (hI : Inv g1 s1 w1) (ho : m ≤ o) (hr : g1.O o = some r) (hb : b = r.b) (hd : toDss els = some l)
    (hl : ∀ r, r ∈ els → r.length = esz) (hc : ∀ (i : Nat) (r : List V), els[i]? = some r → CellsAt g1 w1 b (off + i * esz) r) (hn : els.length = n) (hcap : n ≤ c) (hcut : cut = true → c = n) :
    DR (g1.freeze w1 m).S (.sl cut l) (.slice (some ⟨b, off, none⟩) n c) := by
  obtain ⟨d1, d2⟩ := toDss_get hd
  have hln : l.length = n := by rw [← d1, hn]
  subst hln
  have key : ∀ (i : Nat) (r' : List D), l[i]? = some r' → r'.length = esz ∧ ∀ (j : Nat) (x : D), r'[j]? = some x → ∃ v, w1.cell? ⟨b, off + i * esz + j, none⟩ = some v ∧ DR g1.S x v := fun i r' hr' => by
    obtain ⟨xs, e1, e2⟩ := d2 i r' hr'
    obtain ⟨e3, e4⟩ := toDs_get e2
    refine ⟨by rw [← e3]; exact hl _ (List.mem_of_getElem? e1), fun j x hx => ?_⟩
    obtain ⟨y, e5, e6⟩ := e4 j x hx
    obtain ⟨v, e7, e8⟩ := hc i xs e1 j y e5
    exact ⟨v, e7, toD_ok e8 e6⟩
  refine .sl cut l _ c b off esz (fun i j => (w1.cell? ⟨b, off + i * esz + j, none⟩).getD undef) (fun r' hr' => ?_) (fun i r' hr' j x hx => ?_) (fun i r' hr' j x hx => ?_) (fun _ => rfl) hcap hcut
  · obtain ⟨i, hi⟩ := List.mem_iff_getElem?.1 hr'
    exact (key i r' hi).1
  · obtain ⟨v, h1, _⟩ := (key i r' hr').2 j x hx
    subst hb
    rw [freeze_cell hI ho hr h1, h1]; rfl
  · obtain ⟨v, h1, h2⟩ := (key i r' hr').2 j x hx
    rw [h1]; exact h2.mono (cut_freeze g1 w1 m).S
theorem leaveV_ok {keep : Bool} {m : Nat} (hI : Inv g1 s1 w1) {v u : V} {cv : Value} (hv : VR g1 v cv) (h : leaveV keep m s1 v = some u) (hl : V.lt m u = true) : VR (g1.freeze w1 m) u cv := by
  have cf := cut_freeze g1 w1 m
  unfold leaveV at h
  split at h
  · rename_i o els
    cases hc : (keep || Nat.blt o m) with
    | true => simp only [hc, cond_true, Option.some.injEq] at h; subst h; exact cf.vr hv hl
    | false =>
      simp only [hc, cond_false, Option.some.injEq] at h; subst h
      simp only [VR] at hv ⊢
      exact hv.2.2.2.1.mono cf.S
  · rename_i o i n hw cut
    cases hc : (keep || Nat.blt o m) with
    | true => simp only [hc, cond_true, Option.some.injEq] at h; subst h; exact cf.vr hv hl
    | false =>
      simp only [hc, cond_false] at h
      have hom : m ≤ o := by
        rcases Nat.lt_or_ge o m with h1 | h1
        · rw [blt_iff.2 h1] at hc; simp at hc
        · exact h1
      split at h
      · rename_i els hels
        split at h
        · rename_i l hd
          simp only [Option.some.injEq] at h; subst h
          obtain ⟨A, cap, rfl, hE⟩ := elsOf_ok hI hv hels
          simp only [VR] at hv ⊢
          obtain ⟨x1, x2, x3, x5⟩ := hv
          have hlive : ∃ r, g1.O o = some r ∧ hw = r.ver := by
            refine live_ok hI x1 x2 ?_
            simp only [elsOf] at hels
            unfold liveRow
            split at hels
            · rename_i row opn hg
              cases hb : (Nat.beq row.length hw && Nat.ble (i + n) hw) with
              | false => simp [hb] at hels
              | true => exact (band_iff.1 hb).1
            · cases hels
          obtain ⟨r, hr, hver⟩ := hlive
          obtain ⟨A', c', he, hA, hcap, hcut, _⟩ := (x5 r hr).2 hver
          injection he with he1 he2 he3
          subst he1; subst he2; subst he3
          rcases hE with rfl | ⟨b, off, esz, rfl, h1, h2, _⟩
          · simp [toDss] at hd; subst hd
            exact .sl cut [] _ _ 0 0 0 (fun _ _ => undef) (by simp) (by simp) (by simp) (by simp) (by simp) (by simpa using hcut)
          · by_cases hne : els = []
            · subst hne
              simp [toDss] at hd; subst hd
              exact .sl cut [] _ _ 0 0 0 (fun _ _ => undef) (by simp) (by simp) (by simp) (by simp) (by simp) (by simpa using hcut)
            · have hpos : 0 < els.length := List.length_pos_iff.2 hne
              have hA := hA (by omega)
              injection hA with hA
              injection hA with hA1 hA2
              exact freeze_sl hI hom hr hA1 hd h1 h2 rfl hcap hcut
        · simp only [Option.some.injEq] at h; subst h
          simp only [V.lt] at hl; rw [hl] at hc; simp at hc
      · cases h
  · rename_i o hw i j sz n cap
    cases hc : Nat.blt o m with
    | true => simp only [hc, cond_true, Option.some.injEq] at h; subst h; exact cf.vr hv hl
    | false =>
      simp only [hc, cond_false] at h
      have hom : m ≤ o := by
        rcases Nat.lt_or_ge o m with h1 | h1
        · rw [blt_iff.2 h1] at hc; simp at hc
        · exact h1
      split at h
      · rename_i els hels
        split at h
        · rename_i l hd
          simp only [Option.some.injEq] at h; subst h
          obtain ⟨A, cap', rfl, hE⟩ := elsOf_ok hI hv hels
          simp only [VR] at hv ⊢
          obtain ⟨x1, x2, x3, x5⟩ := hv
          have hlive : ∃ r, g1.O o = some r ∧ hw = r.ver := by
            simp only [elsOf] at hels
            cases hsz : Nat.beq sz 1 with
            | false => simp [hsz] at hels
            | true =>
              simp only [hsz, cond_true] at hels
              split at hels
              · rename_i cells hrow
                obtain ⟨r, row, opn, hr, hg, hobj, hv, hi, _, hcells⟩ := rowAt_ok hI x1 x2 hrow
                exact ⟨r, hr, hv⟩
              · cases hels
          obtain ⟨r, hr, hver⟩ := hlive
          obtain ⟨A', he, hcap, hA⟩ := (x5 r hr).2 hver
          injection he with he1 he2 he3
          subst he1; subst he2; subst he3
          rcases hE with rfl | ⟨b, off, esz, rfl, h1, h2, _⟩
          · simp [toDss] at hd; subst hd
            exact .sl false [] _ _ 0 0 0 (fun _ _ => undef) (by simp) (by simp) (by simp) (by simp) (by simp) (by simp)
          · by_cases hne : els = []
            · subst hne
              simp [toDss] at hd; subst hd
              exact .sl false [] _ _ 0 0 0 (fun _ _ => undef) (by simp) (by simp) (by simp) (by simp) (by simp) (by simp)
            · have hpos : 0 < els.length := List.length_pos_iff.2 hne
              have hA := hA (by omega)
              injection hA with hA
              injection hA with hA1 hA2
              exact freeze_sl hI hom hr hA1 hd h1 h2 rfl hcap (by simp)
        · simp only [Option.some.injEq] at h; subst h
          simp only [V.lt] at hl; rw [hl] at hc; cases hc
      · cases h
  · simp only [Option.some.injEq] at h; subst h; exact cf.vr hv hl
theorem leaveL_ok {keep : Bool} {m : Nat} (hI : Inv g1 s1 w1) : ∀ {vs us : List V} {cvs : List Value}, VRL g1 vs cvs → leaveL keep m s1 vs = some us → V.ltL m us = true → VRL (g1.freeze w1 m) us cvs
  | [], us, [], _, h, _ => by simp [leaveL] at h; subst h; simp [VRL]
  | v :: vs, us, cv :: cvs, hv, h, hl => by
    simp only [leaveL] at h
    split at h
    · rename_i x xs h1 h2
      simp only [Option.some.injEq] at h; subst h
      simp only [VRL, V.ltL, Bool.and_eq_true] at *
      exact ⟨leaveV_ok hI hv.1 h1 hl.1, leaveL_ok hI hv.2 h2 hl.2⟩
    · cases h
  | [], _, _ :: _, h, _, _ => by simp [VRL] at h
  | _ :: _, _, [], h, _, _ => by simp [VRL] at h
theorem leave1_ok {keep : Bool} {m : Nat} (hI : Inv g1 s1 w1) {v u : V} {cv : Value} (hv : VR g1 v cv) (h : leave1 keep m s1 v = some u) (hl : V.lt m u = true) : VR (g1.freeze w1 m) u cv := by
  unfold leave1 at h
  split at h
  · rename_i cs
    simp only [Option.map_eq_some_iff] at h
    obtain ⟨us, h1, rfl⟩ := h
    simp only [VR] at hv ⊢
    obtain ⟨cvs, rfl, hv⟩ := hv
    exact ⟨cvs, rfl, leaveL_ok hI hv h1 hl⟩
  · exact leaveV_ok hI hv h hl
theorem leaveT_ok {keep : Bool} {m : Nat} (hI : Inv g1 s1 w1) : ∀ {vs us : List V} {cvs : List Value}, VRL g1 vs cvs → leaveT keep m s1 vs = some us → V.ltL m us = true → VRL (g1.freeze w1 m) us cvs
  | [], us, [], _, h, _ => by simp [leaveT] at h; subst h; simp [VRL]
  | v :: vs, us, cv :: cvs, hv, h, hl => by
    simp only [leaveT] at h
    split at h
    · rename_i x xs h1 h2
      simp only [Option.some.injEq] at h; subst h
      simp only [VRL, V.ltL, Bool.and_eq_true] at *
      exact ⟨leave1_ok hI hv.1 h1 hl.1, leaveT_ok hI hv.2 h2 hl.2⟩
    · cases h
  | [], _, _ :: _, h, _, _ => by simp [VRL] at h
  | _ :: _, _, [], h, _, _ => by simp [VRL] at h
theorem leave_ok {keep : Bool} (h0 : Inv g s0 w) (hs : Step g s0.fresh w g1 s1 w1) {vs us : List V} {cvs : List Value} (hv : VRL g1 vs cvs) (h : leave keep s0 s1 vs = (us, s')) : ∃ g2, VRL g2 us cvs ∧ Step g s0 w g2 s' w1 := by
  have kept : us = vs ∧ s' = keepSt s0 s1 → ∃ g2, VRL g2 us cvs ∧ Step g s0 w g2 s' w1 := fun ⟨h1, h2⟩ => by subst h1; subst h2; exact ⟨g1, hv, keep_ok hs⟩
  unfold leave at h
  split at h
  · rename_i us' hl
    cases hlt : V.ltL s0.next us' with
    | false => simp only [hlt, cond_false, Prod.mk.injEq] at h; exact kept ⟨h.1.symm, h.2.symm⟩
    | true =>
      simp only [hlt, cond_true] at h
      split at h
      · rename_i s1' ht
        simp only [Prod.mk.injEq] at h
        obtain ⟨rfl, rfl⟩ := h
        exact ⟨_, leaveT_ok hs.inv hv hl hlt, trunc_ok h0 hs (cut_freeze _ _ _) ht⟩
      · simp only [Prod.mk.injEq] at h; exact kept ⟨h.1.symm, h.2.symm⟩
  · simp only [Prod.mk.injEq] at h; exact kept ⟨h.1.symm, h.2.symm⟩
end
end Go.Ev
/- Code: what the evaluator says of it is what the machine does. -/
namespace Go.Ev

abbrev Fd (rd : Option Nat) : Fence := { Fence.wide with round := rd }
def exitOf : Ex → Exit
  | .norm => .normal
  | .exit id => .exit id
  | .ret => .ret

/-! marks among the deferred calls -/
def mk1 (r : Nat) : Deferred := { target := .collected r, args := #[] }
def Marks (g : G) (w : World) (W : Nat) (ds : List Deferred) : Prop :=
  ∃ rs : List Nat, ds = rs.map mk1 ∧ rs.Nodup ∧ ∀ r, r ∈ rs → W ≤ r ∧ w.heap[r]? = some (.deferred (some [])) ∧ ∀ o rc, g.O o = some rc → rc.b ≠ r
theorem Marks.nil (g : G) (w : World) (W : Nat) : Marks g w W [] := ⟨[], rfl, .nil, fun _ h => by cases h⟩
theorem Marks.lt {w : World} {r : Nat} {o : Go.Obj} (h : w.heap[r]? = some o) : r < w.heap.size := (Array.getElem?_eq_some_iff.1 h).1
theorem Marks.step {g g' : G} {s s' : St} {w w' : World} {W : Nat} {ds : List Deferred} (h : Marks g w W ds) (hs : Step g s w g' s' w') : Marks g' w' W ds := by
  obtain ⟨rs, h1, h2, h3⟩ := h
  refine ⟨rs, h1, h2, fun r hr => ?_⟩
  obtain ⟨k1, k2, k3⟩ := h3 r hr
  refine ⟨k1, by rw [hs.frame.block r (Marks.lt k2) k3]; exact k2, fun o rc ho hb => ?_⟩
  rcases hs.ext.blk o rc ho with ⟨o1, r1, h4, h5⟩ | h4
  · exact k3 o1 r1 h4 (h5.trans hb)
  · have := Marks.lt k2; omega
/-- The round that the activation is in. -/
def RdOK (rd : Option Nat) (g : G) (s : St) : Prop := ∀ l, rd = some l → ∃ o r, o < s.next ∧ ¬ g.pend o ∧ IsLoop s o ∧ g.O o = some r ∧ r.b = l
theorem RdOK.none (g : G) (s : St) : RdOK none g s := fun _ h => by cases h
theorem loop_rec {g : G} {s : St} {w : World} {o : Nat} (hI : Inv g s w) (ho : o < s.next) (hp : ¬ g.pend o) (hl : IsLoop s o) : ∃ r, g.O o = some r ∧ r.ver = 0 ∧ ∃ L, w.heap[r.b]? = some (.loop L) := by
  obtain ⟨f, t, ps, a, b, p, z, hg⟩ := hl
  rcases hI.live o _ ho hg with h | ⟨r, h1, h2⟩
  · exact absurd h hp
  · obtain ⟨h3, _, tm, df, fn, _, h4⟩ := h2
    exact ⟨r, h1, h3, _, h4⟩
theorem RdOK.step {rd : Option Nat} {g g' : G} {s s' : St} {w w' : World} (h : RdOK rd g s) (hI : Inv g s w) (hs : Step g s w g' s' w') : RdOK rd g' s' := fun l hl => by
  obtain ⟨o, r, h1, h2, h3, h4, h5⟩ := h l hl
  have hn := hs.keep.next
  have hl' := hs.keep.loop o h1 h3
  have hp' : ¬ g'.pend o := by rw [hs.ext.pend]; exact h2
  obtain ⟨r', k1, k2, _⟩ := loop_rec hs.inv (by omega) hp' hl'
  refine ⟨o, r', by omega, hp', hl', k1, ?_⟩
  obtain ⟨r0, k3, k4⟩ := hs.ext.O o (by rw [hI.N]; exact h1) r' k1
  rw [h4] at k3; cases k3
  rcases k4 with rfl | k4
  · exact h5
  · omega

/-- What the evaluator says of code, over whatever way of walking it. -/
def OK (E : Env) (X : Fence → Nat → (Exit → Act → World → Prop) → Act → World → Prop) (t : List V) (s : St) (ex : Ex) (t' : List V) (s' : St) : Prop :=
  ∀ (rd : Option Nat) (n : Nat) (Q : Exit → Act → World → Prop) (g : G) (w : World) (a : Act) (W : Nat), g.gl = E.glob → Inv g s w → TR g t a → RdOK rd g s → Marks g w W a.defers → W ≤ w.heap.size →
    (∀ g' a' w', TR g' t' a' → Step g s w g' s' w' → Marks g' w' W a'.defers → Q (exitOf ex) a' w') → X (Fd rd) n Q a w
def CodeOK (P : Program) (E : Env) (c : Code) := OK E fun F n Q a w => c.wpIn F n P Q a w
def loopIn (F : Fence) (n : Nat) (P : Program) (c : Code) (Q : Exit → Act → World → Prop) (a : Act) (w : World) : Prop :=
  ∀ (b : Go.Frame) (k : List Item) (cs : List Go.Frame), b.roundOf = F.round → F.fn b.fn → F.room (cs.length + 1 + n) →
    ∃ e a' w', Q e a' w' ∧ ArrivesIn (Machine.fenced P F) P (lone (b.atR a (.code c :: .inLoop c :: k)) cs w) b k cs e a' w'
def LoopOK (P : Program) (E : Env) (c : Code) := OK E fun F n Q a w => loopIn F n P c Q a w
theorem loopIn_once {F : Fence} {n : Nat} {P : Program} {c : Code} {Q : Exit → Act → World → Prop} {a : Act} {w : World} (h : c.wpIn F n P (Exit.then (loopIn F n P c Q) Q) a w) : loopIn F n P c Q a w := by
  intro b k cs hro hb hr
  obtain ⟨e, a₁, w₁, hq, harr⟩ := h b (.inLoop c :: k) cs hro hb hr
  cases e with
  | normal =>
    obtain ⟨e₂, a₂, w₂, hq₂, harr₂⟩ := hq b k cs hro hb hr
    exact ⟨e₂, a₂, w₂, hq₂, .of_steps (StepsIn.trans harr (.one (fenced_calm hb hr rfl) stepR_inLoop)) harr₂⟩
  | exit id => exact ⟨_, a₁, w₁, hq, .pass (x := .inLoop c) rfl (fun _ _ => .inl (by simp)) harr⟩
  | goto l => exact ⟨_, a₁, w₁, hq, .pass (x := .inLoop c) rfl (fun _ _ => .inl (by simp)) harr⟩
  | ret => exact ⟨_, a₁, w₁, hq, .pass (x := .inLoop c) rfl (fun _ _ => .inl (by simp)) harr⟩
  | panic ch => exact ⟨_, a₁, w₁, hq, .pass (x := .inLoop c) rfl (fun _ _ => .inl (by simp)) harr⟩
  | outgrown => exact ⟨_, a₁, w₁, hq, .pass (x := .inLoop c) rfl (fun _ _ => .inl (by simp)) harr⟩
theorem wpIn_of_loopIn {F : Fence} {n : Nat} {P : Program} {c : Code} {Q : Exit → Act → World → Prop} {a : Act} {w : World} (h : loopIn F n P c Q a w) : (Code.loop c).wpIn F n P Q a w :=
  fun b k cs hro hb hr => let ⟨e, a', w', q, r⟩ := h b k cs hro hb hr; ⟨e, a', w', q, .of_steps (.one (fenced_calm hb hr rfl) stepR_loop) r⟩

def YieldOK (P : Program) (gl : Nat → Option (List D)) (o : Nat) (args : List V) (s : St) (v : V) (s' : St) : Prop :=
  ∀ (rd : Option Nat) (n : Nat) (g : G) (w : World) (cargs : List Value) (cf : Value), g.gl = gl → Inv g s w → VRL g args cargs → VR g (.yld o) cf →
    ∃ l fn tm as bd, cf = .func (.yield l) #[] #[] ∧ (Instr.yield l ⟨cargs⟩).run P w = .ok (.round l fn tm as bd) w ∧
      RoundIn (Fd rd) n P l fn tm as bd w (fun e w' => ∃ cv g', e = .returned cv ∧ VR g' v cv ∧ Step g s w g' s' w')

/-! one operation -/
theorem guard_ok {g : G} {t : List V} {a : Act} {ops : Array Oper} {o : Oper} {b : Bool} (hT : TR g t a) (h : guardOk t ops o.guard = some b) : Region.wanted o (yielded ops a.tmps) = b := by
  unfold guardOk at h
  unfold Region.wanted
  cases hg : o.guard with
  | none => simp [hg] at h; rw [h]
  | some jw =>
    obtain ⟨j, want⟩ := jw
    simp only [hg] at h ⊢
    unfold yielded
    split at h
    · rename_i d hd
      rw [hd]
      have hv := tget_ok hT d
      simp only [Option.bind_some]
      split at h
      · rename_i b' hb
        rw [hb] at hv
        simp only [VR] at hv
        simp only [Option.some.injEq] at h
        generalize hcv : a.tmps.toList.getD d undef = cv at hv
        cases hv
        have : a.tmps[d]? = some (.bool b') := by
          rw [List.getD_eq_getElem?_getD, Array.getElem?_toList] at hcv
          cases hx : a.tmps[d]? with
          | none => rw [hx] at hcv; simp [undef] at hcv
          | some u => rw [hx] at hcv; simp at hcv; rw [hcv]
        rw [this]
        rw [← h]
        cases b' <;> cases want <;> rfl
      · rename_i hb
        rw [hb] at hv
        simp only [VR] at hv
        obtain ⟨cvs, hcv, hl⟩ := hv
        simp only [Option.some.injEq] at h
        subst h
        have : ∀ u, a.tmps[d]? = some u → u = .tuple ⟨cvs⟩ := fun u hu => by
          rw [List.getD_eq_getElem?_getD, Array.getElem?_toList, hu] at hcv
          exact hcv
        cases hx : a.tmps[d]? with
        | none => simp
        | some u => rw [this u hx]; simp
      · cases h
    · cases h
def isFCall : Op → Bool
  | .call { callee := .value _, .. } => true
  | _ => false
inductive OneStep (P : Program) (E : Env) (f : FuncId) (ops : Array Oper) (o : Oper) (t : List V) (s : St) : V → St → Prop where
  | skip (hg : guardOk t ops o.guard = some false) : OneStep P E f ops o t s (.tup []) s
  | plain (hg : guardOk t ops o.guard = some true) (v : V) (s' : St) (h : op E (E.mutf f) o.op t s = some (v, s')) : OneStep P E f ops o t s v s'
  | call (hg : guardOk t ops o.guard = some true) (c : Call) (x : Operand) (f' : FuncId) (caps : List V) (v : V) (s' : St) (ho : o.op = .call c) (hc : c.callee = .value x) (hx : opnd E t x = .fn f' caps)
      (h : InvokeOK P E.glob f' ((opnds E t c.args.toList).map argV ++ caps) s v s') : OneStep P E f ops o t s v s'
  | yld (hg : guardOk t ops o.guard = some true) (c : Call) (x : Operand) (l : Nat) (v : V) (s' : St) (ho : o.op = .call c) (hc : c.callee = .value x) (hx : opnd E t x = .yld l)
      (h : YieldOK P E.glob l (opnds E t c.args.toList) s v s') : OneStep P E f ops o t s v s'
theorem argV_ok {g : G} {x : V} {v : Value} (h : VR g x v) : VR g (argV x) v := by
  unfold argV
  split
  · simp only [VR] at h ⊢; exact h.2.2.2.1
  · rename_i cs
    simp only [VR] at h ⊢
    obtain ⟨cvs, h1, h2⟩ := h
    refine ⟨cvs, h1, ?_⟩
    clear h1
    revert cvs
    induction cs with
    | nil => intro cvs h; exact h
    | cons c cs ih =>
      intro cvs h
      cases cvs with
      | nil => simp [VRL] at h
      | cons v vs =>
        simp only [VRL, List.map_cons] at h ⊢
        refine ⟨?_, ih vs h.2⟩
        split
        · have := h.1; simp only [VR] at this ⊢; exact this.2.2.2.1
        · exact h.1
  · exact h
theorem argVs_ok {g : G} : ∀ {xs : List V} {vs : List Value}, VRL g xs vs → VRL g (xs.map argV) vs
  | [], [], _ => by simp [VRL]
  | x :: xs, v :: vs, h => by simp only [VRL, List.map_cons] at *; exact ⟨argV_ok h.1, argVs_ok h.2⟩
  | [], _ :: _, h => by simp [VRL] at h
  | _ :: _, [], h => by simp [VRL] at h
theorem semAt_exec (rd : Option Nat) (ρ : Operand → Value) (o : Oper) (h : ∀ c, o.op ≠ .defer c) : Oper.semAt rd ρ o = execOp ρ o := by
  cases rd with
  | none => exact Oper.semAt_none ρ o
  | some l => exact Oper.semAt_some l ρ o h
theorem op_nodefer {E : Env} {mu : Bool} {o : Op} {t : List V} {s : St} {r : V × St} (h : op E mu o t s = some r) : ∀ c, o ≠ .defer c := by
  intro c hc; subst hc; simp [op] at h
theorem resolve_value {P : Program} {ρ : Operand → Value} {c : Call} {x : Operand} {ty : TypeId} {w : World} {fn : Fn} {caps : Array Value} (hc : c.callee = .value x) (hx : ρ x = .func fn #[] caps) :
    (resolve ρ c ty).run P w = .ok { target := .fn fn caps, args := c.args.map ρ } w := by
  simp [resolve, hc, Deferred.ofValue, hx]
theorem OneStep.sound {P : Program} {E : Env} (hE : EnvOK P E) {f : FuncId} {ops : Array Oper} {o : Oper} {t : List V} {s s' : St} {v : V} (h : OneStep P E f ops o t s v s') {rd : Option Nat} {n i : Nat} {Q : Exit → Act → World → Prop}
    {K : Act → World → Prop} {g : G} {w : World} {a : Act} (hi : ops[i]? = some o) (hgl : g.gl = E.glob) (hI : Inv g s w) (hT : TR g t a) (hK : ∀ g' cv w', VR g' v cv → Step g s w g' s' w' → K (a.put o.dst cv) w') :
    wpOpIn (Fd rd) n P ops Q i K a w := by
  unfold wpOpIn
  simp only [hi]
  have hab : ∀ f', o.about P w a.eval = some f' → (Fd rd).fn f' := fun _ _ => trivial
  have hro : (Fd rd).round = rd := rfl
  cases h with
  | skip hg =>
    rw [guard_ok hT hg]
    exact ⟨hab, hK g undef w (by simp only [VR]; exact ⟨[], rfl, by simp [VRL]⟩) (.refl hI)⟩
  | plain hg v s' h =>
    rw [guard_ok hT hg]
    obtain ⟨g', cv, w', h1, h2, h3⟩ := op_ok hE hI hgl hT (o := o) h
    refine ⟨hab, ?_⟩
    rw [hro, semAt_exec _ _ _ (op_nodefer h)]
    rcases h1 with h1 | ⟨h1, rfl⟩
    · rw [h1]; exact hK g' cv w' h2 h3
    · rw [h1]; exact hK g' undef w' h2 h3
  | call hg c x f' caps v s' ho hc hx h =>
    rw [guard_ok hT hg]
    refine ⟨hab, ?_⟩
    have hxv := opnd_ok hI hgl hT x
    rw [hx] at hxv
    simp only [VR] at hxv
    obtain ⟨ccaps, hcx, hcap⟩ := hxv
    have hargs := argVs_ok (opnds_ok hI hgl hT c.args.toList)
    have hr := h g w _ hgl hI (hargs.append hcap)
    have e1 : c.args.map a.eval ++ (⟨ccaps⟩ : Array Value) = ⟨c.args.toList.map a.eval ++ ccaps⟩ := by apply Array.ext'; simp
    have hexec : (execOp a.eval o).run P w = (callFunc f' ⟨c.args.toList.map a.eval ++ ccaps⟩).run P w := by
      simp only [execOp, ho, Sem.run_bind, resolve_value hc hcx, Result.andThen_ok, invoke, e1]
    rw [hro, semAt_exec _ _ _ (by rw [ho]; simp), hexec]
    rcases hr with ⟨h1, h2⟩ | ⟨cv, w', h1, g', h2, h3⟩
    · rw [h1]
      refine ⟨fun h => by simp [Fence.wide] at h, ?_⟩
      have h3 : CallsIn (Fd rd) (n - 1) P f' ⟨c.args.toList.map a.eval ++ ccaps⟩ w _ := callsIn_wide.2 h2
      refine CallsIn.mono h3 fun e w' he => ?_
      obtain ⟨cv, rfl, g', k1, k2⟩ := he
      exact hK g' cv w' k1 k2
    · rw [h1]; exact hK g' cv w' h2 h3
  | yld hg c x l v s' ho hc hx h =>
    rw [guard_ok hT hg]
    refine ⟨hab, ?_⟩
    have hxv := opnd_ok hI hgl hT x
    rw [hx] at hxv
    have hargs := opnds_ok hI hgl hT c.args.toList
    obtain ⟨l', fn, tm, as, bd, hcx, h1, h2⟩ := h rd (n - 1) g w _ _ hgl hI hargs hxv
    have e1 : c.args.map a.eval = ⟨c.args.toList.map a.eval⟩ := by apply Array.ext'; simp
    have hexec : (execOp a.eval o).run P w = (Instr.yield l' ⟨c.args.toList.map a.eval⟩).run P w := by
      simp only [execOp, ho, Sem.run_bind, resolve_value hc hcx, Result.andThen_ok, invoke, e1]
    rw [hro, semAt_exec _ _ _ (by rw [ho]; simp), hexec, h1]
    refine ⟨fun h => by simp [Fence.wide] at h, ?_⟩
    refine RoundIn.mono h2 fun e w' he => ?_
    obtain ⟨cv, g', rfl, k1, k2⟩ := he
    exact hK g' cv w' k1 k2
end Go.Ev
/- Rounds of loops, regions. -/
namespace Go.Ev
structure Sound {R : Type} (P : Program) (E : Env) (ev : Evs R) : Prop where
  code : ∀ f c K t s r, ev.code f c K t s = some r → ∃ ex t' s', K ex t' s' = some r ∧ CodeOK P E c t s ex t' s' ∧ ∀ b, c = .loop b → LoopOK P E b t s ex t' s'
  call : ∀ f args K s r, ev.call f args K s = some r → ∃ v s', K v s' = some r ∧ InvokeOK P E.glob f args s v s' ∧ (E.intr f = none → CallsOK P E.glob f args s v s')

theorem Inv.fresh {g : G} {s : St} {w : World} (h : Inv g s w) : Inv g s.fresh w := ⟨h.N, h.S, h.live, h.dom, h.inj, h.lt, h.gl, h.pd⟩
theorem setAll_ok {g : G} : ∀ {ps : List Nat} {t t' : List V} {args : List V} {cargs tm : List Value}, VRL g t tm → VRL g args cargs → setAll t ps args = some t' →
    ps.length = cargs.length ∧ VRL g t' ((ps.zip cargs).foldl (fun (tm : List Value) x => tm.set x.1 x.2) tm)
  | [], t, t', [], [], tm, ht, _, h => by simp [setAll] at h; subst h; exact ⟨rfl, ht⟩
  | p :: ps, t, t', a :: as, c :: cs, tm, ht, ha, h => by
    simp only [VRL] at ha
    simp only [setAll, tset_eq] at h
    obtain ⟨h1, h2⟩ := setAll_ok (ht.set p ha.1) ha.2 h
    exact ⟨by simp [h1], by simpa using h2⟩
  | _, _, _, [], _ :: _, _, _, h, _ => by simp [VRL] at h
  | _, _, _, _ :: _, [], _, _, h, _ => by simp [VRL] at h
  | [], _, _, _ :: _, _ :: _, _, _, _, h => by simp [setAll] at h
  | _ :: _, _, _, [], [], _, _, _, h => by simp [setAll] at h
theorem zip_fold (ps : List Nat) (cargs tm : List Value) : (((⟨ps⟩ : Array Tmp).zip ⟨cargs⟩).foldl (fun tmps (x : Tmp × Value) => match x with | (t, a) => tmps.setIfInBounds t a) (⟨tm⟩ : Array Value)) = ⟨(ps.zip cargs).foldl (fun (tm : List Value) x => tm.set x.1 x.2) tm⟩ := by
  rw [← Array.foldl_toList, Array.toList_zip]
  generalize ps.zip cargs = l
  induction l generalizing tm with
  | nil => rfl
  | cons x l ih =>
    simp only [List.foldl_cons]
    rw [← ih]
    have : (⟨tm⟩ : Array Value).setIfInBounds x.1 x.2 = ⟨tm.set x.1 x.2⟩ := by apply Array.ext'; simp
    rw [← this]
/-- A loop's record, and what is known of it. -/
theorem loop_live {g : G} {s : St} {w : World} {o : Nat} {f : FuncId} {t : List V} {ps : List Nat} {as bd : Code} {pd : Option Ex} {bz : Bool} (hI : Inv g s w) (h1 : o < g.N) (h2 : ¬ g.pend o) (hg : hget s.heap o = some (.loop f t ps as bd pd bz)) :
    ∃ r tm df fn, g.O o = some r ∧ r.ver = 0 ∧ (∀ k, g.S r.b k = none) ∧ VRL g t tm ∧
      w.heap[r.b]? = some (.loop { state := loopState pd bz, pending := if bz then none else pd.map exCode, fn := fn, tmps := ⟨tm⟩, params := ⟨ps⟩, assign := as, body := bd, defers := df }) := by
  rcases hI.live o _ (by rw [← hI.N]; exact h1) hg with h3 | ⟨r, h3, h4⟩
  · exact absurd h3 h2
  · obtain ⟨h5, h6, tm, df, fn, h7, h8⟩ := h4
    exact ⟨r, tm, df, fn, h3, h5, h6, h7, h8⟩
/-- A loop's record turns. -/
theorem loop_put {g : G} {s : St} {w : World} {o df : Nat} {f f' fn : FuncId} {t : List V} {ps : List Nat} {as bd : Code} {pd pd' : Option Ex} {bz bz' : Bool} {r : ORec} {tm : List Value} {L : Loop} (hI : Inv g s w) (ho : g.O o = some r) (hv : r.ver = 0) (hS : ∀ k, g.S r.b k = none) (ht : VRL g t tm)
    (hg : hget s.heap o = some (.loop f t ps as bd pd bz)) (hb : r.b < w.heap.size)
    (hL : L = { state := loopState pd' bz', pending := if bz' then none else pd'.map exCode, fn := fn, tmps := ⟨tm⟩, params := ⟨ps⟩, assign := as, body := bd, defers := df }) :
    Step g s w g (s.put o (.loop f' t ps as bd pd' bz')) (w.putObj r.b (.loop L)) :=
  hI.putAt (.putObj _ _ _) ho rfl hg (fun k v hv => by rw [hS k] at hv; cases hv) ⟨hv, hS, tm, df, fn, ht, by rw [World.putObj_heap_same hb, hL]⟩
    (Keep.putAt hg rfl (fun _ _ _ _ _ _ _ _ => ⟨_, _, _, _, _, _, _, rfl⟩) (fun h => absurd rfl h))

theorem loop_same {g g' : G} {W o : Nat} {r r' : ORec} (e : Ext W g g') (ho : o < g.N) (h1 : g.O o = some r) (h2 : g'.O o = some r') (hv : r'.ver = 0) : r' = r := by
  obtain ⟨r0, k3, k4⟩ := e.O o ho r' h2
  rw [h1] at k3; cases k3
  rcases k4 with rfl | k4
  · rfl
  · omega
theorem endRound_ok {P : Program} {g : G} {s : St} {w : World} {o : Nat} {f : FuncId} {t : List V} {ps : List Nat} {as bd : Code} {pd : Option Ex} (hI : Inv g s w) (h1 : o < g.N) (h2 : ¬ g.pend o) (hg : hget s.heap o = some (.loop f t ps as bd pd true)) (pend : Option Ex) :
    ∃ r w', g.O o = some r ∧ r.ver = 0 ∧ (Instr.endRound r.b (pend.map exCode)).run P w = .ok (.bool pend.isNone) w' ∧ Step g s w g (s.put o (.loop f t ps as bd pend false)) w' := by
  obtain ⟨r, tm, df, fn, ho, hv, hS, ht, hw⟩ := loop_live hI h1 h2 hg
  have hb : r.b < w.heap.size := (Array.getElem?_eq_some_iff.1 hw).1
  have hrun := run_endRound (P := P) (pend.map exCode) hw
  refine ⟨r, _, ho, hv, ?_, loop_put (fn := fn) (df := df) hI ho hv hS ht hg hb rfl⟩
  rw [hrun]
  cases pend <;> rfl
section
variable {R : Type} {P : Program} {E : Env} {ev : Evs R} (hev : Sound P E ev)
include hev
theorem yieldTo_ok {l : Nat} {args : List V} {K : V → St → Option R} {s : St} {r : R} (h : yieldTo ev l args K s = some r) : ∃ v s', K v s' = some r ∧ YieldOK P E.glob l args s v s' := by
  unfold yieldTo at h
  split at h
  · rename_i f t ps as bd hg
    split at h
    · rename_i t' hset
      obtain ⟨ex, t1, s1, h1, hA, _⟩ := hev.code _ _ _ _ _ _ h
      cases ex with
      | exit id => cases h1
      | ret => cases h1
      | norm =>
        simp only at h1
        split at h1
        · rename_i f2 t2 ps2 a2 b2 hg1
          obtain ⟨ex2, t3, s2, h2, hB, _⟩ := hev.code _ _ _ _ _ _ h1
          unfold endRound at h2
          split at h2
          · rename_i f3 t4 ps3 a3 b3 pd3 hg2
            simp only at h2
            refine ⟨_, _, h2, ?_⟩
            intro rd n g w cargs cf hgl hI hargs hcf
            simp only [VR] at hcf
            obtain ⟨x1, x2, x3, x4⟩ := hcf
            obtain ⟨rc, tm, df, fn, ho, hv, hS, ht, hw⟩ := loop_live hI x1 x2 hg
            obtain ⟨_, hcf⟩ := x4 rc ho
            have hcf := hcf hv.symm
            obtain ⟨hlen, hT'⟩ := setAll_ok ht hargs hset
            have hsize : (⟨cargs⟩ : Array Value).size = (⟨ps⟩ : Array Tmp).size := by simp [hlen]
            have hy := run_yield (P := P) (args := ⟨cargs⟩) hw hsize
            simp only [zip_fold] at hy
            refine ⟨rc.b, fn, _, as, bd, hcf, hy, ?_⟩
            refine roundIn_of_wpIn trivial ?_
            refine hA (some rc.b) n _ g w _ 0 hgl hI.fresh hT' (fun l' hl' => ?_) (Marks.nil _ _ _) (Nat.zero_le _) (fun g1 act1 w1 hT1 hS1 hM1 => ?_)
            · cases hl'
              exact ⟨l, rc, by show l < s.next; rw [← hI.N]; exact x1, x2, ⟨f, t, ps, as, bd, none, false, hg⟩, ho, rfl⟩
            · have hl1 : l < g1.N := Nat.lt_of_lt_of_le x1 hS1.ext.N
              have hp1 : ¬ g1.pend l := by rw [hS1.ext.pend]; exact x2
              obtain ⟨rc1, tm1, df1, fn1, ho1, hv1, hSS1, ht1, hw1⟩ := loop_live hS1.inv hl1 hp1 hg1
              have he1 := loop_same hS1.ext x1 ho ho1 hv1
              subst he1
              have hb1 : rc1.b < w1.heap.size := (Array.getElem?_eq_some_iff.1 hw1).1
              have hbr := run_beginRound (P := P) hw1 rfl
              have hput := loop_put (L := { state := .busy, pending := none, fn := fn1, tmps := ⟨tm1⟩, params := ⟨ps2⟩, assign := a2, body := b2, defers := df1 }) (f' := f2) (pd' := none) (bz' := true) (fn := fn1) (df := df1) hS1.inv ho1 hv1 hSS1 ht1 hg1 hb1 rfl
              refine ⟨_, hbr, ?_⟩
              have hR0 : RdOK (some rc1.b) g s.fresh := fun l' hl' => by
                cases hl'
                exact ⟨l, rc1, by show l < s.next; rw [← hI.N]; exact x1, x2, ⟨f, t, ps, as, bd, none, false, hg⟩, ho, rfl⟩
              have hR1 := (hR0.step hI.fresh hS1).step hS1.inv hput
              refine hB (some rc1.b) n _ g1 _ act1 0 (hS1.ext.gl.trans hgl) hput.inv hT1 hR1 (hM1.step hput) (Nat.zero_le _) (fun g2 act2 w3 hT2 hS2 hM2 => ?_)
              have hl2 : l < g2.N := Nat.lt_of_lt_of_le hl1 hS2.ext.N
              have hp2 : ¬ g2.pend l := by rw [hS2.ext.pend]; exact hp1
              obtain ⟨rc2, w4, ho2, hv2, hrun2, hS3⟩ := endRound_ok (P := P) hS2.inv hl2 hp2 hg2 (match ex2 with | .norm => none | e => some e)
              have he2 := loop_same hS2.ext hl1 ho1 ho2 hv2
              subst he2
              obtain ⟨g4, hS4, _⟩ := leaveSt_ok hI (hS1.trans (hput.trans (hS2.trans hS3)))
              cases ex2 with
              | norm => exact ⟨_, w4, hrun2, _, g4, rfl, by simp only [VR]; exact .bool _, hS4⟩
              | exit id => exact ⟨_, w4, hrun2, _, g4, rfl, by simp only [VR]; exact .bool _, hS4⟩
              | ret => exact ⟨_, w4, hrun2, _, g4, rfl, by simp only [VR]; exact .bool _, hS4⟩
          · cases h2
        · cases h1
    · cases h
  · cases h
end
end Go.Ev
/- Regions whose order is the text's. -/
namespace Go.Ev
section
variable {R : Type} {P : Program} {E : Env} (hE : EnvOK P E) {ev : Evs R} (hev : Sound P E ev)
include hev
theorem oneOp_step {f : FuncId} {ops : Array Oper} {o : Oper} {t : List V} {s : St} {K : V → St → Option R} {r : R} (h : oneOp E ev f ops o t s K = some r) : ∃ v s', K v s' = some r ∧ OneStep P E f ops o t s v s' := by
  unfold oneOp at h
  split at h
  · rename_i hg
    split at h
    · rename_i x args ats hop
      split at h
      · rename_i f' caps hx
        obtain ⟨v, s', h1, h2, _⟩ := hev.call _ _ _ _ _ h
        exact ⟨v, s', h1, .call hg _ x f' caps v s' hop rfl hx h2⟩
      · rename_i l hx
        obtain ⟨v, s', h1, h2⟩ := yieldTo_ok hev h
        exact ⟨v, s', h1, .yld hg _ x l v s' hop rfl hx h2⟩
      · cases h
    · split at h
      · rename_i v s' hop
        exact ⟨v, s', h, .plain hg v s' hop⟩
      · cases h
  · rename_i hg; exact ⟨_, _, h, .skip hg⟩
  · cases h
include hE
theorem runOps_ok {f : FuncId} {ops : Array Oper} {K : List V → St → Option R} {r : R} : ∀ (rest : List Oper) (k : Nat) (t : List V) (s : St), (∀ j, rest[j]? = ops[k + j]?) → runOps E ev f ops K rest t s = some r →
    ∃ t' s', K t' s' = some r ∧ OK E (fun F n Q a w => wpOpsIn F n P ops Q (List.range' k rest.length) a w) t s .norm t' s'
  | [], k, t, s, _, h => ⟨t, s, h, fun rd n Q g w a W hgl hI hT hR hM hW hQ => hQ g a w hT (.refl hI) hM⟩
  | o :: rest, k, t, s, hk, h => by
    simp only [runOps] at h
    obtain ⟨v, s1, h1, h2⟩ := oneOp_step hev h
    obtain ⟨t', s', h3, h4⟩ := runOps_ok rest (k + 1) _ s1 (fun j => by have := hk (j + 1); rw [List.getElem?_cons_succ] at this; rw [this]; congr 1; omega) h1
    refine ⟨t', s', h3, fun rd n Q g w a W hgl hI hT hR hM hW hQ => ?_⟩
    have hi : ops[k]? = some o := by have := hk 0; simpa using this.symm
    simp only [List.length_cons, List.range'_succ]
    rw [wpOpsIn_cons]
    refine h2.sound hE hi hgl hI hT (fun g1 cv w1 hv hs => ?_)
    refine h4 rd n Q g1 w1 _ W (hs.ext.gl.trans hgl) hs.inv ((hT.mono hs.ext).set o.dst hv) (hR.step hI hs) ?_ (Nat.le_trans hW hs.frame.size) (fun g2 a2 w2 hT2 hs2 hM2 => hQ g2 a2 w2 hT2 (hs.trans hs2) hM2)
    have hd : (a.put o.dst cv).defers = a.defers := by cases o.dst <;> rfl
    rw [hd]
    exact hM.step hs
theorem region_ok {f : FuncId} {id : Nat} {ops : Array Oper} {K : List V → St → Option R} {t : List V} {s : St} {r : R} (h : runOps E ev f ops K ops.toList t s = some r) :
    ∃ t' s', K t' s' = some r ∧ CodeOK P E (.region id ops false) t s .norm t' s' := by
  obtain ⟨t', s', h1, h2⟩ := runOps_ok hE hev ops.toList 0 t s (fun j => by simp) h
  refine ⟨t', s', h1, fun rd n Q g w a W hgl hI hT hR hM hW hQ => wpIn_region ?_⟩
  have := h2 rd n Q g w a W hgl hI hT hR hM hW hQ
  rwa [Array.length_toList, ← List.range_eq_range'] at this
end
end Go.Ev
