/- Part CoC of the kept evaluator and its soundness; what each piece says stands ahead of it. No condition. -/
import Derived.Test.YtelhpneeiebeeaaGreatDoorCoB
import Derived.Laws.IdiomStrings
import Derived.Laws.BytesString
/- append, joined. -/
namespace Go.Ev
/-- The value and the step that an operation gives. -/
def Done (P : Program) (m : Sem Value) (g : G) (s : St) (w : World) (v : V) (s' : St) : Prop :=
  ∃ g' cv w', m.run P w = .ok cv w' ∧ VR g' v cv ∧ Step g s w g' s' w'

theorem row_end {a b n : Nat} (h : a ≤ b) : a * n ≤ b * n := Nat.mul_le_mul_right n h
theorem sub_row (a b n : Nat) (_h : b ≤ a) : (a - b) * n = a * n - b * n := Nat.sub_mul a b n

/-- rows laid over others -/
def over (els : List (List V)) (k : Nat) (new : List (List V)) : List (List V) := els.take k ++ new ++ els.drop (k + new.length)
theorem over_get {els new : List (List V)} {k : Nat} (h : k ≤ els.length) (i : Nat) : (over els k new)[i]? = if i < k then els[i]? else if i < k + new.length then new[i - k]? else els[i]? := by
  have hl : (els.take k).length = k := by simp; omega
  simp only [over]
  by_cases h1 : i < k
  · rw [if_pos h1, List.append_assoc, List.getElem?_append_left (by omega), List.getElem?_take, if_pos h1]
  · rw [if_neg h1]
    by_cases h2 : i < k + new.length
    · rw [if_pos h2, List.append_assoc, List.getElem?_append_right (by omega), hl, List.getElem?_append_left (by omega)]
    · rw [if_neg h2, List.getElem?_append_right (by simp; omega), List.getElem?_drop]
      simp only [List.length_append, hl]
      congr 1; omega
theorem over_mem {els new : List (List V)} {k : Nat} {r : List V} (h : r ∈ over els k new) : r ∈ els ∨ r ∈ new := by
  simp only [over, List.mem_append] at h
  rcases h with (h | h) | h
  · exact .inl (List.mem_of_mem_take h)
  · exact .inr h
  · exact .inl (List.mem_of_mem_drop h)
/-- New rows' cells written over a block's. -/
theorem RowsAt.over {g : G} {esz k : Nat} {els new : List (List V)} {c : Array Value} {cvs : List Value} (_hpos : 0 < esz) (h : RowsAt g esz els c) (hl : ∀ r, r ∈ els → r.length = esz) (hln : ∀ r, r ∈ new → r.length = esz) (hk : k ≤ els.length)
    (hc : VRL g new.flatten cvs) (h1 : ∀ r, r ∈ new → allOne r = true) (hroom : k * esz + cvs.length ≤ c.size) : RowsAt g esz (over els k new) (putCells c (k * esz) cvs) := by
  have hcl : cvs.length = new.length * esz := by rw [← hc.length, flatten_length hln]
  intro i row hr j x hx
  have hjl : j < esz := by
    have hrow : row.length = esz := by
      rcases over_mem (List.mem_of_getElem? hr) with h | h
      · exact hl _ h
      · exact hln _ h
    rw [← hrow]; exact (List.getElem?_eq_some_iff.1 hx).1
  rw [over_get hk] at hr
  rw [putCells_get hroom]
  by_cases hik : i < k
  · rw [if_pos hik] at hr
    have := row_lt (j := 0) hik hjl
    rw [if_pos (by omega)]
    exact h i row hr j x hx
  · rw [if_neg hik] at hr
    have hge := row_end (n := esz) (show k ≤ i by omega)
    rw [if_neg (by omega), hcl]
    by_cases hi2 : i < k + new.length
    · rw [if_pos hi2] at hr
      have := row_lt (j := 0) hi2 hjl
      rw [Nat.add_mul] at this
      rw [if_pos (by omega)]
      have hidx := flatten_get hln hr hx
      obtain ⟨v, h9, h10⟩ := hc.get hidx
      refine ⟨v, ?_, allOne_mem (h1 row (List.mem_of_getElem? hr)) x (List.mem_of_getElem? hx), h10⟩
      rw [show i * esz + j - k * esz = (i - k) * esz + j by rw [Nat.sub_mul]; omega]
      exact h9
    · rw [if_neg hi2] at hr
      have := row_end (n := esz) (show k + new.length ≤ i by omega)
      rw [Nat.add_mul] at this
      rw [if_neg (by omega)]
      exact h i row hr j x hx
theorem firstLen_len {size : Nat} {els : List (List V)} {esz : Nat} (hl : ∀ r, r ∈ els → r.length = esz) (hs : firstLen size els = true) : els = [] ∨ esz = size := by
  cases els with
  | nil => exact .inl rfl
  | cons e es => exact .inr (by rw [← hl e (by simp)]; exact nbeq_iff.1 hs)
theorem Inv.drew {g : G} {s : St} {w : World} (hI : Inv g s w) : Inv g s w.drew := hI.heap_eq rfl

section
variable {P : Program} {E : Env} (hE : EnvOK P E) {g : G} {s s' : St} {w : World} {t e : TypeId} {ti ei : TInfo} {ts : List TypeId} {ty : TypeId} {x y : V} {cx cy : Value} {mu : Bool} {v : V}
  (hI : Inv g s w) (hti : E.ti t = some ti) (hd : ti.desc = .slice e) (hei : E.ti e = some ei) (hn : notIntTy E ts = true) (hb : ei.bytes ≤ 4096) (hx : VR g x cx) (hy : VR g y cy)
include hE hI hti hd hei hn hb hx hy

/-- append that makes a new array, of a slice whose elements are rows -/
theorem append_new {new rows : List (List V)} {A : Option Addr} {c : Nat} (hnew : elsOrBytes s y = some new) (hf : firstLen ei.size new = true) (hpos : 0 < ei.size) (hcx : cx = .slice A rows.length c) (hel : elsOf s x = some rows) (hfr : firstLen ei.size rows = true)
    (hroom : c < rows.length + new.length) (hm : rows.length + new.length ≤ lenMax) (h : grow mu e ei.size (rows ++ new) s = some (v, s')) : Done P (Builtin.append_ ⟨t :: ts⟩ ty #[cx, cy]) g s w v s' := by
  subst hcx
  have hI' : Inv g s w.drew := hI.drew
  obtain ⟨cn, k1, k2, k3, k4, _, k6⟩ := firstCells_ok (P := P) hI' hy hnew hf
  have hlen : ∀ w', (Builtin.lenOf cy).run P w' = .ok new.length w' := by
    intro w'
    obtain ⟨_, _, _, _, _, k5, _⟩ := firstCells_ok (P := P) hI hy hnew hf
    revert k5
    cases cy <;> simp [Builtin.lenOf, stuck]
  have hel' : elsOrBytes s x = some rows := by
    cases x <;> simp_all [elsOrBytes, elsOf]
    rename_i d
    cases d <;> simp_all
  obtain ⟨co, m1, m2, m3, m4, _, m6⟩ := firstCells_ok (P := P) hI' hx hel' hfr
  obtain ⟨rest, r1, r2⟩ := run_append_grow' hE hti hd hei hn (ty := ty) hlen hroom m1 k1 hb hm
  have hcap := grownCap_ge w (rows.length + new.length) c e
  obtain ⟨g', h1, h2⟩ := grow_ok (mu := mu) (size := ei.size) (cap := grownCap w (rows.length + new.length) c e) (rows := rows ++ new) (v := v) (s' := s') (cvs := co ++ cn) (rest := rest) (T := e) hI
    (w' := w.drew.alloc (.cells ⟨co ++ cn ++ rest⟩ e)) ⟨rfl, rfl, rfl⟩ rfl hpos (fun r hr => by
      rcases List.mem_append.1 hr with h | h
      · exact m4 r h
      · exact k4 r h) (fun r hr => by
      rcases List.mem_append.1 hr with h | h
      · exact allOne_of (fun z hz => allOne_mem m3 z (List.mem_flatten.2 ⟨r, h, hz⟩))
      · exact allOne_of (fun z hz => allOne_mem k3 z (List.mem_flatten.2 ⟨r, h, hz⟩))) (by rw [List.flatten_append]; exact m2.append k2)
    (by simp only [List.length_append, m6, k6, r1, Nat.sub_mul, Nat.add_mul]
        have := row_end (n := ei.size) hcap
        rw [Nat.add_mul] at this
        omega) h
  rw [List.length_append] at h1
  exact ⟨g', _, _, r2, h1, h2⟩

omit hb in
/-- nothing is appended -/
theorem append_none {A : Option Addr} {n c : Nat} (hnew : elsOrBytes s y = some []) (hcx : cx = .slice A n c) (hc : n ≤ c) : Done P (Builtin.append_ ⟨t :: ts⟩ ty #[cx, cy]) g s w x s := by
  subst hcx
  obtain ⟨cn, k1, k2, k3, k4, k5, k6⟩ := firstCells_ok (P := P) hI hy hnew (size := ei.size) rfl
  have hcn : cn = [] := List.eq_nil_of_length_eq_zero (by simpa using k6)
  subst hcn
  have hr := run_append_room hE hti hd hei hn (base := A) (sLen := n) (sCap := c) (ty := ty) (w' := w) k5 (by simpa using hc) k1 (fun a _ => rfl) (fun _ => rfl)
  exact ⟨g, _, w, hr, by simpa using hx, .refl hI⟩
omit hd hei hn hb hti hE hI hx hy
theorem DR.append {S S' : Nat → Nat → Option Value} {b n c esz : Nat} {els nd : List (List D)} {cvs : List Value} (h : DR S (.sl false els) (.slice (some ⟨b, 0, none⟩) n c)) (hm : ∀ b i v, S b i = some v → S' b i = some v)
    (hfe : firstLen esz els = true) (hc : els.length + nd.length ≤ c)
    (hrow : ∀ (i : Nat) (r : List D), nd[i]? = some r → r.length = esz ∧ ∀ (j : Nat) (x : D), r[j]? = some x → ∃ v, cvs[i * esz + j]? = some v ∧ DR S' x v)
    (hS : ∀ k, k < nd.length * esz → S' b (els.length * esz + k) = cvs[k]?) : DR S' (.sl false (els ++ nd)) (.slice (some ⟨b, 0, none⟩) (els ++ nd).length c) := by
  have hk : ∀ (i : Nat) (r : List D), nd[i]? = some r → ∀ (j : Nat) (x : D), r[j]? = some x → i * esz + j < nd.length * esz := fun i r hr j x hx => by
    have h1 : i < nd.length := (List.getElem?_eq_some_iff.1 hr).1
    have h2 : j < esz := by rw [← (hrow i r hr).1]; exact (List.getElem?_eq_some_iff.1 hx).1
    have := row_lt (j := 0) h1 h2
    omega
  cases h with
  | sl _ _ A c b' off esz' val hlen hSv hv hA hcc hcut =>
    have hb : els ≠ [] → b' = b ∧ off = 0 ∧ esz' = esz := fun hne => by
      have h1 := hA hne
      injection h1 with h1
      injection h1 with h1 h2
      refine ⟨h1.symm, h2.symm, ?_⟩
      cases els with
      | nil => exact absurd rfl hne
      | cons r rs => rw [← hlen r (by simp)]; exact nbeq_iff.1 hfe
    refine .sl false _ _ c b 0 esz (fun i j => if i < els.length then val i j else cvs.getD ((i - els.length) * esz + j) undef) (fun r hr => ?_) (fun i r hr j x hx => ?_) (fun i r hr j x hx => ?_) (fun _ => rfl) (by simpa using hc) (by simp)
    · rcases List.mem_append.1 hr with h | h
      · rw [hlen r h]; exact (hb (List.ne_nil_of_mem h)).2.2
      · obtain ⟨i, hi⟩ := List.mem_iff_getElem?.1 h
        exact (hrow i r hi).1
    · by_cases hi : i < els.length
      · rw [List.getElem?_append_left hi] at hr
        obtain ⟨h1, h2, h3⟩ := hb (List.ne_nil_of_mem (List.mem_of_getElem? hr))
        subst h1; subst h2; subst h3
        simp only [if_pos hi]
        exact hm _ _ _ (hSv i r hr j x hx)
      · rw [List.getElem?_append_right (by omega)] at hr
        obtain ⟨v, h1, _⟩ := (hrow _ r hr).2 j x hx
        have h2 := hS _ (hk _ r hr j x hx)
        rw [h1, Nat.sub_mul] at h2
        have := row_end (n := esz) (show els.length ≤ i by omega)
        rw [show 0 + i * esz + j = els.length * esz + (i * esz - els.length * esz + j) by omega, h2]
        simp only [if_neg hi, List.getD_eq_getElem?_getD, Nat.sub_mul]
        rw [Nat.sub_mul] at h1
        rw [h1]; rfl
    · by_cases hi : i < els.length
      · rw [List.getElem?_append_left hi] at hr
        simp only [if_pos hi]
        exact (hv i r hr j x hx).mono hm
      · rw [List.getElem?_append_right (by omega)] at hr
        obtain ⟨v, h1, h2⟩ := (hrow _ r hr).2 j x hx
        simp only [if_neg hi, List.getD_eq_getElem?_getD]
        rw [h1]; exact h2
/-- An object's record turns; first cells of its block are such that nobody will write them. -/
def G.turn (g : G) (o : Nat) (r : ORec) (n0 n1 : Nat) (c : List Value) : G :=
  { g with S := fun b i => if b = r.b ∧ n0 ≤ i ∧ i < n1 then c[i - n0]? else g.S b i, O := fun o' => if o' = o then some r else g.O o' }
end
end Go.Ev
/- append onto what is owned. -/
namespace Go.Ev
section
variable {P : Program} {E : Env} (hE : EnvOK P E) {g : G} {s s' : St} {w : World} {t e : TypeId} {ti ei : TInfo} {ts : List TypeId} {ty : TypeId} {y : V} {cx cy : Value} {v : V}
  (hI : Inv g s w) (hti : E.ti t = some ti) (hd : ti.desc = .slice e) (hei : E.ti e = some ei) (hn : notIntTy E ts = true) (hb : ei.bytes ≤ 4096) (hy : VR g y cy)
include hE hI hti hd hei hn hb hy
theorem append_os {o : Nat} {els nd : List (List D)} {new : List (List V)} (hx : VR g (.os o els) cx) (hnew : elsOrBytes s y = some new) (hf : firstLen ei.size new = true) (hpos : 0 < ei.size) (hg : hget s.heap o = some (.tok els.length ei.size e)) (hnd : toDss new = some nd)
    (hfe : firstLen ei.size els = true) (hne : 0 < new.length) (hm : els.length + new.length ≤ lenMax) : Done P (Builtin.append_ ⟨t :: ts⟩ ty #[cx, cy]) g s w (.os o (els ++ nd)) (s.put o (.tok (els.length + new.length) ei.size e)) := by
  have hx0 := hx
  simp only [VR] at hx
  obtain ⟨x1, x2, x3, x4, x5⟩ := hx
  rcases hI.live o _ (by rw [← hI.N]; exact x1) hg with h | ⟨r, hr, hobj⟩
  · exact absurd h x2
  obtain ⟨o1, o2, o2', o3, c, T, fz, o4, o5, o6, o7⟩ := hobj
  obtain ⟨c', rfl, hc'⟩ := (x5 r hr).2 o1.symm
  obtain ⟨cn, k1, k2, k3, k4, k5, k6⟩ := firstCells_ok (P := P) hI hy hnew hf
  have hmlen : new.length = nd.length := (toDss_get hnd).1
  have hel : elsOrBytes s (.os o els) = some (els.map ds) := rfl
  have hnn : (els.map ds).length = els.length := by simp
  have hfr : firstLen ei.size (els.map ds) = true := by
    cases els with
    | nil => rfl
    | cons r rs => simpa [firstLen, ds] using hfe
  have hb0 : r.b < w.heap.size := (Array.getElem?_eq_some_iff.1 o4).1
  have hw1 : ∀ k, ¬ (els.length * r.esz ≤ k) ∨ g.S r.b k = none := fun k => by
    by_cases h : els.length * r.esz ≤ k
    · exact .inr (o3 k h)
    · exact .inl h
  by_cases hroom : els.length + new.length ≤ c'
  · -- in place
    have hz : (els.length + new.length) * r.esz ≤ c.size := by rw [o5, ← hc']; exact row_end hroom
    have hz' := hz
    rw [Nat.add_mul] at hz'
    have hfit : els.length * r.esz + cn.length ≤ c.size := by rw [k6, ← o2']; exact hz'
    have hrun := run_storeCells_blk P cn 0 c w (o := els.length * r.esz) o4 (by simpa using hfit) (fun k hk1 hk2 => o7.1 k (by omega) (by omega)) (k2.oneCell k3)
    simp only [Nat.add_zero] at hrun
    refine ⟨g.turn o ⟨r.b, r.z, r.esz, els.length + new.length⟩ (els.length * r.esz) ((els.length + new.length) * r.esz) cn, _, _,
      run_append_room hE hti hd hei hn (w' := w.putObj r.b (.cells (putCells c (els.length * r.esz) cn) T fz)) k5 hroom k1 (fun a ha => by cases ha; rw [addr_add, Nat.zero_add, ← o2']; exact hrun) (fun h => by cases h), ?_, ?_⟩
    · have hS : ∀ k, k < nd.length * ei.size → (g.turn o ⟨r.b, r.z, r.esz, els.length + new.length⟩ (els.length * r.esz) ((els.length + new.length) * r.esz) cn).S r.b (els.length * ei.size + k) = cn[k]? := fun k hk => by
        simp only [G.turn]
        rw [if_pos ⟨trivial, by rw [← o2']; omega, by rw [Nat.add_mul, hmlen, o2']; omega⟩, ← o2']
        congr 1; omega
      have hmono : ∀ b i v, g.S b i = some v → (g.turn o ⟨r.b, r.z, r.esz, els.length + new.length⟩ (els.length * r.esz) ((els.length + new.length) * r.esz) cn).S b i = some v := fun b i v hv => by
        simp only [G.turn]
        split
        · rename_i h; obtain ⟨rfl, h1, h2⟩ := h; rw [o3 i h1] at hv; cases hv
        · exact hv
      have hrow : ∀ (i : Nat) (r' : List D), nd[i]? = some r' → r'.length = ei.size ∧ ∀ (j : Nat) (x : D), r'[j]? = some x → ∃ v, cn[i * ei.size + j]? = some v ∧ DR g.S x v := rows_DR hnd k4 k2
      have hdr := DR.append (S' := (g.turn o ⟨r.b, r.z, r.esz, els.length + new.length⟩ (els.length * r.esz) ((els.length + new.length) * r.esz) cn).S) (cvs := cn) x4 hmono hfe (by rw [← hmlen]; exact hroom)
        (fun i r' hr' => ⟨(hrow i r' hr').1, fun j x hx => let ⟨v, h1, h2⟩ := (hrow i r' hr').2 j x hx; ⟨v, h1, h2.mono hmono⟩⟩) hS
      simp only [VR]
      refine ⟨x1, x2, rfl, by rw [List.length_append, ← hmlen] at hdr; exact hdr, fun r1 hr1 => ?_⟩
      simp only [G.turn, if_true] at hr1
      cases hr1
      refine ⟨by simp [hmlen], fun _ => ⟨c', by simp [hmlen], hc'⟩⟩
    · refine hI.turn (r := r) (r' := ⟨r.b, r.z, r.esz, els.length + new.length⟩) (.putObj _ _ _) hr hg (fun _ _ _ _ _ _ _ h => by cases h) (fun o' => rfl) rfl rfl rfl (by simp; omega) (fun b i v hv => ?_) (fun b i hbb => ?_) (.inl rfl) (by simpa [World.putObj] using hb0) (by simp [World.putObj])
        (fun b _ hbb => by simp only [World.putObj]; rw [Array.getElem?_setIfInBounds_ne (Ne.symm hbb)]) (fun i v hv => ?_) ?_
      · simp only [G.turn]
        split
        · rename_i h; obtain ⟨rfl, h1, h2⟩ := h; rw [o3 i h1] at hv; cases hv
        · exact hv
      · simp only [G.turn]; rw [if_neg (fun h => hbb h.1)]
      · rw [cell_blk (World.putObj_heap_same hb0), putCells_get hfit]
        simp only [G.turn] at hv
        rw [Nat.add_mul] at hv
        split at hv
        · rename_i h
          obtain ⟨_, h1, h2⟩ := h
          rw [if_neg (by omega), if_pos (by rw [k6, ← o2']; exact h2)]; exact hv
        · rename_i h
          rcases hw1 i with h1 | h1
          · rw [if_pos (by omega)]
            have := hI.S _ _ _ hv
            rwa [cell_blk o4] at this
          · rw [h1] at hv; cases hv
      · refine ⟨rfl, o2, o2', fun k hk => ?_, _, T, fz, World.putObj_heap_same hb0, by rw [putCells_size hfit]; exact o5, by rw [← o5]; exact hz, fun k hk1 hk2 => o7.1 k (by have := row_end (n := r.esz) (show els.length ≤ els.length + new.length by omega); exact Nat.le_trans this hk1) hk2, o7.2⟩
        have hk' : (els.length + new.length) * r.esz ≤ k := hk
        have := row_end (n := r.esz) (show els.length ≤ els.length + new.length by omega)
        simp only [G.turn]
        rw [if_neg (by omega)]
        exact o3 k (by omega)
  · -- a new array
    have hlen : ∀ w', (Builtin.lenOf cy).run P w' = .ok new.length w' := by
      intro w'; revert k5; cases cy <;> simp [Builtin.lenOf, stuck]
    obtain ⟨cn', p1, p2, p3, p4, _, p6⟩ := firstCells_ok (P := P) hI.drew hy hnew hf
    obtain ⟨co, m1, m2, m3, m4, _, m6⟩ := firstCells_ok (P := P) hI.drew hx0 hel hfr
    rw [hnn] at m1 m6
    obtain ⟨rest, r1, r2⟩ := run_append_grow' hE hti hd hei hn (ty := ty) hlen (by omega) m1 p1 hb hm
    have hcap := grownCap_ge w (els.length + new.length) c' e
    have hcap' := row_end (n := ei.size) hcap
    rw [Nat.add_mul] at hcap'
    have hrows : toDss (els.map ds ++ new) = some (els ++ nd) := toDss_append (toDss_ds els) hnd
    have hall : ∀ r', r' ∈ els.map ds ++ new → r'.length = ei.size := fun r' hr' => by
      rcases List.mem_append.1 hr' with h | h
      · exact m4 r' h
      · exact p4 r' h
    have hvr : VRL g (els.map ds ++ new).flatten (co ++ cn') := by rw [List.flatten_append]; exact m2.append p2
    have hcl : (co ++ cn').length = (els.length + new.length) * ei.size := by rw [List.length_append, m6, p6, Nat.add_mul]
    have hNS := hI.S_new (Nat.le_refl w.heap.size)
    let r' : ORec := ⟨w.heap.size, grownCap w (els.length + new.length) c' e * ei.size, ei.size, els.length + new.length⟩
    let g' := g.turn o r' 0 ((els.length + new.length) * ei.size) (co ++ cn')
    have hmono : ∀ b i v, g.S b i = some v → g'.S b i = some v := fun b i v hv => by
      simp only [g', G.turn]
      split
      · rename_i h; obtain ⟨rfl, h1, h2⟩ := h; rw [hNS] at hv; cases hv
      · exact hv
    have hl2 : (els ++ nd).length = els.length + new.length := by rw [List.length_append, hmlen]
    have hdr : DR g'.S (.sl false (els ++ nd)) (.slice (some ⟨w.heap.size, 0, none⟩) (els ++ nd).length (grownCap w (els.length + new.length) c' e)) :=
      .of_block (c := co ++ cn') (fun i r1 hr1 => by
        obtain ⟨a1, a2⟩ := rows_DR hrows hall hvr i r1 hr1
        exact ⟨a1, fun j x hx => let ⟨v, b1, b2⟩ := a2 j x hx; ⟨v, b1, b2.mono hmono⟩⟩) (fun k hk => by
          rw [hl2] at hk
          simp only [g', G.turn]
          rw [if_pos ⟨rfl, by omega, hk⟩]; rfl) (by rw [hl2]; exact hcap) (by simp)
    refine ⟨g', _, _, r2, ?_, ?_⟩
    · simp only [VR]
      refine ⟨x1, x2, rfl, by rw [hl2] at hdr; exact hdr, fun r1 hr1 => ?_⟩
      simp only [g', G.turn, if_true] at hr1
      cases hr1
      exact ⟨by rw [hl2]; exact Nat.le_refl _, fun _ => ⟨_, by rw [hl2], rfl⟩⟩
    · refine hI.turn (r := r) (r' := r') ⟨rfl, rfl, rfl⟩ hr hg (fun _ _ _ _ _ _ _ h => by cases h) (fun o' => rfl) rfl rfl rfl (by simp [r']; omega) hmono (fun b i hbb => ?_) (.inr (Nat.le_refl _)) (by simp [r', World.alloc]) (by simp [World.alloc])
        (fun b hlt _ => by simp only [World.alloc, World.drew]; rw [Array.getElem?_push, if_neg (by omega)]) (fun i v hv => ?_) ?_
      · simp only [g', G.turn]; rw [if_neg (fun h => hbb h.1)]
      · have hblk : (w.drew.alloc (.cells ⟨co ++ cn' ++ rest⟩ e)).heap[r'.b]? = some (.cells ⟨co ++ cn' ++ rest⟩ e (0, 0)) := heap_alloc_new w.drew _
        rw [cell_blk hblk]
        simp only [g', G.turn] at hv
        split at hv
        · rename_i h
          rw [List.getElem?_toArray, List.getElem?_append_left (by rw [hcl]; exact h.2.2)]; exact hv
        · exact absurd hv (by rw [show r'.b = w.heap.size from rfl, hNS]; simp)
      · refine ⟨rfl, hpos, rfl, fun k hk => ?_, ⟨co ++ cn' ++ rest⟩, ⟨e, rfl⟩, (0, 0), heap_alloc_new w.drew _, ?_, row_end hcap, fun k _ _ => by simp, .inl rfl⟩
        · have hk' : (els.length + new.length) * ei.size ≤ k := hk
          simp only [g', G.turn]
          rw [if_neg (by omega)]
          exact hNS k
        · simp only [List.size_toArray, List.length_append, m6, p6, r1, Nat.sub_mul, Nat.add_mul, r']; omega
theorem append_ms {mu : Bool} {o i n hw : Nat} {cut : Bool} {opn : Tg} {els new : List (List V)} (hx : VR g (.ms o i n hw cut) cx) (hnew : elsOrBytes s y = some new) (hf : firstLen ei.size new = true) (hpos : 0 < ei.size) (hg : hget s.heap o = some (.row els opn))
    (hl : els.length = hw) (hin : i + n ≤ hw) (hfe : firstLen ei.size els = true) (hne : 0 < new.length) (hm : hw + new.length ≤ lenMax)
    (h : (bif cut then grow mu e ei.size ((els.drop i).take n ++ new) s
             else bif Nat.ble (i + n + new.length) hw then some (.ms o i (n + new.length) hw false, s.put o (.row (els.take (i + n) ++ new ++ els.drop (i + n + new.length)) opn))
             else bif Nat.beq i 0 && opn.opn && Nat.beq opn.ty e && Nat.blt 0 hw then some (.ms o 0 (n + new.length) (n + new.length) false, s.put o (.row (els.take n ++ new) opn)) else none) = some (v, s')) :
    Done P (Builtin.append_ ⟨t :: ts⟩ ty #[cx, cy]) g s w v s' := by
  have hx0 := hx
  simp only [VR] at hx
  obtain ⟨x1, x2, x3, x5⟩ := hx
  obtain ⟨r, hr, hobj⟩ := row_live hI x1 x2 hg
  obtain ⟨o1, o2, o3, o4, c, T, fz, o5, o6, o7, o8, o9, o10⟩ := id hobj
  obtain ⟨A, c', rfl, hA, hc', hcut, huncut⟩ := (x5 r hr).2 (by rw [o1]; exact hl.symm)
  have hels : elsOf s (.ms o i n hw cut) = some ((els.drop i).take n) := by
    have h1 : Nat.beq els.length hw = true := nbeq_iff.2 hl
    have h2 : Nat.ble (i + n) hw = true := ble_iff.2 hin
    simp [elsOf, hg, h1, h2]
  have hrl : ((els.drop i).take n).length = n := by simp; omega
  cases cut with
  | true =>
    simp only [cond_true] at h
    refine append_new hE hI hti hd hei hn hb hx0 hy hnew hf hpos (rows := (els.drop i).take n) (A := A) (c := c') (by rw [hrl]) hels ?_ (by rw [hrl, hcut rfl]; omega) (by rw [hrl]; omega) h
    have hmem : ∀ r', r' ∈ (els.drop i).take n → r'.length = r.esz := fun r' hr' => o3 r' (List.mem_of_mem_drop (List.mem_of_mem_take hr'))
    rcases firstLen_len o3 hfe with rfl | hsz
    · simp [firstLen]
    · cases hq : (els.drop i).take n with
      | nil => rfl
      | cons q qs => exact nbeq_iff.2 ((hmem q (by rw [hq]; simp)).trans hsz)
  | false =>
    simp only [cond_false] at h
    have hz := huncut rfl
    obtain ⟨cn, k1, k2, k3, k4, k5, k6⟩ := firstCells_ok (P := P) hI hy hnew hf
    have hone : ∀ r, r ∈ new → allOne r = true := fun r hr => allOne_of (fun z hz => allOne_mem k3 z (List.mem_flatten.2 ⟨r, hr, hz⟩))
    have hb0 : r.b < w.heap.size := (Array.getElem?_eq_some_iff.1 o5).1
    cases hin1 : Nat.ble (i + n + new.length) hw with
    | true =>
      simp only [hin1, cond_true, Option.some.injEq, Prod.mk.injEq] at h
      obtain ⟨rfl, rfl⟩ := h
      have hin1 := ble_iff.1 hin1
      have hsz : r.esz = ei.size := by
        rcases firstLen_len o3 hfe with rfl | hsz
        · simp at hl; omega
        · exact hsz
      have hfitz := row_end (n := r.esz) (show i + n + new.length ≤ els.length by omega)
      have hc2 : n + new.length ≤ c' := by
        have : (i + n + new.length) * r.esz ≤ (i + c') * r.esz := by rw [hz]; omega
        have := Nat.le_of_mul_le_mul_right this o2
        omega
      have hA := hA (by omega)
      subst hA
      have hcn : cn.length = new.length * r.esz := by rw [k6, hsz]
      have hfit : (i + n) * r.esz + cn.length ≤ c.size := by rw [hcn, ← Nat.add_mul]; omega
      have hrun := run_storeCells_blk P cn 0 c w (o := (i + n) * r.esz) o5 (by simpa using hfit) (fun k hk1 hk2 => o10 k (by omega)) (k2.oneCell k3)
      simp only [Nat.add_zero] at hrun
      refine ⟨g, _, _, run_append_room hE hti hd hei hn (w' := w.putObj r.b (.cells (putCells c ((i + n) * r.esz) cn) T fz)) k5 hc2 k1 (fun a ha => by cases ha; rw [addr_add, ← hsz, ← Nat.add_mul]; exact hrun) (fun h => by cases h), ?_, ?_⟩
      · simp only [VR]
        refine ⟨x1, x2, rfl, fun r1 hr1 => ?_⟩
        rw [hr] at hr1; cases hr1
        exact ⟨by omega, fun _ => ⟨_, c', rfl, fun _ => rfl, hc2, by simp, fun _ => hz⟩⟩
      · refine hI.put (.putObj _ _ _) hr rfl hg (fun k v hv => by rw [o4 k] at hv; cases hv) ?_
        have hlen' : (els.take (i + n) ++ new ++ els.drop (i + n + new.length)).length = els.length := by simp; omega
        refine ⟨by rw [hlen']; exact o1, o2, fun row hrow => ?_, o4, _, T, fz, World.putObj_heap_same hb0, by rw [putCells_size hfit]; exact o6, by rw [hlen']; exact o7, fun h => by rw [hlen']; exact o8 h, ?_, o10⟩
        · rcases over_mem (els := els) (new := new) (k := i + n) hrow with h | h
          · exact o3 _ h
          · rw [hsz]; exact k4 _ h
        · exact RowsAt.over (k := i + n) o2 o9 o3 (fun r' hr' => by rw [hsz]; exact k4 r' hr') (by omega) k2 hone hfit
    | false =>
      simp only [hin1, cond_false] at h
      cases hc3 : (Nat.beq i 0 && opn.opn && Nat.beq opn.ty e && Nat.blt 0 hw) with
      | false => simp [hc3] at h
      | true =>
        simp only [hc3, cond_true, Option.some.injEq, Prod.mk.injEq] at h
        obtain ⟨rfl, rfl⟩ := h
        simp only [Bool.and_eq_true] at hc3
        obtain ⟨⟨⟨hi0, hopn⟩, hty⟩, hhw⟩ := hc3
        have hty := nbeq_iff.1 hty
        have hi0 := nbeq_iff.1 hi0
        have hhw := blt_iff.1 hhw
        subst hi0
        have hbig : hw < n + new.length := by
          rcases Nat.lt_or_ge hw (n + new.length) with h | h
          · exact h
          · rw [ble_iff.2 (by omega)] at hin1; cases hin1
        have hsz : r.esz = ei.size := by
          rcases firstLen_len o3 hfe with rfl | hsz
          · simp at hl; omega
          · exact hsz
        have hcn : cn.length = new.length * r.esz := by rw [k6, hsz]
        simp only [Nat.zero_add] at hz hin
        have hdrop : els.drop (n + new.length) = [] := List.drop_eq_nil_of_le (by omega)
        have hrow2 : els.take n ++ new = over els n new := by simp [over, hdrop]
        have hlen' : (els.take n ++ new).length = n + new.length := by simp; omega
        have hmem : ∀ row, row ∈ els.take n ++ new → row.length = r.esz := fun row hrow => by
          rw [hrow2] at hrow
          rcases over_mem hrow with h | h
          · exact o3 _ h
          · rw [hsz]; exact k4 _ h
        by_cases hroom : n + new.length ≤ c'
        · have hA := hA (by omega)
          rw [Nat.zero_mul] at hA
          subst hA
          have hzz : (n + new.length) * r.esz ≤ r.z := by rw [← hz]; exact row_end hroom
          have hfit : n * r.esz + cn.length ≤ c.size := by rw [hcn, ← Nat.add_mul]; omega
          have hrun := run_storeCells_blk P cn 0 c w (o := n * r.esz) o5 (by simpa using hfit) (fun k hk1 hk2 => o10 k (by omega)) (k2.oneCell k3)
          simp only [Nat.add_zero] at hrun
          let r' : ORec := ⟨r.b, r.z, r.esz, n + new.length⟩
          let g' : G := { g with O := fun o' => if o' = o then some r' else g.O o' }
          refine ⟨g', _, _, run_append_room hE hti hd hei hn (w' := w.putObj r.b (.cells (putCells c (n * r.esz) cn) T fz)) k5 hroom k1 (fun a ha => by cases ha; rw [addr_add, ← hsz, Nat.zero_add]; exact hrun) (fun h => by cases h), ?_, ?_⟩
          · simp only [VR]
            refine ⟨x1, x2, rfl, fun r1 hr1 => ?_⟩
            simp only [g', if_true] at hr1; cases hr1
            exact ⟨Nat.le_refl _, fun _ => ⟨_, c', rfl, fun _ => by simp [r'], hroom, by simp, fun _ => by simpa [r'] using hz⟩⟩
          · have hst := hI.turn (g' := g') (r := r) (r' := r') (w' := w.putObj r.b (.cells (putCells c (n * r.esz) cn) T fz)) (obj := .row (els.take n ++ new) opn) (.putObj _ _ _) hr hg (fun _ _ _ _ _ _ _ h => by cases h) (fun o' => rfl) rfl rfl rfl (by simp only [r']; omega) (fun b i v hv => hv) (fun b i hbb => rfl) (.inl rfl) (by simpa [World.putObj] using hb0) (by simp [World.putObj])
              (fun b _ hbb => by simp only [World.putObj]; rw [Array.getElem?_setIfInBounds_ne (Ne.symm hbb)]) (fun k v hv => by have : g.S r.b k = some v := hv; rw [o4 k] at this; cases this) ?_
            · exact hst
            · refine ⟨by rw [hlen'], o2, hmem, o4, _, T, fz, World.putObj_heap_same hb0, by rw [putCells_size hfit]; exact o6, by rw [hlen']; exact hzz, by rw [hopn]; simp, ?_, o10⟩
              rw [hrow2]
              have := RowsAt.over (k := n) o2 o9 o3 (fun r' hr' => by rw [hsz]; exact k4 r' hr') (by omega) k2 hone hfit
              intro i1 row1 h1 j1 x1 h2
              obtain ⟨v1, h3, h4, h5⟩ := this i1 row1 h1 j1 x1 h2
              have e : Ext w.heap.size g g' := by
                refine ⟨fun _ _ _ h => h, fun _ _ _ h => .inl h, fun oo hoo rr hrr => ?_, fun oo rr hrr => ?_, Nat.le_refl _, rfl, rfl⟩
                · simp only [g'] at hrr
                  split at hrr
                  · rename_i he; subst he; cases hrr; exact ⟨r, hr, .inr (by simp only [r']; omega)⟩
                  · exact ⟨rr, hrr, .inl rfl⟩
                · simp only [g'] at hrr
                  split at hrr
                  · cases hrr; exact .inl ⟨o, r, hr, rfl⟩
                  · exact .inl ⟨oo, rr, hrr, rfl⟩
              exact ⟨v1, h3, h4, h5.mono e⟩
        · have hlen2 : ∀ w', (Builtin.lenOf cy).run P w' = .ok new.length w' := by
            intro w'; revert k5; cases cy <;> simp [Builtin.lenOf, stuck]
          simp only [List.drop_zero] at hels hrl
          have hel : elsOrBytes s (.ms o 0 n hw false) = some (els.take n) := hels
          have hfr : firstLen ei.size (els.take n) = true := by
            cases els with
            | nil => simp [firstLen]
            | cons q qs =>
              cases n with
              | zero => rfl
              | succ n => simpa [firstLen] using hfe
          obtain ⟨cn', p1, p2, p3, p4, _, p6⟩ := firstCells_ok (P := P) hI.drew hy hnew hf
          obtain ⟨co, m1, m2, m3, m4, _, m6⟩ := firstCells_ok (P := P) hI.drew hx0 hel hfr
          rw [hrl] at m1 m6
          obtain ⟨rest, r1, r2⟩ := run_append_grow' hE hti hd hei hn (ty := ty) hlen2 (by omega) m1 p1 hb (by simp only [lenMax] at hm; omega)
          have hcap := grownCap_ge w (n + new.length) c' e
          have hcap' := row_end (n := ei.size) hcap
          rw [Nat.add_mul] at hcap'
          have hvr : VRL g (els.take n ++ new).flatten (co ++ cn') := by rw [List.flatten_append]; exact m2.append p2
          have hcl : (co ++ cn').length = (n + new.length) * ei.size := by rw [List.length_append, m6, p6, Nat.add_mul]
          have hNS := hI.S_new (Nat.le_refl w.heap.size)
          let r' : ORec := ⟨w.heap.size, grownCap w (n + new.length) c' e * ei.size, ei.size, n + new.length⟩
          let g' : G := { g with O := fun o' => if o' = o then some r' else g.O o' }
          have ex : Ext w.heap.size g g' := by
            refine ⟨fun _ _ _ h => h, fun _ _ _ h => .inl h, fun oo hoo rr hrr => ?_, fun oo rr hrr => ?_, Nat.le_refl _, rfl, rfl⟩
            · simp only [g'] at hrr
              split at hrr
              · rename_i he; subst he; cases hrr; exact ⟨r, hr, .inr (by simp only [r']; omega)⟩
              · exact ⟨rr, hrr, .inl rfl⟩
            · simp only [g'] at hrr
              split at hrr
              · cases hrr; exact .inr (Nat.le_refl _)
              · exact .inl ⟨oo, rr, hrr, rfl⟩
          refine ⟨g', _, _, r2, ?_, ?_⟩
          · simp only [VR]
            refine ⟨x1, x2, rfl, fun r1 hr1 => ?_⟩
            simp only [g', if_true] at hr1; cases hr1
            exact ⟨Nat.le_refl _, fun _ => ⟨_, _, rfl, fun _ => by simp [r'], hcap, by simp, fun _ => by simp [r']⟩⟩
          · refine hI.turn (r := r) (r' := r') ⟨rfl, rfl, rfl⟩ hr hg (fun _ _ _ _ _ _ _ h => by cases h) (fun o' => rfl) rfl rfl rfl (by simp only [r']; omega) (fun b i v hv => hv) (fun b i hbb => rfl) (.inr (Nat.le_refl _)) (by simp [r', World.alloc]) (by simp [World.alloc])
              (fun b hlt _ => by simp only [World.alloc, World.drew]; rw [Array.getElem?_push, if_neg (by omega)]) (fun i v hv => absurd hv (by show g.S w.heap.size i ≠ some v; rw [hNS]; simp)) ?_
            refine ⟨by rw [hlen'], hpos, fun row hrow => (hmem row hrow).trans hsz, hNS, ⟨co ++ cn' ++ rest⟩, ⟨e, hty.symm⟩, (0, 0), heap_alloc_new w.drew _, ?_, by rw [hlen']; exact row_end hcap, by rw [hopn]; simp, ?_, fun k _ => by simp⟩
            · simp only [List.size_toArray, List.length_append, m6, p6, r1, Nat.sub_mul, Nat.add_mul, r']; omega
            · intro i1 row1 h1 j1 x1 h2
              have hidx : (els.take n ++ new).flatten[i1 * ei.size + j1]? = some x1 := flatten_get (fun r hr => (hmem r hr).trans hsz) h1 h2
              obtain ⟨v1, h3, h4⟩ := hvr.get hidx
              have hone1 : allOne row1 = true := by
                rcases List.mem_append.1 (List.mem_of_getElem? h1) with h | h
                · exact hobj.ones _ (List.mem_of_mem_take h)
                · exact hone _ h
              exact ⟨v1, by rw [List.getElem?_toArray, List.getElem?_append_left (List.getElem?_eq_some_iff.1 h3).1]; exact h3, allOne_mem hone1 _ (List.mem_of_getElem? h2), h4.mono ex⟩
theorem append_ok {mu : Bool} {x : V} (hx : VR g x cx) (h : appendTo mu e ei.size x y s = some (v, s')) : Done P (Builtin.append_ ⟨t :: ts⟩ ty #[cx, cy]) g s w v s' := by
  unfold appendTo at h
  split at h
  · rename_i new hnew
    cases hlen0 : Nat.beq new.length 0 with
    | true =>
      simp only [hlen0, cond_true] at h
      have hnil : new = [] := List.eq_nil_of_length_eq_zero (nbeq_iff.1 hlen0)
      subst hnil
      have stab : ∀ l : List (List D), DR g.S (.sl false l) cx → Done P (Builtin.append_ ⟨t :: ts⟩ ty #[cx, cy]) g s w x s := by
        intro l hd'
        obtain ⟨A, cap, hcx, hle, _⟩ := hd'.elem
        exact append_none hE hI hti hd hei hn hx hy hnew hcx hle
      split at h
      · simp only [Option.some.injEq, Prod.mk.injEq] at h
        obtain ⟨rfl, rfl⟩ := h
        exact stab _ (els_of_slice hx (.inl ⟨_, rfl⟩))
      · simp only [Option.some.injEq, Prod.mk.injEq] at h
        obtain ⟨rfl, rfl⟩ := h
        exact stab _ (els_of_slice hx (.inr ⟨_, rfl⟩))
      · rename_i o i n hw cut
        cases hlv : liveRow s o hw with
        | false => simp [hlv] at h
        | true =>
          simp only [hlv, cond_true, Option.some.injEq, Prod.mk.injEq] at h
          obtain ⟨rfl, rfl⟩ := h
          have hx0 := hx
          simp only [VR] at hx
          obtain ⟨x1, x2, x3, x5⟩ := hx
          obtain ⟨r, hr, hv⟩ := live_ok hI x1 x2 hlv
          obtain ⟨A, c', hcx, _, hle, _⟩ := (x5 r hr).2 hv
          exact append_none hE hI hti hd hei hn hx0 hy hnew hcx hle
      · cases h
    | false =>
      simp only [hlen0, cond_false] at h
      have hne : 0 < new.length := by
        rcases Nat.eq_zero_or_pos new.length with h0 | h0
        · rw [nbeq_iff.2 h0] at hlen0; cases hlen0
        · exact h0
      cases hc : (firstLen ei.size new && Nat.ble 1 ei.size) with
      | false => simp [hc] at h
      | true =>
        simp only [hc, cond_true] at h
        obtain ⟨hf, hpos⟩ := band_iff.1 hc
        have hpos : 0 < ei.size := ble_iff.1 hpos
        split at h
        · rename_i els
          cases hc2 : (firstLen ei.size els && Nat.ble (els.length + new.length) lenMax) with
          | false => simp [hc2] at h
          | true =>
            simp only [hc2, cond_true] at h
            obtain ⟨hfe, hm⟩ := band_iff.1 hc2
            have hm := ble_iff.1 hm
            have hx0 := hx
            simp only [VR] at hx
            cases hx with
            | sl _ _ A c b off esz val hlen hS hv hA hcc hcut =>
              refine append_new hE hI hti hd hei hn hb hx0 hy hnew hf hpos (rows := els.map ds) (A := A) (c := c) (by simp) rfl ?_ (by rw [hcut rfl]; simp; omega) (by simpa using hm) h
              cases els with
              | nil => rfl
              | cons r rs => simpa [firstLen, ds] using hfe
        · rename_i o els
          split at h
          · rename_i n e' q nd hg hnd
            cases hc2 : (Nat.beq n els.length && Nat.beq e' ei.size && firstLen ei.size els && Nat.ble (els.length + new.length) lenMax && Nat.beq q e) with
            | false => simp [hc2] at h
            | true =>
              simp only [hc2, cond_true, Option.some.injEq, Prod.mk.injEq] at h
              obtain ⟨rfl, rfl⟩ := h
              simp only [Bool.and_eq_true] at hc2
              obtain ⟨⟨⟨⟨h1, h2⟩, h3⟩, h4⟩, h5⟩ := hc2
              have h1 := nbeq_iff.1 h1
              have h2 := nbeq_iff.1 h2
              have h5 := nbeq_iff.1 h5
              subst h1; subst h2; subst h5
              exact append_os hE hI hti hd hei hn hb hy hx hnew hf hpos hg hnd h3 hne (ble_iff.1 h4)
          · cases h
        · rename_i o i n hw cut
          split at h
          · rename_i els opn hg
            cases hc2 : (Nat.beq els.length hw && Nat.ble (i + n) hw && firstLen ei.size els && Nat.ble (hw + new.length) lenMax) with
            | false => simp [hc2] at h
            | true =>
              simp only [hc2, cond_true] at h
              simp only [Bool.and_eq_true] at hc2
              obtain ⟨⟨⟨h1, h2⟩, h3⟩, h4⟩ := hc2
              exact append_ms hE hI hti hd hei hn hb hy hx hnew hf hpos hg (nbeq_iff.1 h1) (ble_iff.1 h2) h3 hne (ble_iff.1 h4) h
          · cases h
        · cases h
  · cases h
end
end Go.Ev
/- Building, converting. -/
namespace Go.Ev
/-! parts -/
def PR (g : G) : List (Nat × V) → List (Nat × Value) → Prop
  | [], [] => True
  | (i, x) :: r, (j, v) :: q => i = j ∧ VR g x v ∧ PR g r q
  | _, _ => False
theorem foldl_put (off : Nat) : ∀ (l : List Value) (k : Nat) (cs : Array Value), off + k + l.length ≤ cs.size → (l.zipIdx k).foldl (fun cs x => cs.setIfInBounds (off + x.2) x.1) cs = putCells cs (off + k) l
  | [], k, cs, _ => by simp [putCells_nil]
  | v :: l, k, cs, h => by
    have h' : off + k + (l.length + 1) ≤ cs.size := by simpa using h
    simp only [List.zipIdx_cons, List.foldl_cons]
    rw [foldl_put off l (k + 1) _ (by simp; omega), ← putCells_cons h]
    rfl
theorem fold_put (off : Nat) (v : Array Value) (cs : Array Value) (h : off + v.size ≤ cs.size) : v.zipIdx.foldl (fun cs (x : Value × Nat) => match x with | (c, j) => cs.setIfInBounds (off + j) c) cs = putCells cs off v.toList := by
  have := foldl_put off v.toList 0 cs (by simpa using h)
  simp only [Nat.add_zero] at this
  rw [← this, ← Array.foldl_toList, Array.toList_zipIdx]
theorem VRL.splice {g : G} {cells xs : List V} {c : Array Value} {vs : List Value} (hc : VRL g cells c.toList) (hx : VRL g xs vs) (j : Nat) : VRL g (Ev.splice cells j xs) (putCells c j vs).toList := by
  simp only [Ev.splice, putCells]
  rw [hx.length]
  exact ((hc.take j).append hx).append (hc.drop _)
theorem fillV_ok {g : G} {place : Nat → Option (Nat × Nat)} : ∀ {parts : List (Nat × V)} {cparts : List (Nat × Value)} {cells cells' : List V} {c : Array Value}, PR g parts cparts → VRL g cells c.toList → fillV place cells parts = some cells' →
    ∃ c', Instr.fill place c cparts = some c' ∧ VRL g cells' c'.toList ∧ c'.size = c.size
  | [], [], cells, cells', c, _, hc, h => by simp only [fillV, Option.some.injEq] at h; subst h; exact ⟨c, rfl, hc, rfl⟩
  | (i, x) :: r, (j, v) :: q, cells, cells', c, hp, hc, h => by
    simp only [PR] at hp
    obtain ⟨rfl, hv, hp⟩ := hp
    simp only [fillV] at h
    split at h
    · rename_i off size hpl
      cases hcond : (Nat.beq x.cells.length size && allOne x.cells && Nat.ble (off + size) cells.length) with
      | false => simp [hcond] at h
      | true =>
        simp only [hcond, cond_true] at h
        simp only [Bool.and_eq_true] at hcond
        obtain ⟨⟨h1, h2⟩, h3⟩ := hcond
        have h1 := nbeq_iff.1 h1
        have h3 := ble_iff.1 h3
        have hcv := cells_ok hv h2
        have hsz : v.cells.size = size := by have := hcv.length; simp at this; omega
        have hcl : cells.length = c.size := by simpa using hc.length
        obtain ⟨c', h4, h5, h6⟩ := fillV_ok (c := putCells c off v.cells.toList) hp (hc.splice hcv off) h
        have hfit : off + v.cells.toList.length ≤ c.size := by simp; omega
        refine ⟨c', ?_, h5, by rw [h6, putCells_size hfit]⟩
        simp only [Instr.fill, hpl]
        rw [if_neg (by simp; omega), fold_put off v.cells c (by omega)]
        exact h4
    · cases h
  | [], _ :: _, _, _, _, hp, _, _ => by simp [PR] at hp
  | _ :: _, [], _, _, _, hp, _, _ => by simp [PR] at hp

section
variable {P : Program} {E : Env} (hE : EnvOK P E)
include hE
theorem places_run {fs : List Field} {l : List (Nat × Nat)} (h : placesOf E fs = some l) (w : World) : ((⟨fs⟩ : Array Field).mapM fun f => do pure (f.offset, ← sizeOf f.type) : Sem (Array (Nat × Nat))).run P w = .ok ⟨l⟩ w := by
  rw [Array.mapM_eq_mapM_toList]
  have key : ∀ (fs : List Field) (l : List (Nat × Nat)), placesOf E fs = some l → ((fs.mapM fun f => do pure (f.offset, ← sizeOf f.type) : Sem (List (Nat × Nat))).run P w) = .ok l w := by
    intro fs
    induction fs with
    | nil => intro l h; simp [placesOf] at h; subst h; simp
    | cons f fs ih =>
      intro l h
      simp only [placesOf] at h
      split at h
      · rename_i i l' h1 h2
        simp only [Option.some.injEq] at h
        subst h
        simp only [List.mapM_cons, Sem.run_bind, hE.run_size h1, Result.andThen_ok, Sem.run_pure, ih l' h2]
      · cases h
  rw [show (⟨fs⟩ : Array Field).toList = fs from rfl]
  have := key fs l h
  revert this
  generalize (fs.mapM fun f => do pure (f.offset, ← sizeOf f.type) : Sem (List (Nat × Nat))) = m
  intro this
  simp [this]
theorem build_ok {g : G} {w : World} {t : TypeId} {parts : List (Nat × V)} {cparts : List (Nat × Value)} (hp : PR g parts cparts) {v : V} (h : build E t parts = some v) :
    ∃ cv, (Instr.build t ⟨cparts⟩).run P w = .ok cv w ∧ VR g v cv := by
  unfold build at h
  split at h
  · rename_i i hi
    obtain ⟨z, hz, hz2, hz3⟩ := hE.run_zero hi w
    have hz0 : VRL g i.zero z.cells.toList := by rw [hz2]; exact ofVals_ok g _
    split at h
    · rename_i fs hfs
      split at h
      · rename_i l hl
        simp only [Option.map_eq_some_iff] at h
        obtain ⟨cells, h1, rfl⟩ := h
        obtain ⟨c', h2, h3, _⟩ := fillV_ok hp hz0 h1
        have hpl := places_run hE (fs := fs.toList) hl w
        have hu := hE.run_und hi w
        rw [hfs] at hu
        refine ⟨.agg c', ?_, by simp only [VR]; exact ⟨c'.toList, rfl, h3⟩⟩
        have hfun : (fun x => (⟨l⟩ : Array (Nat × Nat))[x]?) = fun (k : Nat) => l[k]? := by funext k; simp
        simp only [Instr.build, Sem.run_bind, hz, Result.andThen_ok, hu, hpl]
        rw [hfun, h2]
        rfl
      · cases h
    · rename_i n e hd
      split at h
      · rename_i ei hei
        simp only [Option.map_eq_some_iff] at h
        obtain ⟨cells, h1, rfl⟩ := h
        obtain ⟨c', h2, h3, _⟩ := fillV_ok hp hz0 h1
        have hu := hE.run_und hi w
        rw [hd] at hu
        refine ⟨.agg c', ?_, by simp only [VR]; exact ⟨c'.toList, rfl, h3⟩⟩
        simp only [Instr.build, Sem.run_bind, hz, Result.andThen_ok, hu, hE.run_size hei]
        rw [h2]
        rfl
      · cases h
    · cases h
  · cases h
end
end Go.Ev
/- New slices; conversions. -/
namespace Go.Ev
theorem newRow_ok {g : G} {s : St} {w w' : World} {size cap : Nat} {rows : List (List V)} {opn : Tg} {cut : Bool} {cvs rest : List Value} {T : TypeId} {fz : Nat × Nat} (hI : Inv g s w) (hq : Quiet w w') (hh : w'.heap = w.heap.push (.cells ⟨cvs ++ rest⟩ T fz))
    (hpos : 0 < size) (hl : ∀ r, r ∈ rows → r.length = size) (h1 : ∀ r, r ∈ rows → allOne r = true) (hc : VRL g rows.flatten cvs) (hz : (cvs ++ rest).length = cap * size) (hty : opn.ty = T) (hopn : opn.opn = false → cap = rows.length) (hcut : cut = true → cap = rows.length)
    (hfz : ∀ k, k < cap * size → ¬ (fz.1 ≤ k ∧ k < fz.2)) : ∃ g', VR g' (.ms s.next 0 rows.length rows.length cut) (.slice (some ⟨w.heap.size, 0, none⟩) rows.length cap) ∧ Step g s w g' (s.push (.row rows opn)) w' := by
  have hfl := flatten_length hl
  have hcl : cvs.length = rows.length * size := by rw [← hc.length, hfl]
  have hcap : rows.length ≤ cap := by
    have : rows.length * size ≤ cap * size := by rw [← hz, List.length_append]; omega
    exact Nat.le_of_mul_le_mul_right this hpos
  let r : ORec := ⟨w.heap.size, cap * size, size, rows.length⟩
  have e : Ext w.heap.size g (g.push r) := .push (Nat.le_refl _)
  refine ⟨_, ?_, hI.push (r := r) hq hh rfl ?_⟩
  · simp only [VR]
    refine ⟨by simp [G.push, hI.N], fun hp => by have := hI.pd _ hp; omega, rfl, fun r' hr' => ?_⟩
    rw [← hI.N, G.push_N] at hr'
    cases hr'
    exact ⟨Nat.le_refl _, fun _ => ⟨_, cap, rfl, fun _ => by simp [r], hcap, hcut, fun _ => by simp [r]⟩⟩
  · refine ⟨rfl, hpos, hl, fun k => hI.S_new (Nat.le_refl _) k, ⟨cvs ++ rest⟩, ⟨T, hty.symm⟩, fz, by rw [hh]; simp [r], by simpa [r] using hz, Nat.mul_le_mul_right _ hcap, fun h => by simp [r, hopn h], ?_, hfz⟩
    intro i row hr j x hx
    have hidx : rows.flatten[i * size + j]? = some x := flatten_get hl hr hx
    obtain ⟨v, h9, h10⟩ := hc.get hidx
    exact ⟨v, by rw [List.getElem?_toArray, List.getElem?_append_left (List.getElem?_eq_some_iff.1 h9).1]; exact h9, allOne_mem (h1 row (List.mem_of_getElem? hr)) x (List.mem_of_getElem? hx), h10.mono e⟩
theorem newSlice_ok {g : G} {s : St} {w w' : World} {mu : Bool} {size : Nat} {rows : List (List V)} {cvs : List Value} {T : TypeId} (hI : Inv g s w) (hq : Quiet w w') (hh : w'.heap = w.heap.push (.cells ⟨cvs⟩ T (0, 0)))
    (hpos : 0 < size) (hl : ∀ r, r ∈ rows → r.length = size) (h1 : ∀ r, r ∈ rows → allOne r = true) (hc : VRL g rows.flatten cvs) :
    ∃ g', VR g' (newSlice mu T rows s).1 (.slice (some ⟨w.heap.size, 0, none⟩) rows.length rows.length) ∧ Step g s w g' (newSlice mu T rows s).2 w' := by
  have hfl := flatten_length hl
  have hcl : cvs.length = rows.length * size := by rw [← hc.length, hfl]
  unfold newSlice
  split
  · rename_i l hm
    cases mu with
    | true => simp at hm
    | false =>
      simp only [cond_false] at hm
      have hlen : rows.length = l.length := (toDss_get hm).1
      have e : Ext w.heap.size g (g.addS w.heap.size ⟨cvs⟩) := .addS (Nat.le_refl _) (hI.S_new (Nat.le_refl _))
      refine ⟨g.addS w.heap.size ⟨cvs⟩, ?_, hI.stable hq hh⟩
      simp only [VR]
      rw [hlen]
      exact .of_block (c := cvs) (fun i r' hr' => by
          obtain ⟨a1, a2⟩ := rows_DR hm hl hc i r' hr'
          exact ⟨a1, fun j x hx => let ⟨v, b1, b2⟩ := a2 j x hx; ⟨v, b1, b2.mono e.S⟩⟩) (fun k _ => by simp [G.addS]) (Nat.le_refl _) (fun _ => rfl)
  · exact newRow_ok (rest := []) (fz := (0, 0)) (T := T) hI hq (by rw [hh]; simp) hpos hl h1 hc (by simpa using hcl) rfl (fun _ => rfl) (fun _ => rfl) (fun k _ => by simp)

theorem set_flatten {size : Nat} : ∀ {rows : List (List V)} {i : Nat} {xs : List V}, (∀ r, r ∈ rows → r.length = size) → i < rows.length → xs.length = size → (rows.set i xs).flatten = splice rows.flatten (i * size) xs
  | [], i, xs, _, hi, _ => by simp at hi
  | r :: rows, 0, xs, hl, _, hx => by
    have hr : r.length = size := hl r (by simp)
    simp [splice, hx, ← hr]
  | r :: rows, i + 1, xs, hl, hi, hx => by
    have hr : r.length = size := hl r (by simp)
    have ih := set_flatten (rows := rows) (i := i) (xs := xs) (fun r' hr' => hl r' (by simp [hr'])) (by simpa using hi) hx
    simp only [List.set_cons_succ, List.flatten_cons, ih, splice]
    have h1 : (i + 1) * size = r.length + i * size := by rw [Nat.succ_mul, hr]; omega
    rw [h1, List.take_length_add_append, Nat.add_assoc, List.drop_length_add_append]
    simp [List.append_assoc]
theorem fillRows_ok {g : G} {size : Nat} : ∀ {parts : List (Nat × V)} {cparts : List (Nat × Value)} {rows rows' : List (List V)} {c : Array Value}, PR g parts cparts → (∀ r, r ∈ rows → r.length = size) → (∀ r, r ∈ rows → allOne r = true) → VRL g rows.flatten c.toList → fillRows size rows parts = some rows' →
    ∃ c', Instr.fill (fun i => some (i * size, size)) c cparts = some c' ∧ VRL g rows'.flatten c'.toList ∧ rows'.length = rows.length ∧ (∀ r, r ∈ rows' → r.length = size) ∧ (∀ r, r ∈ rows' → allOne r = true)
  | [], [], rows, rows', c, _, hl, h1, hc, h => by simp only [fillRows, Option.some.injEq] at h; subst h; exact ⟨c, rfl, hc, rfl, hl, h1⟩
  | (i, x) :: r, (j, v) :: q, rows, rows', c, hp, hl, hone, hc, h => by
    simp only [PR] at hp
    obtain ⟨rfl, hv, hp⟩ := hp
    simp only [fillRows] at h
    cases hcond : (Nat.beq x.cells.length size && allOne x.cells && Nat.blt i rows.length) with
    | false => simp [hcond] at h
    | true =>
      simp only [hcond, cond_true] at h
      simp only [Bool.and_eq_true] at hcond
      obtain ⟨⟨h1, h2⟩, h3⟩ := hcond
      have h1 := nbeq_iff.1 h1
      have h3 := blt_iff.1 h3
      have hcv := cells_ok hv h2
      have hsz : v.cells.size = size := by have := hcv.length; simp at this; omega
      have hcl : c.size = rows.length * size := by have := hc.length; rw [flatten_length hl] at this; simpa using this.symm
      have hfit : i * size + size ≤ c.size := by have := row_end (n := size) (show i + 1 ≤ rows.length from h3); rw [Nat.succ_mul] at this; omega
      have hmem : ∀ r', r' ∈ rows.set i x.cells → r' ∈ rows ∨ r' = x.cells := fun r' hr' => List.mem_or_eq_of_mem_set hr'
      obtain ⟨c', h4, h5, h6, h7, h8⟩ := fillRows_ok (rows := rows.set i x.cells) (c := putCells c (i * size) v.cells.toList) hp (fun r' hr' => by
        rcases hmem r' hr' with h | rfl
        · exact hl r' h
        · exact h1) (fun r' hr' => by
        rcases hmem r' hr' with h | rfl
        · exact hone r' h
        · exact h2) (by rw [set_flatten hl h3 h1]; exact hc.splice hcv _) h
      refine ⟨c', ?_, h5, by rw [h6]; simp, h7, h8⟩
      simp only [Instr.fill]
      rw [if_neg (by simp; omega), fold_put _ v.cells c (by omega)]
      exact h4
  | [], _ :: _, _, _, _, hp, _, _, _, _ => by simp [PR] at hp
  | _ :: _, [], _, _, _, hp, _, _, _, _ => by simp [PR] at hp
theorem repl_rows {g : G} {zero : List V} {z : Array Value} {size : Nat} (hz : VRL g zero z.toList) (hs : zero.length = size) (hpos : 0 < size) (len : Nat) : VRL g (List.replicate len zero).flatten ((Array.range (len * size)).map (z[· % z.size]!)).toList := by
  have hzs : z.size = size := by have := hz.length; simp at this; omega
  have hl : ∀ r, r ∈ List.replicate len zero → r.length = size := fun r hr => by rw [(List.mem_replicate.1 hr).2]; exact hs
  refine VRL.of_get (by rw [flatten_length hl]; simp) (fun k x v hx hv => ?_)
  simp only [Array.toList_map, Array.toList_range, List.getElem?_map, Option.map_eq_some_iff] at hv
  obtain ⟨k', h1, rfl⟩ := hv
  have hk : k < len * size := by have := (List.getElem?_eq_some_iff.1 h1).1; simpa using this
  have h1' : k' = k := by rw [List.getElem?_range hk] at h1; cases h1; rfl
  subst h1'
  have hq : k' / size < len := Nat.div_lt_of_lt_mul (by rw [Nat.mul_comm]; exact hk)
  have hj : k' % size < size := Nat.mod_lt _ hpos
  have hj2 : zero[k' % size]? = some (zero[k' % size]'(by omega)) := List.getElem?_eq_getElem (by omega)
  have hf := flatten_get hl (i := k' / size) (j := k' % size) (xs := zero) (by rw [List.getElem?_replicate, if_pos hq]) hj2
  rw [Nat.div_add_mod'] at hf
  rw [hf] at hx
  cases hx
  obtain ⟨v, h2, h3⟩ := hz.get hj2
  rw [hzs, getElem!_def]
  have h2' : z[k' % size]? = some v := by simpa using h2
  rw [h2']; exact h3
section
variable {P : Program} {E : Env} (hE : EnvOK P E) {g : G} {s s' : St} {w : World} (hI : Inv g s w)
include hE hI
theorem buildSlice_ok {mu : Bool} {t : TypeId} {len : Nat} {parts : List (Nat × V)} {cparts : List (Nat × Value)} (hp : PR g parts cparts) {v : V} (h : buildSlice E mu t len parts s = some (v, s')) : Done P (Instr.buildSlice t len ⟨cparts⟩) g s w v s' := by
  unfold buildSlice at h
  split at h
  · rename_i i hi
    split at h
    · rename_i e hd
      split at h
      · rename_i ei hei
        cases hc : (Nat.ble 1 ei.size && Nat.ble (len * ei.size) 16777216 && Nat.beq ei.zero.length ei.size && allOne ei.zero) with
        | false => simp [hc] at h
        | true =>
          simp only [hc, cond_true] at h
          simp only [Bool.and_eq_true] at hc
          obtain ⟨⟨⟨c1, c2⟩, c3⟩, c4⟩ := hc
          have c1 := ble_iff.1 c1
          have c2 := ble_iff.1 c2
          have c3 := nbeq_iff.1 c3
          split at h
          · rename_i rows hrows
            simp only [Option.some.injEq] at h
            obtain ⟨z, hz, hz2, hz3⟩ := hE.run_zero hei w
            have hz0 : VRL g ei.zero z.cells.toList := by rw [hz2]; exact ofVals_ok g _
            obtain ⟨c', h1, h2, h3, h4, h5⟩ := fillRows_ok hp (fun r hr => by rw [(List.mem_replicate.1 hr).2]; exact c3) (fun r hr => by rw [(List.mem_replicate.1 hr).2]; exact c4) (repl_rows hz0 c3 c1 len) hrows
            have hlen : rows.length = len := by rw [h3]; simp
            obtain ⟨g', h6, h7⟩ := newSlice_ok (mu := mu) (w' := w.alloc (.cells c' e)) (T := e) (cvs := c'.toList) hI (.alloc _ _) rfl c1 h4 h5 h2
            rw [h] at h6 h7
            rw [hlen] at h6
            refine ⟨g', _, w.alloc (.cells c' e), ?_, h6, h7⟩
            have hu := hE.run_und hi w
            rw [hd] at hu
            by_cases h0 : len * ei.size = 0
            · have hl0 : len = 0 := by rcases Nat.mul_eq_zero.1 h0 with h | h <;> omega
              subst hl0
              simp only [Nat.zero_mul] at h1
              have h1' : Instr.fill (fun i => some (i * ei.size, ei.size)) #[] cparts = some c' := by rw [← h1, show Array.range 0 = #[] from rfl]; simp
              have hr0 : Array.range 0 = #[] := rfl
              simp [Instr.buildSlice, hu, hE.run_size hei, hr0, h1', newRow]
            · have h24 : ¬ (16777216 < len * ei.size) := by omega
              have h0' : ¬ (len = 0 ∨ ei.size = 0) := fun h => h0 (Nat.mul_eq_zero.2 h)
              simp only [Instr.buildSlice, hu, hE.run_size hei, h0, h24, hz, Sem.run_bind, Result.andThen_ok, Nat.reducePow, gt_iff_lt, if_false, Sem.run_pure, h1]
              simp [newRow]
          · cases h
      · cases h
    · cases h
  · cases h
end
end Go.Ev
/- Conversions, make, copy, len, min, max. -/
namespace Go.Ev
theorem bytesOfV_vals : ∀ {xs : List V} {l : List UInt8}, bytesOfV xs = some l → ∃ ns : List Int, xs = ns.map (fun n => V.d (.int .u8 n)) ∧ l = ns.map fun n => UInt8.ofNat n.toNat
  | [], l, h => by simp [bytesOfV] at h; subst h; exact ⟨[], rfl, rfl⟩
  | x :: xs, l, h => by
    unfold bytesOfV at h
    split at h
    · rename_i heq; cases heq
    · rename_i n r heq
      cases heq
      split at h
      · rename_i l' hl
        simp only [Option.some.injEq] at h
        subst h
        obtain ⟨ns, h1, h2⟩ := bytesOfV_vals hl
        exact ⟨n :: ns, by rw [h1]; rfl, by rw [h2]; rfl⟩
      · cases h
    · cases h
theorem bytes_fold (ns : List Int) : ∀ (r : List UInt8), ns.foldl (fun (r : ByteArray) n => r.push (UInt8.ofNat n.toNat)) ⟨⟨r⟩⟩ = ⟨⟨r ++ ns.map fun n => UInt8.ofNat n.toNat⟩⟩ := by
  induction ns with
  | nil => intro r; simp
  | cons n ns ih =>
    intro r
    simp only [List.foldl_cons, List.map_cons]
    rw [show (⟨⟨r⟩⟩ : ByteArray).push (UInt8.ofNat n.toNat) = ⟨⟨r ++ [UInt8.ofNat n.toNat]⟩⟩ by simp [ByteArray.push], ih]
    simp
theorem run_bytes_of_string' {P : Program} {w : World} {src dst e : TypeId} {a : TypeDesc} {l : List UInt8} (hs : (underlying src).run P w = .ok a w) (hd : (underlying dst).run P w = .ok (.slice e) w) (he : P.underlying e = some (.int .u8)) :
    (Go.convert src dst (.string ⟨⟨l⟩⟩)).run P w = .ok (.slice (some ⟨w.heap.size, 0, none⟩) l.length (grownCap w l.length 0 e))
      (w.drew.alloc (.cells (bytesRow ⟨⟨l⟩⟩ (grownCap w l.length 0 e)) e ((bytesRow ⟨⟨l⟩⟩ (grownCap w l.length 0 e)).size, (bytesRow ⟨⟨l⟩⟩ (grownCap w l.length 0 e)).size + 1))) := by
  have hsh : ∀ (C : Array Value), (w.drew.alloc (.cells C e)).shape? w.heap.size = some (e, C.size) := fun C => by
    have : (w.drew.alloc (.cells C e)).heap[w.heap.size]? = some (.cells C e) := heap_alloc_new w.drew _
    unfold World.shape?
    rw [this]
  have hfr : ∀ (C : Array Value) (n : Nat), (w.drew.alloc (.cells C e)).freeze ⟨w.heap.size, n, none⟩ 1 = w.drew.alloc (.cells C e (n, n + 1)) := fun C n => by
    have hm : ∀ (a : Array Go.Obj) (x : Go.Obj) (f : Go.Obj → Go.Obj), (a.push x).modify a.size f = a.push (f x) := by
      intro a x f
      apply Array.ext
      · simp
      · intro i h1 h2
        simp only [Array.getElem_modify, Array.getElem_push]
        by_cases h : a.size = i
        · subst h
          simp
        · have hi : i < a.size := by simp at h1; omega
          simp [h, hi]
    unfold World.freeze
    rw [if_neg (by decide)]
    show ({ w.drew.alloc (.cells C e) with heap := (w.heap.push (.cells C e)).modify w.heap.size _ } : World) = _
    rw [hm]
    rfl
  have hl : (⟨⟨l⟩⟩ : ByteArray).size = l.length := rfl
  have hconv : (Go.convert src dst (.string ⟨⟨l⟩⟩)).run P w = (Conv.stringToBytes e ⟨⟨l⟩⟩).run P w := by
    cases a <;> simp [Go.convert, hs, hd, run_underlying he]
  rw [hconv]
  simp [Conv.stringToBytes, Question.forced, newRow, markStringish, hsh, grownCap, bytesRow, hl]
  exact hfr _ _
section
variable {P : Program} {E : Env} (hE : EnvOK P E)
include hE
theorem isU8_und {e : TypeId} (h : isU8 E e = true) : P.underlying e = some (.int .u8) := by
  unfold isU8 at h
  split at h
  · rename_i i hi
    split at h
    · rename_i hd; rw [← hd]; exact hE.und hi
    · cases h
  · cases h
variable {g : G} {s s' : St} {w : World} (hI : Inv g s w)
include hI
theorem convert_ok {src dst : TypeId} {x : V} {cx : Value} (hx : VR g x cx) {v : V} (h : convert E src dst x s = some (v, s')) : Done P (Go.convert src dst cx) g s w v s' := by
  unfold convert at h
  split at h
  · rename_i a b ha hb
    have ua := hE.run_und ha w
    have ub := hE.run_und hb w
    split at h
    · rename_i k k0 n hd
      simp only [Option.some.injEq, Prod.mk.injEq] at h
      obtain ⟨rfl, rfl⟩ := h
      simp only [VR] at hx; cases hx
      rw [hd] at ub
      exact ⟨g, .int k (k.wrap n), w, by simp [Go.convert, ua, ub, Conv.intToInt], by simp only [VR]; exact .int _ _, .refl hI⟩
    · rename_i l hd
      simp only [Option.some.injEq, Prod.mk.injEq] at h
      obtain ⟨rfl, rfl⟩ := h
      have hx0 := hx
      simp only [VR] at hx; cases hx
      rw [hd] at ub
      exact ⟨g, _, w, by simp [Go.convert, ua, ub], hx0, .refl hI⟩
    · rename_i hd _
      split at h
      · rename_i e hde
        cases hu : isU8 E e with
        | false => simp [hu] at h
        | true =>
          simp only [hu, cond_true] at h
          split at h
          · rename_i els hels
            split at h
            · rename_i l hl
              simp only [Option.some.injEq, Prod.mk.injEq] at h
              obtain ⟨rfl, rfl⟩ := h
              rw [hd] at ub
              rw [hde] at ua
              obtain ⟨A, cap, rfl, hA⟩ := elsOf_ok hI hx hels
              obtain ⟨ns, hn1, hn2⟩ := bytesOfV_vals hl
              have hconv : (Go.convert src dst (.slice A els.length cap)).run P w = (Conv.bytesToString (.slice A els.length cap)).run P w := by
                simp [Go.convert, ua, ub, run_underlying (isU8_und hE hu)]
              refine ⟨g, .string ⟨⟨l⟩⟩, w, ?_, by simp only [VR]; exact .str l, .refl hI⟩
              rw [hconv]
              have hlen : ns.length = els.length := by have := congrArg List.length hn1; simpa using this.symm
              rcases hA with rfl | ⟨b', off, esz, rfl, h1, h2, h3⟩
              · have : ns = [] := List.eq_nil_of_length_eq_zero (by simpa using hlen)
                subst this
                simp only [List.map_nil] at hn2
                subst hn2
                cases A with
                | none => simp [Conv.bytesToString]; rfl
                | some a => simp [Conv.bytesToString, loadCells, loadCellsFrom]; rfl
              · have hrow : ∀ (i : Nat) (n : Int), ns[i]? = some n → els[i]? = some [V.d (.int .u8 n)] := fun i n hi => by
                  have h4 := congrArg (·[i]?) hn1
                  simp only [List.getElem?_map, hi, Option.map_some] at h4
                  rw [Option.map_eq_some_iff] at h4
                  obtain ⟨r, h5, h6⟩ := h4
                  rw [h5]
                  unfold theOne at h6
                  split at h6
                  · rw [h6]
                  · cases h6
                have hcl : (loadCells ⟨b', off, none⟩ els.length).run P w = .ok (ns.map (Value.int .u8)).toArray w := by
                  have := run_loadCells_list (P := P) w ⟨b', off, none⟩ (ns.map (Value.int .u8)) (fun j v hj => by
                    rw [addr_add]
                    simp only [List.getElem?_map, Option.map_eq_some_iff] at hj
                    obtain ⟨n, hj, rfl⟩ := hj
                    have hr := hrow j n hj
                    have hesz : esz = 1 := by rw [← h1 _ (List.mem_of_getElem? hr)]; rfl
                    obtain ⟨v, h4, h5⟩ := h2 j _ hr 0 _ rfl
                    simp only [VR] at h5; cases h5
                    rw [hesz] at h4; simpa using h4)
                  simpa [hlen] using this
                rw [run_bytesToString w _ _ cap ns hcl, show ByteArray.empty = ⟨⟨[]⟩⟩ from rfl, bytes_fold, hn2]
                rfl
            · cases h
          · cases h
      · cases h
    · rename_i e l hd
      cases hu : isU8 E e with
      | false => simp [hu] at h
      | true =>
        simp only [hu, cond_true, Option.some.injEq, Prod.mk.injEq] at h
        obtain ⟨rfl, rfl⟩ := h
        simp only [VR] at hx; cases hx
        rw [hd] at ub
        let bs : ByteArray := ⟨⟨l⟩⟩
        have hsz : bs.size = l.length := rfl
        have hcg := grownCap_ge w l.length 0 e
        let rows := (ofBytes l).map ds
        have hrl : rows.length = l.length := by simp [rows, ofBytes]
        have hrow1 : ∀ r, r ∈ rows → ∃ b : UInt8, r = [V.d (.int .u8 b.toNat)] := fun r hr => by
          simp only [rows, ofBytes, List.map_map, List.mem_map] at hr
          obtain ⟨b, _, rfl⟩ := hr
          exact ⟨b, rfl⟩
        have hflat : rows.flatten = l.map fun b => V.d (.int .u8 b.toNat) := by
          simp only [rows, ofBytes, List.map_map]
          generalize l = l
          induction l with
          | nil => rfl
          | cons b l ih => simp [ih, ds]
        have hcells : bytesRow bs (grownCap w l.length 0 e) = ⟨l.map (fun b => Value.int .u8 b.toNat) ++ List.replicate (grownCap w l.length 0 e - l.length) (.int .u8 0)⟩ := by
          apply Array.ext'; simp [bytesRow, bs, ByteArray.size]
        obtain ⟨g', h1, h2⟩ := newRow_ok (g := g) (s := s) (w := w) (w' := w.drew.alloc (.cells (bytesRow bs (grownCap w l.length 0 e)) e ((bytesRow bs (grownCap w l.length 0 e)).size, (bytesRow bs (grownCap w l.length 0 e)).size + 1))) (size := 1) (cap := grownCap w l.length 0 e) (rows := rows) (opn := ⟨e, true⟩) (cut := false)
          (cvs := l.map fun b => Value.int .u8 b.toNat) (rest := List.replicate (grownCap w l.length 0 e - l.length) (.int .u8 0)) (T := e) (fz := ((bytesRow bs (grownCap w l.length 0 e)).size, (bytesRow bs (grownCap w l.length 0 e)).size + 1)) hI ⟨rfl, rfl, rfl⟩ (by rw [← hcells]; rfl) (by omega)
          (fun r hr => by obtain ⟨b, rfl⟩ := hrow1 r hr; rfl) (fun r hr => by obtain ⟨b, rfl⟩ := hrow1 r hr; rfl)
          (by
            rw [hflat]
            refine VRL.of_get (by simp) (fun i y v hy hv => ?_)
            simp only [List.getElem?_map, Option.map_eq_some_iff] at hy hv
            obtain ⟨b, q1, rfl⟩ := hy
            obtain ⟨b', q2, rfl⟩ := hv
            rw [q1] at q2; cases q2
            simp only [VR]; exact .int _ _)
          (by simp; omega) rfl (by simp) (by simp) (fun k hk => by rw [hcells]; simp; omega)
        rw [hrl] at h1
        exact ⟨g', _, _, run_bytes_of_string' ua ub (isU8_und hE hu), h1, h2⟩
    · cases h
  · cases h
end
end Go.Ev
/- make, copy, len, min, max. -/
namespace Go.Ev
theorem int?_ok {g : G} {x : V} {v : Value} {n : Int} (hx : VR g x v) (h : x.int? = some n) : ∃ k, v = .int k n := by
  unfold V.int? at h
  split at h
  · rename_i k m
    simp only [Option.some.injEq] at h; subst h
    simp only [VR] at hx; cases hx
    exact ⟨k, rfl⟩
  · cases h
theorem wrap64 {n : Int} (h0 : 0 ≤ n) (h1 : n ≤ 4294967296) : IntKind.i64.wrap n = n := by
  have h64 : (2 : Int) ^ IntKind.i64.bits = 18446744073709551616 := by decide
  have h63 : (2 : Int) ^ (IntKind.i64.bits - 1) = 9223372036854775808 := by decide
  unfold IntKind.wrap
  simp only [h64, h63]
  have hm : n % 18446744073709551616 = n := Int.emod_eq_of_lt h0 (by omega)
  rw [hm]
  have : ¬ (n ≥ 9223372036854775808) := by omega
  simp [this]
section
variable {P : Program} {E : Env} (hE : EnvOK P E) {g : G} {s s' : St} {w : World} (hI : Inv g s w)
include hE hI
theorem makeSlice_ok {t : TypeId} {len cap v : V} {clen ccap : Value} (hl : VR g len clen) (hc : VR g cap ccap) (h : makeSlice E t len cap s = some (v, s')) : Done P (Instr.makeSlice t clen ccap) g s w v s' := by
  unfold makeSlice at h
  split at h
  · rename_i ti l c hti hll hcc
    obtain ⟨kl, rfl⟩ := int?_ok hl hll
    obtain ⟨kc, rfl⟩ := int?_ok hc hcc
    split at h
    · rename_i e hd
      split at h
      · rename_i ei hei
        split at h
        · rename_i hcond
          obtain ⟨b0, b1, b2⟩ := hcond
          have b2' : c ≤ 4294967296 := b2
          cases hq : (Nat.ble 1 ei.size && Nat.ble ei.bytes 4096 && Nat.beq ei.zero.length ei.size && allOne ei.zero) with
          | false => simp [hq] at h
          | true =>
            simp only [hq, cond_true] at h
            simp only [Bool.and_eq_true] at hq
            obtain ⟨⟨⟨c1, c2⟩, c3⟩, c4⟩ := hq
            have c1 := ble_iff.1 c1
            have c2 := ble_iff.1 c2
            have c3 := nbeq_iff.1 c3
            obtain ⟨z, hz, hz2, hz3⟩ := hE.run_zero hei w
            have hz0 : VRL g ei.zero z.cells.toList := by rw [hz2]; exact ofVals_ok g _
            have hu := hE.run_und hti w
            rw [hd] at hu
            obtain ⟨pi, hpi, hps, hpb⟩ := hE.run_info hei w
            let cells : Array Value := (Array.range (c.toNat * ei.size)).map (z.cells[· % z.cells.size]!)
            have hrun : (Instr.makeSlice t (.int kl l) (.int kc c)).run P w = .ok (.slice (some ⟨w.heap.size, 0, none⟩) l.toNat c.toNat) (w.alloc (.cells cells e)) := by
              have hwl := wrap64 b0 (by omega)
              have hwc := wrap64 (show 0 ≤ c by omega) b2'
              have hbig : ¬ (281474976710656 < (pi.bytes : Int) * c) := by
                have h1 : (pi.bytes : Int) * c ≤ 4096 * 4294967296 := Int.mul_le_mul (by omega) b2' (by omega) (by omega)
                omega
              have hc0 : ¬ (c < 0) := by omega
              have hl0 : ¬ (l < 0) := by omega
              have hlc : ¬ (c < l) := by omega
              have hask : ∀ (n : Nat) w, (askRoom n).run P w = .ok () w := fun n w => by unfold askRoom; split <;> simp [mark, Sem.run]
              by_cases h0 : c.toNat * ei.size = 0
              · have hr : cells = #[] := by simp only [cells, h0, show Array.range 0 = #[] from rfl]; simp
                have hr0 : Array.range 0 = #[] := rfl
                simp [Instr.makeSlice, hu, asInt, asIntOf, hpi, hwl, hwc, hbig, hc0, hl0, hlc, hask, hE.run_size hei, h0, newRow, hr, hr0]
              · have h0' : ¬ (c.toNat * ei.size = 0) := h0
                have h0'' : ¬ (c.toNat = 0 ∨ ei.size = 0) := fun h => h0 (Nat.mul_eq_zero.2 h)
                simp only [Instr.makeSlice, hu, asInt, asIntOf, hpi, hwl, hwc, Sem.run_bind, Result.andThen_ok, Sem.run_pure, Int.reducePow]
                simp [hbig, hc0, hl0, hlc, hask, hE.run_size hei, hz, newRow, cells]
                exact fun h => absurd h h0
            split at h
            · rename_i hlc
              simp only [Option.some.injEq, Prod.mk.injEq] at h
              obtain ⟨rfl, rfl⟩ := h
              subst hlc
              obtain ⟨g', h6, h7⟩ := newSlice_ok (mu := true) (size := ei.size) (w' := w.alloc (.cells cells e)) (T := e) (rows := List.replicate l.toNat ei.zero) (cvs := cells.toList) hI (.alloc _ _) rfl c1 (fun r hr => by rw [(List.mem_replicate.1 hr).2]; exact c3) (fun r hr => by rw [(List.mem_replicate.1 hr).2]; exact c4) (repl_rows hz0 c3 c1 l.toNat)
              simp only [newSlice, cond_true, List.length_replicate] at h6 h7
              exact ⟨g', _, _, hrun, h6, h7⟩
            · rename_i hlc
              split at h
              · rename_i hl0
                simp only [Option.some.injEq, Prod.mk.injEq] at h
                obtain ⟨rfl, rfl⟩ := h
                subst hl0
                let r : ORec := ⟨w.heap.size, c.toNat * ei.size, ei.size, 0⟩
                refine ⟨_, _, _, hrun, ?_, hI.pushS (r := r) (n := 0) (c := cells) (T := e) (fz := (0, 0)) (.alloc _ _) rfl rfl ?_⟩
                · simp only [VR]
                  refine ⟨by simp [G.pushS, hI.N], fun hp => by have := hI.pd _ hp; omega, rfl, ?_, fun r' hr' => ?_⟩
                  · exact .sl false [] _ c.toNat 0 0 0 (fun _ _ => undef) (by simp) (by simp) (by simp) (by simp) (by simp) (by simp)
                  · rw [← hI.N] at hr'
                    simp only [G.pushS, if_true] at hr'
                    cases hr'
                    exact ⟨Nat.le_refl _, fun _ => ⟨c.toNat, rfl, rfl⟩⟩
                · refine ⟨rfl, c1, rfl, fun k _ => ?_, cells, ⟨e, rfl⟩, (0, 0), heap_alloc_new w _, by simp [cells, r], by simp, fun k _ _ => by simp, .inl rfl⟩
                  simp only [G.pushS]
                  rw [if_pos trivial, if_neg (by omega)]
              · cases h
        · cases h
      · cases h
    · cases h
  · cases h
omit hE
/-- The first of a slice's elements, as copy reads them. -/
theorem firstCells_take {y : V} {cy : Value} {els : List (List V)} {size n : Nat} (hy : VR g y cy) (h : elsOrBytes s y = some els) (hn : n ≤ els.length) (hs : firstLen size (els.take n) = true) :
    ∃ cvs : List Value, (Builtin.firstCells size n cy).run P w = .ok ⟨cvs⟩ w ∧ VRL g (els.take n).flatten cvs ∧ allOne (els.take n).flatten = true ∧ (∀ r, r ∈ els.take n → r.length = size) ∧ (Builtin.lenOf cy).run P w = .ok els.length w ∧ cvs.length = n * size := by
  by_cases h0 : n = 0
  · subst h0
    have hlen : (Builtin.lenOf cy).run P w = .ok els.length w := by
      unfold elsOrBytes at h
      split at h
      · rename_i l
        simp at h
        simp only [VR] at hy; cases hy
        have : els.length = l.length := by rw [← h]; simp [ofBytes]
        rw [this]; rfl
      · obtain ⟨A, cap, rfl, _⟩ := elsOf_ok hI hy h
        rfl
    refine ⟨[], ?_, by simp [VRL], rfl, by simp, hlen, by simp⟩
    unfold elsOrBytes at h
    split at h
    · simp only [VR] at hy; cases hy
      simp [Builtin.firstCells]
    · obtain ⟨A, cap, rfl, _⟩ := elsOf_ok hI hy h
      cases A <;> simp [Builtin.firstCells, loadCells, loadCellsFrom]
  · have hfl : firstLen size els = true := by
      cases els with
      | nil => rfl
      | cons e es =>
        cases n with
        | zero => exact absurd rfl h0
        | succ n => simpa [firstLen] using hs
    unfold elsOrBytes at h
    split at h
    · rename_i l
      have hy0 := hy
      simp at h
      simp only [VR] at hy; cases hy
      obtain ⟨cn, k1, k2, k3, k4, k5, k6⟩ := firstCells_ok (P := P) hI (x := .d (.str (l.take n))) (cx := .string ⟨⟨l.take n⟩⟩) (els := els.take n) (size := size) (by simp only [VR]; exact .str _) (by rw [← h]; simp [elsOrBytes, ofBytes]) hs
      have hl : els.length = l.length := by rw [← h]; simp [ofBytes]
      have hln : (els.take n).length = n := by simp; omega
      refine ⟨cn, ?_, k2, k3, k4, by rw [hl]; rfl, by rw [k6, hln]⟩
      rw [hln] at k1
      rw [← k1]
      have e1 : (⟨⟨l⟩⟩ : ByteArray).extract 0 n = ⟨⟨l.take n⟩⟩ := by rw [extract_list]; simp
      have e2 : (⟨⟨l.take n⟩⟩ : ByteArray).extract 0 n = ⟨⟨l.take n⟩⟩ := by rw [extract_list]; simp [List.take_take]
      simp only [Builtin.firstCells, e1, e2]
    · obtain ⟨A, cap, rfl, hA⟩ := elsOf_ok hI hy h
      rcases hA with rfl | ⟨b, off, esz, rfl, h1, h2, h3⟩
      · simp at hn; omega
      · have hsz : esz = size := by
          cases els with
          | nil => simp at hn; omega
          | cons e es => rw [← h1 e (by simp)]; exact nbeq_iff.1 hfl
        subst hsz
        have hl' : ∀ r, r ∈ els.take n → r.length = esz := fun r hr => h1 r (List.mem_of_mem_take hr)
        have hc' : ∀ (i : Nat) (r : List V), (els.take n)[i]? = some r → CellsAt g w b (off + i * esz) r := fun i r hr => by
          rw [List.getElem?_take] at hr
          split at hr
          · exact h2 i r hr
          · cases hr
        have hfl := flatten_length hl'
        obtain ⟨cvs, h4, h5⟩ := (ElemsAt.flat hl' hc').list
        have hlen : cvs.length = n * esz := by rw [← h4.length, hfl, List.length_take, Nat.min_eq_left hn]
        refine ⟨cvs, ?_, h4, allOne_flatten (fun r hr => h3 r (List.mem_of_mem_take hr)), hl', rfl, hlen⟩
        have := run_loadCells_list (P := P) w ⟨b, off, none⟩ cvs (fun j v hj => by rw [addr_add]; exact h5 j v hj)
        rw [hlen] at this
        simp [Builtin.firstCells, this]
theorem lenOf_sl {x : V} {cx : Value} {n : Nat} (hx : VR g x cx) (hs : isSl x = true) (h : lenOf s x = some n) : ∃ A c, cx = .slice A n c := by
  cases x with
  | d d =>
    cases d with
    | sl cut els =>
      simp only [lenOf, Option.some.injEq] at h; subst h
      simp only [VR] at hx; cases hx; exact ⟨_, _, rfl⟩
    | _ => simp [isSl] at hs
  | os o els =>
    simp only [lenOf, Option.some.injEq] at h; subst h
    simp only [VR] at hx
    obtain ⟨A, cap, rfl, _⟩ := hx.2.2.2.1.elem
    exact ⟨_, _, rfl⟩
  | ms o i m hw cut =>
    simp only [lenOf] at h
    cases hl : liveRow s o hw with
    | false => simp [hl] at h
    | true =>
      simp only [hl, cond_true, Option.some.injEq] at h; subst h
      simp only [VR] at hx
      obtain ⟨x1, x2, x3, x5⟩ := hx
      obtain ⟨r, hr, hv⟩ := live_ok hI x1 x2 hl
      obtain ⟨A, c', hcx, _⟩ := (x5 r hr).2 hv
      exact ⟨_, _, hcx⟩
  | «as» o hw i j sz m cap =>
    simp only [lenOf] at h
    cases hl : liveRow s o hw with
    | false => simp [hl] at h
    | true =>
      simp only [hl, cond_true, Option.some.injEq] at h; subst h
      simp only [VR] at hx
      obtain ⟨x1, x2, x3, x5⟩ := hx
      obtain ⟨r, hr, hv⟩ := live_ok hI x1 x2 hl
      obtain ⟨A, hcx, _⟩ := (x5 r hr).2 hv
      exact ⟨_, _, hcx⟩
  | _ => simp [isSl] at hs
end
section
variable {P : Program} {E : Env} (hE : EnvOK P E) {g : G} {s s' : St} {w : World} (hI : Inv g s w) {t e : TypeId} {ti ei : TInfo} {ts : List TypeId} {ty : TypeId}
include hE
theorem run_copy (hti : E.ti t = some ti) (hd : ti.desc = .slice e) (hei : E.ti e = some ei) {A : Option Addr} {m dl c : Nat} {cy : Value} {cvs : List Value} {w' : World} (hl : (Builtin.lenOf cy).run P w = .ok m w)
    (hf : (Builtin.firstCells ei.size (min m dl) cy).run P w = .ok ⟨cvs⟩ w) (hst : ∀ a, A = some a → (storeCells a cvs 0).run P w = .ok () w') (h0 : A = none → w' = w) :
    (Builtin.copy_ ⟨t :: ts⟩ ty #[.slice A dl c, cy]).run P w = .ok (.int .i64 (min m dl : Nat)) w' := by
  have hu := hE.run_und hti w
  rw [hd] at hu
  have hf' : (Builtin.firstCells ei.size (m.min dl) cy).run P w = .ok ⟨cvs⟩ w := hf
  have hm : (m.min dl) = min m dl := rfl
  cases A with
  | none => cases h0 rfl; simp [Builtin.copy_, hu, hl, hE.run_size hei, hf', goInt]
  | some a => simp [Builtin.copy_, hu, hl, hE.run_size hei, hf', goInt, hst a rfl]
include hI
theorem copy_ok (hti : E.ti t = some ti) (hd : ti.desc = .slice e) (hei : E.ti e = some ei) {x y v : V} {cx cy : Value} (hx : VR g x cx) (hy : VR g y cy) (h : copyTo ei.size x y s = some (v, s')) : Done P (Builtin.copy_ ⟨t :: ts⟩ ty #[cx, cy]) g s w v s' := by
  unfold copyTo at h
  split at h
  · rename_i src dl hsrc hdl
    simp only at h
    have hn : min src.length dl ≤ src.length := Nat.min_le_left _ _
    cases hn0 : Nat.beq (min src.length dl) 0 with
    | true =>
      simp only [hn0, cond_true] at h
      cases hs : isSl x with
      | false => simp [hs] at h
      | true =>
        simp only [hs, cond_true, Option.some.injEq, Prod.mk.injEq] at h
        obtain ⟨rfl, rfl⟩ := h
        obtain ⟨A, c, rfl⟩ := lenOf_sl hI hx hs hdl
        have hz := nbeq_iff.1 hn0
        obtain ⟨cvs, k1, k2, k3, k4, k5, k6⟩ := firstCells_take (P := P) (size := ei.size) (n := min src.length dl) hI hy hsrc hn (by rw [hz]; rfl)
        have hc0 : cvs = [] := List.eq_nil_of_length_eq_zero (by rw [k6, hz]; simp)
        subst hc0
        refine ⟨g, _, w, run_copy hE hti hd hei k5 k1 (fun a _ => rfl) (fun _ => rfl), ?_, .refl hI⟩
        rw [hz]; simp only [VR]; exact .int _ _
    | false =>
      simp only [hn0, cond_false] at h
      have hnz : 0 < min src.length dl := by
        rcases Nat.eq_zero_or_pos (min src.length dl) with h0 | h0
        · rw [nbeq_iff.2 h0] at hn0; cases hn0
        · exact h0
      cases hc : (firstLen ei.size (src.take (min src.length dl)) && Nat.ble 1 ei.size) with
      | false => simp [hc] at h
      | true =>
        simp only [hc, cond_true] at h
        obtain ⟨hf, hpos⟩ := band_iff.1 hc
        have hpos : 0 < ei.size := ble_iff.1 hpos
        obtain ⟨cvs, k1, k2, k3, k4, k5, k6⟩ := firstCells_take (P := P) (size := ei.size) hI hy hsrc hn hf
        have hln : (src.take (min src.length dl)).length = min src.length dl := by simp
        split at h
        · rename_i o i m hw cut
          split at h
          · rename_i els opn hg
            cases hc2 : (Nat.beq els.length hw && Nat.ble (i + m) hw && firstLen ei.size els) with
            | false => simp [hc2] at h
            | true =>
              simp only [hc2, cond_true, Option.some.injEq, Prod.mk.injEq] at h
              obtain ⟨rfl, rfl⟩ := h
              simp only [Bool.and_eq_true] at hc2
              obtain ⟨⟨d1, d2⟩, d3⟩ := hc2
              have d1 := nbeq_iff.1 d1
              have d2 := ble_iff.1 d2
              have hlv : liveRow s o hw = true := by simp only [liveRow, hg]; exact nbeq_iff.2 d1
              have hdm : dl = m := by simp only [lenOf, hlv, cond_true, Option.some.injEq] at hdl; exact hdl.symm
              subst hdm
              simp only [VR] at hx
              obtain ⟨x1, x2, x3, x5⟩ := hx
              obtain ⟨r, hr, hobj⟩ := row_live hI x1 x2 hg
              obtain ⟨o1, o2, o3, o4, c, T, fz, o5, o6, o7, o8, o9, o10⟩ := id hobj
              obtain ⟨A, c', rfl, hA, hc', _, _⟩ := (x5 r hr).2 (by rw [o1]; exact d1.symm)
              have hA := hA (by omega)
              subst hA
              have hsz : r.esz = ei.size := by
                rcases firstLen_len o3 d3 with rfl | hsz
                · simp at d1; omega
                · exact hsz
              have hb0 : r.b < w.heap.size := (Array.getElem?_eq_some_iff.1 o5).1
              have hcn : cvs.length = (src.take (min src.length dl)).length * r.esz := by rw [k6, hsz, hln]
              have hroom := row_end (n := r.esz) (show i + min src.length dl ≤ els.length by omega)
              have hfit : i * r.esz + cvs.length ≤ c.size := by rw [hcn, hln, ← Nat.add_mul]; omega
              have hrun := run_storeCells_blk P cvs 0 c w (o := i * r.esz) o5 (by simpa using hfit) (fun k hk1 hk2 => o10 k (by omega)) (k2.oneCell k3)
              simp only [Nat.add_zero] at hrun
              have hone : ∀ r, r ∈ src.take (min src.length dl) → allOne r = true := fun r hr => allOne_of (fun z hz => allOne_mem k3 z (List.mem_flatten.2 ⟨r, hr, hz⟩))
              refine ⟨g, _, _, run_copy hE hti hd hei k5 k1 (fun a ha => by cases ha; exact hrun) (fun h => by cases h), by simp only [VR]; exact .int _ _, ?_⟩
              have hov : els.take i ++ src.take (min src.length dl) ++ els.drop (i + min src.length dl) = over els i (src.take (min src.length dl)) := by simp only [over, hln]
              rw [hov]
              have hlen' : (over els i (src.take (min src.length dl))).length = els.length := by simp only [over, List.length_append, List.length_drop, hln, List.length_take]; omega
              refine hI.put (.putObj _ _ _) hr rfl hg (fun k v hv => by rw [o4 k] at hv; cases hv) ?_
              refine ⟨by rw [hlen']; exact o1, o2, fun row hrow => ?_, o4, _, T, fz, World.putObj_heap_same hb0, by rw [putCells_size hfit]; exact o6, by rw [hlen']; exact o7, fun h => by rw [hlen']; exact o8 h, ?_, o10⟩
              · rcases over_mem hrow with h | h
                · exact o3 _ h
                · rw [hsz]; exact k4 _ h
              · exact RowsAt.over (k := i) o2 o9 o3 (fun r' hr' => by rw [hsz]; exact k4 r' hr') (by omega) k2 hone hfit
          · cases h
        · rename_i o hw i j sz m cap
          cases hsz : Nat.beq sz ei.size with
          | false => simp [hsz] at h
          | true =>
            simp only [hsz, cond_true] at h
            have hsz := nbeq_iff.1 hsz
            subst hsz
            split at h
            · rename_i s1 hset
              simp only [Option.some.injEq, Prod.mk.injEq] at h
              obtain ⟨rfl, rfl⟩ := h
              have hx0 := hx
              unfold setRow at hset
              split at hset
              · rename_i els opn hg
                cases hb : Nat.beq els.length hw with
                | false => simp [hb] at hset
                | true =>
                  simp only [hb, cond_true] at hset
                  have hlv : liveRow s o hw = true := by simp only [liveRow, hg]; exact hb
                  have hdm : dl = m := by simp only [lenOf, hlv, cond_true, Option.some.injEq] at hdl; exact hdl.symm
                  subst hdm
                  split at hset
                  · rename_i cells hcl
                    cases hle : Nat.ble (j + min src.length dl * ei.size) cells.length with
                    | false => simp [hle] at hset
                    | true =>
                      simp only [hle, cond_true, Option.some.injEq] at hset
                      subst hset
                      simp only [VR] at hx
                      obtain ⟨x1, x2, x3, x5⟩ := hx
                      obtain ⟨r, hr, hobj⟩ := row_live hI x1 x2 hg
                      obtain ⟨A, rfl, hcap, hA⟩ := (x5 r hr).2 (by rw [hobj.1]; exact (nbeq_iff.1 hb).symm)
                      have hA := hA (by omega)
                      subst hA
                      have hle := ble_iff.1 hle
                      obtain ⟨w', h7, h8⟩ := row_write hI hr hg hobj hcl k2 k3 (by rw [k2.length, k6]; exact hle) P
                      rw [k2.length, k6] at h8
                      exact ⟨g, _, w', run_copy hE hti hd hei k5 k1 (fun a ha => by cases ha; exact h7) (fun h => by cases h), by simp only [VR]; exact .int _ _, h8⟩
                  · cases hset
              · cases hset
            · cases h
        · cases h
  · cases h
end
section
variable {P : Program} {E : Env} (hE : EnvOK P E) {g : G} {s s' : St} {w : World} (hI : Inv g s w) {t : TypeId} {ts : List TypeId} {ty : TypeId}
include hE hI
theorem len_ok {x v : V} {cx : Value} (hx : VR g x cx) (h : builtinLen E t x s = some v) : ∃ cv, (Builtin.len_ ⟨t :: ts⟩ ty #[cx]).run P w = .ok cv w ∧ VR g v cv := by
  unfold builtinLen at h
  split at h
  · rename_i ti hti
    have hu := hE.run_und hti w
    split at h
    · rename_i n e hd
      simp only [Option.some.injEq] at h; subst h
      rw [hd] at hu
      exact ⟨.int .i64 n, by simp [Builtin.len_, hu, goInt], by simp only [VR]; exact .int _ _⟩
    · rename_i a hd
      split at h
      · rename_i ai hai
        split at h
        · rename_i n e hd2
          simp only [Option.some.injEq] at h; subst h
          rw [hd] at hu
          have hu2 := hE.run_und hai w
          rw [hd2] at hu2
          exact ⟨.int .i64 n, by simp [Builtin.len_, hu, hu2, goInt], by simp only [VR]; exact .int _ _⟩
        · cases h
      · cases h
    · rename_i hd
      rw [hd] at hu
      split at h
      · rename_i l
        simp only [Option.some.injEq] at h; subst h
        simp only [VR] at hx; cases hx
        have hl : (⟨⟨l⟩⟩ : ByteArray).size = l.length := rfl
        exact ⟨.int .i64 l.length, by simp [Builtin.len_, hu, goInt, hl], by simp only [VR]; exact .int _ _⟩
      · cases h
    · rename_i e hd
      rw [hd] at hu
      cases hs : isSl x with
      | false => simp [hs] at h
      | true =>
        simp only [hs, cond_true, Option.map_eq_some_iff] at h
        obtain ⟨n, h1, rfl⟩ := h
        obtain ⟨A, c, rfl⟩ := lenOf_sl hI hx hs h1
        exact ⟨.int .i64 n, by simp [Builtin.len_, hu, goInt], by simp only [VR]; exact .int _ _⟩
    · cases h
  · cases h
end
theorem min2_ok {P : Program} {g : G} {x y z : V} {cx cy : Value} (hx : VR g x cx) (hy : VR g y cy) (h : min2 x y = some z) (w : World) : ∃ cz, (Builtin.min2 cx cy).run P w = .ok cz w ∧ VR g z cz := by
  unfold min2 at h
  split at h
  · simp only [Option.some.injEq] at h; subst h
    rename_i k a k' b
    simp only [VR] at hx hy; cases hx; cases hy
    exact ⟨.int k (if b < a then b else a), by simp [Builtin.min2], by simp only [VR]; exact .int _ _⟩
  · cases h
theorem max2_ok {P : Program} {g : G} {x y z : V} {cx cy : Value} (hx : VR g x cx) (hy : VR g y cy) (h : max2 x y = some z) (w : World) : ∃ cz, (Builtin.max2 cx cy).run P w = .ok cz w ∧ VR g z cz := by
  unfold max2 at h
  split at h
  · simp only [Option.some.injEq] at h; subst h
    rename_i k a k' b
    simp only [VR] at hx hy; cases hx; cases hy
    exact ⟨.int k (if a < b then b else a), by simp [Builtin.max2], by simp only [VR]; exact .int _ _⟩
  · cases h
theorem fold2_ok {P : Program} {g : G} {w : World} {f : V → V → Option V} {cf : Value → Value → Sem Value} (hf : ∀ (x y z : V) (cx cy : Value), VR g x cx → VR g y cy → f x y = some z → ∃ cz, (cf cx cy).run P w = .ok cz w ∧ VR g z cz) :
    ∀ {ys : List V} {cys : List Value} {x z : V} {cx : Value}, VR g x cx → VRL g ys cys → fold2 f x ys = some z → ∃ cz, (cys.foldlM cf cx).run P w = .ok cz w ∧ VR g z cz
  | [], [], x, z, cx, hx, _, h => by simp only [fold2, Option.some.injEq] at h; subst h; exact ⟨cx, by simp, hx⟩
  | y :: ys, cy :: cys, x, z, cx, hx, hys, h => by
    simp only [VRL] at hys
    simp only [fold2] at h
    split at h
    · rename_i m hm
      obtain ⟨cm, h1, h2⟩ := hf x y m cx cy hx hys.1 hm
      obtain ⟨cz, h3, h4⟩ := fold2_ok hf h2 hys.2 h
      exact ⟨cz, by simp [h1, h3], h4⟩
    · cases h
  | [], _ :: _, _, _, _, _, h, _ => by simp [VRL] at h
  | _ :: _, [], _, _, _, _, h, _ => by simp [VRL] at h
end Go.Ev
