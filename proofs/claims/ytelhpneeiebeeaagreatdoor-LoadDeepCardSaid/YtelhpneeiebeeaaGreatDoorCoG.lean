/- Part CoG of the kept evaluator and its soundness; what each piece says stands ahead of it. No condition. -/
import Derived.Test.YtelhpneeiebeeaaGreatDoorCoF
import GoSem.ClaimChange
import Derived.WideShapes
import Derived.Carry
import Derived.ChangeSame
import Derived.RowKit
import Derived.OpenShut
import Derived.Below
import Derived.ProofKit
import Derived.Lib.LaidU8
import Derived.Lib.LaidTab
/- From what a row reads to the evaluator's data. -/
namespace Go.Ev
/-- Do fields lie one behind the other, from here to there? -/
def tiles (size : TypeId → Nat) : List Field → Nat → Nat → Bool
  | [], a, n => Nat.beq a n
  | f :: r, a, n => Nat.beq f.offset a && tiles size r (a + size f.type) n
def sizeT (ti : TypeId → Option TInfo) (t : TypeId) : Nat := match ti t with | some i => i.size | none => 0
/-- Types of plain data: bools, integers, strings, slices and structs of such. -/
def plainT (ti : TypeId → Option TInfo) : Nat → TypeId → Bool
  | 0, _ => false
  | n + 1, t => match ti t with
    | some i => (match i.desc with
      | .bool | .int _ | .string => true
      | .slice e => plainT ti n e && Nat.ble 1 (sizeT ti e)
      | .struct fs => tiles (sizeT ti) fs.toList 0 i.size && fs.toList.all fun f => plainT ti n f.type
      | _ => false)
    | none => false
/-- Data as a type has them. -/
def fits (ti : TypeId → Option TInfo) : Nat → TypeId → List D → Bool
  | 0, _, _ => false
  | n + 1, t, xs => match ti t with
    | some i => (match i.desc with
      | .bool => (match xs with | [.bool _] => true | _ => false)
      | .int k => (match xs with | [.int k' m] => decide (k' = k) && (Lit.int k m).wf | _ => false)
      | .string => (match xs with | [.str l] => decide (l.length ≤ maxLen) | _ => false)
      | .slice e => (match xs with | [.sl false els] => decide (els.length ≤ maxLen) && els.all (fits ti n e) | _ => false)
      | .struct fs => decide (xs.length = i.size) && fs.toList.all fun f => fits ti n f.type ((xs.drop f.offset).take (sizeT ti f.type))
      | _ => false)
    | none => false
theorem mapM_some {α β : Type} {f : α → Option β} : ∀ {l : List α} {r : List β}, l.mapM f = some r → r.length = l.length ∧ ∀ (i : Nat) (x : α), l[i]? = some x → ∃ y, r[i]? = some y ∧ f x = some y
  | [], r, h => by simp at h; subst h; simp
  | a :: l, r, h => by
    rw [List.mapM_cons] at h
    cases ha : f a with
    | none => simp [ha] at h
    | some b =>
      cases hl : l.mapM f with
      | none => simp [ha, hl] at h
      | some r' =>
        simp [ha, hl] at h
        subst h
        obtain ⟨h1, h2⟩ := mapM_some hl
        refine ⟨by simp [h1], fun i x hx => ?_⟩
        cases i with
        | zero => simp at hx; subst hx; exact ⟨b, rfl, ha⟩
        | succ i => simpa using h2 i x (by simpa using hx)
/-- data beside cells -/
def DRL (S : Nat → Nat → Option Value) : List D → List Value → Prop
  | [], [] => True
  | x :: xs, v :: vs => DR S x v ∧ DRL S xs vs
  | _, _ => False
theorem DRL.length {S : Nat → Nat → Option Value} : ∀ {xs : List D} {vs : List Value}, DRL S xs vs → xs.length = vs.length
  | [], [], _ => rfl
  | _ :: _, _ :: _, h => by simp only [DRL] at h; simp [DRL.length h.2]
  | [], _ :: _, h => by simp [DRL] at h
  | _ :: _, [], h => by simp [DRL] at h
theorem DRL.append {S : Nat → Nat → Option Value} : ∀ {xs : List D} {vs : List Value} {ys : List D} {us : List Value}, DRL S xs vs → DRL S ys us → DRL S (xs ++ ys) (vs ++ us)
  | [], [], _, _, _, k => k
  | _ :: _, _ :: _, _, _, h, k => by simp only [DRL, List.cons_append] at *; exact ⟨h.1, DRL.append h.2 k⟩
  | [], _ :: _, _, _, h, _ => by simp [DRL] at h
  | _ :: _, [], _, _, h, _ => by simp [DRL] at h
theorem DRL.get {S : Nat → Nat → Option Value} : ∀ {xs : List D} {vs : List Value}, DRL S xs vs → ∀ {i : Nat} {x : D}, xs[i]? = some x → ∃ v, vs[i]? = some v ∧ DR S x v
  | [], [], _, i, x, hx => by simp at hx
  | x :: xs, v :: vs, h, 0, y, hx => by simp only [DRL] at h; simp at hx; subst hx; exact ⟨v, rfl, h.1⟩
  | x :: xs, v :: vs, h, i + 1, y, hx => by simp only [DRL] at h; simp at hx; simpa using DRL.get h.2 hx
  | [], _ :: _, h, _, _, _ => by simp [DRL] at h
  | _ :: _, [], h, _, _, _ => by simp [DRL] at h
/-- A world's cells as cells that nobody writes. -/
def cellsOfW (w : World) (b i : Nat) : Option Value := w.cell? ⟨b, i, none⟩
theorem range_get {n i : Nat} (h : i < n) : (List.range n)[i]? = some i := by rw [List.getElem?_range h]
theorem choose_list {β : Type} {p : Nat → β → Prop} : ∀ (n : Nat), (∀ i, i < n → ∃ y, p i y) → ∃ l : List β, l.length = n ∧ ∀ i y, l[i]? = some y → p i y
  | 0, _ => ⟨[], rfl, by simp⟩
  | n + 1, h => by
    obtain ⟨l, h1, h2⟩ := choose_list n (fun i hi => h i (by omega))
    obtain ⟨y, hy⟩ := h n (by omega)
    refine ⟨l ++ [y], by simp [h1], fun i z hz => ?_⟩
    by_cases hi : i < l.length
    · rw [List.getElem?_append_left hi] at hz; exact h2 i z hz
    · rw [List.getElem?_append_right (by omega)] at hz
      have : i = n := by
        have := (List.getElem?_eq_some_iff.1 hz).1
        simp at this; omega
      subst this
      rw [h1] at hz; simp at hz; subst hz; exact hy
section
variable {H : Type} {enc : TypeId × Value → H} {P : Program} {w : World} {base : Nat} {spare : Nat → Bool} {held : Bool} {ti : TypeId → Option TInfo}
theorem fields_ok (hsz : ∀ t i, ti t = some i → P.cellsOf t = i.size) {n : Nat} (cs : List Value) : ∀ (l : List Field) (a b : Nat), tiles (sizeT ti) l a b = true → b = cs.length →
    (∀ f, f ∈ l → ∃ x : List D, DRL (cellsOfW w) x ((cs.drop f.offset).take (sizeT ti f.type)) ∧ fits ti n f.type x = true) →
    ∃ x : List D, DRL (cellsOfW w) x (cs.drop a) ∧ ∀ f, f ∈ l → a ≤ f.offset ∧ fits ti n f.type ((x.drop (f.offset - a)).take (sizeT ti f.type)) = true
  | [], a, b, ht, hb, _ => by
    simp only [tiles] at ht
    have := nbeq_iff.1 ht
    exact ⟨[], by rw [List.drop_of_length_le (by omega)]; simp [DRL], by simp⟩
  | f :: l, a, b, ht, hb, hf => by
    simp only [tiles, Bool.and_eq_true] at ht
    have h1 := nbeq_iff.1 ht.1
    obtain ⟨x1, h2, h3⟩ := hf f (by simp)
    obtain ⟨x2, h4, h5⟩ := fields_ok hsz cs l _ _ ht.2 hb (fun g hg => hf g (by simp [hg]))
    refine ⟨x1 ++ x2, ?_, ?_⟩
    · have := h2.append h4
      rw [h1] at this
      rwa [← List.drop_drop, List.take_append_drop] at this
    · have hl := h2.length
      simp only [List.length_take, List.length_drop] at hl
      have hle : f.offset + sizeT ti f.type ≤ cs.length := by
        have : ∀ (l : List Field) (a : Nat), tiles (sizeT ti) l a b = true → a ≤ b := by
          intro l
          induction l with
          | nil => intro a h; simp only [tiles] at h; exact Nat.le_of_eq (nbeq_iff.1 h)
          | cons g l ih => intro a h; simp only [tiles, Bool.and_eq_true] at h; have := ih _ h.2; omega
        have := this l _ ht.2
        omega
      intro g hg
      rcases List.mem_cons.1 hg with rfl | hg
      · refine ⟨by omega, ?_⟩
        rw [h1, Nat.sub_self, List.drop_zero, List.take_append_of_le_length (by omega), List.take_of_length_le (by omega)]
        exact h3
      · obtain ⟨h6, h7⟩ := h5 g hg
        refine ⟨by omega, ?_⟩
        rw [List.drop_append, List.drop_of_length_le (by omega), List.nil_append]
        rwa [show g.offset - a - x1.length = g.offset - (a + sizeT ti f.type) by omega]
theorem cells_get {a : Addr} {n : Nat} {vs : List Value} (h : w.cells? base a n = some vs) : vs.length = n ∧ ∀ (j : Nat) (v : Value), vs[j]? = some v → w.cell? (a.add j) = some v := by
  unfold World.cells? at h
  split at h
  · obtain ⟨h1, h2⟩ := mapM_some h
    refine ⟨by simpa using h1, fun j v hv => ?_⟩
    have hj : j < n := by have := (List.getElem?_eq_some_iff.1 hv).1; simpa [h1] using this
    obtain ⟨y, h3, h4⟩ := h2 j j (range_get hj)
    rw [hv] at h3; cases h3; exact h4
  · cases h
theorem trod_ok (hti : ∀ t i, ti t = some i → P.underlying t = some i.desc ∧ P.cellsOf t = i.size) : ∀ (fuel n : Nat) (t : TypeId) (cs : List Value) (r : DataW H × List MemPlace),
    DataW.trod enc P w base spare held fuel t cs = some r → plainT ti n t = true → ∃ xs : List D, DRL (cellsOfW w) xs cs ∧ fits ti n t xs = true
  | 0, _, _, _, _, h, _ => by simp [DataW.trod] at h
  | fuel + 1, 0, _, _, _, _, hp => by simp [plainT] at hp
  | fuel + 1, n + 1, t, cs, r, h, hp => by
    simp only [plainT] at hp
    cases hi : ti t with
    | none => simp [hi] at hp
    | some i =>
      obtain ⟨hu, hc⟩ := hti t i hi
      simp only [hi] at hp
      simp only [fits, hi]
      cases hd : i.desc <;> simp only [hd] at hp <;> try (cases hp; done)
      case bool =>
        simp only [DataW.trod, hu, hd] at h
        split at h <;> simp_all
        exact ⟨[.bool _], by simp only [DRL]; exact ⟨.bool _, trivial⟩, rfl⟩
      case int k =>
        simp only [DataW.trod, hu, hd] at h
        split at h
        all_goals (first | (cases h; done) | (exfalso; simp_all; done) | skip)
        rename_i k1 k' m heq
        cases heq
        split at h
        case isFalse => cases h
        rename_i hk
        obtain ⟨rfl, hk⟩ := hk
        exact ⟨[.int k' m], by simp only [DRL]; exact ⟨.int _ _, trivial⟩, by simp [hk]⟩
      case string =>
        simp only [DataW.trod, hu, hd] at h
        split at h
        all_goals (first | (cases h; done) | (exfalso; simp_all; done) | skip)
        rename_i s heq
        split at h
        case isFalse => cases h
        rename_i hk
        exact ⟨[.str s.data.toList], by simp only [DRL]; exact ⟨.str _, trivial⟩, by simpa using hk⟩
      case slice e =>
        simp only [Bool.and_eq_true] at hp
        have hsz := ble_iff.1 hp.2
        obtain ⟨ei, hei⟩ : ∃ ei, ti e = some ei := by
          cases he : ti e with
          | none => simp [sizeT, he] at hsz
          | some ei => exact ⟨ei, rfl⟩
        have hce : P.cellsOf e = ei.size := (hti e ei hei).2
        simp only [sizeT, hei] at hsz
        simp only [DataW.trod, hu, hd] at h
        split at h
        all_goals (first | (cases h; done) | (exfalso; simp_all; done) | skip)
        · refine ⟨[.sl false []], ?_, by simp⟩
          simp only [DRL]
          exact ⟨.sl false [] none 0 0 0 1 (fun _ _ => undef) (by simp) (by simp) (by simp) (by simp) (by simp) (by simp), trivial⟩
        · rename_i a len cap heq
          cases heq
          split at h
          case isFalse => cases h
          rename_i hcond
          simp only [Option.bind_eq_some_iff] at h
          obtain ⟨elems, h1, _⟩ := h
          obtain ⟨h3, h4⟩ := mapM_some h1
          simp only [List.length_range] at h3
          have key : ∀ k, k < len → ∃ (row : List D), (∀ j x, row[j]? = some x → ∃ v, w.cell? ((a.add (k * ei.size)).add j) = some v ∧ DR (cellsOfW w) x v) ∧ row.length = ei.size ∧ fits ti n e row = true := by
            intro k hk
            obtain ⟨y, _, h5⟩ := h4 k k (range_get hk)
            simp only [Option.bind_eq_some_iff] at h5
            obtain ⟨vs, h6, h7⟩ := h5
            obtain ⟨h8, h9⟩ := cells_get h6
            obtain ⟨row, h10, h11⟩ := trod_ok hti fuel n e vs y h7 hp.1
            refine ⟨row, fun j x hx => ?_, by rw [h10.length, h8, hce], h11⟩
            obtain ⟨v, h12, h13⟩ := h10.get hx
            refine ⟨v, ?_, h13⟩
            have := h9 j v h12
            rwa [hce] at this
          obtain ⟨els, h5, h6⟩ := choose_list len key
          have hspot : 0 < len → a.spot = none := by
            intro h0
            obtain ⟨row, h7, h8, _⟩ := key 0 h0
            obtain ⟨x, hx⟩ : ∃ x, row[0]? = some x := ⟨row[0]'(by omega), by rw [List.getElem?_eq_getElem]⟩
            obtain ⟨v, h9, _⟩ := h7 0 x hx
            have := World.cell?_spot h9
            simpa [Addr.add] using this
          have hadd : a.spot = none → ∀ x j, (a.add x).add j = ⟨a.block, a.off + (x + j), none⟩ := by
            intro hs x j
            obtain ⟨b, o, sp⟩ := a
            simp only at hs
            subst hs
            unfold Addr.add
            by_cases hx : x = 0 <;> by_cases hj : j = 0 <;> simp [hx, hj] <;> omega
          refine ⟨[.sl false els], ?_, ?_⟩
          · simp only [DRL]
            refine ⟨?_, trivial⟩
            rw [← h5]
            refine .sl false els (some a) cap a.block a.off ei.size (fun i j => (w.cell? ⟨a.block, a.off + (i * ei.size + j), none⟩).getD undef) ?_ ?_ ?_ ?_ ?_ (by simp)
            · intro r hr
              obtain ⟨i, hi⟩ := List.getElem?_of_mem hr
              exact (h6 i r hi).2.1
            · intro i r hr j x hx
              obtain ⟨v, h7, _⟩ := (h6 i r hr).1 j x hx
              have hil : i < len := by rw [← h5]; exact (List.getElem?_eq_some_iff.1 hr).1
              rw [hadd (hspot (by omega))] at h7
              simp only [cellsOfW, Nat.add_assoc, h7, Option.getD_some]
            · intro i r hr j x hx
              obtain ⟨v, h7, h8⟩ := (h6 i r hr).1 j x hx
              have hil : i < len := by rw [← h5]; exact (List.getElem?_eq_some_iff.1 hr).1
              rw [hadd (hspot (by omega))] at h7
              simp only [h7, Option.getD_some]; exact h8
            · intro hne
              have : 0 < len := by rw [← h5]; exact List.length_pos_iff.2 hne
              have := hspot this
              obtain ⟨b, o, sp⟩ := a
              simp only at this
              subst this; rfl
            · omega
          · simp only [Bool.and_eq_true, decide_eq_true_eq, List.all_eq_true]
            refine ⟨by omega, fun r hr => ?_⟩
            obtain ⟨i, hi⟩ := List.getElem?_of_mem hr
            exact (h6 i r hi).2.2
      case struct fs =>
        simp only [Bool.and_eq_true, List.all_eq_true] at hp
        simp only [DataW.trod, hu, hd] at h
        split at h
        case isFalse => cases h
        rename_i hlen
        rw [hc] at hlen
        simp only [Option.map_eq_some_iff] at h
        obtain ⟨xs, h1, _⟩ := h
        obtain ⟨h2, h3⟩ := mapM_some h1
        have hsz : ∀ u, (∃ k, plainT ti k u = true) → P.cellsOf u = sizeT ti u := by
          intro u ⟨k, hk⟩
          cases k with
          | zero => simp [plainT] at hk
          | succ k =>
            simp only [plainT] at hk
            cases hu : ti u with
            | none => simp [hu] at hk
            | some ui => simp [sizeT, hu, (hti u ui hu).2]
        obtain ⟨x, h4, h5⟩ := fields_ok (w := w) (ti := ti) (P := P) (fun t i h => (hti t i h).2) (n := n) cs fs.toList 0 i.size hp.1 hlen.symm (fun f hf => by
          obtain ⟨k, hk⟩ := List.getElem?_of_mem hf
          obtain ⟨y, _, h7⟩ := h3 k f hk
          have hpf := hp.2 f hf
          rw [hsz f.type ⟨n, hpf⟩] at h7
          exact trod_ok hti fuel n f.type _ _ h7 hpf)
        simp only [List.drop_zero] at h4
        refine ⟨x, h4, ?_⟩
        simp only [Bool.and_eq_true, decide_eq_true_eq, List.all_eq_true]
        refine ⟨by rw [h4.length, hlen], fun f hf => ?_⟩
        have := (h5 f hf).2
        simpa using this
end
end Go.Ev
/- From a run of the evaluator to a row's contract. -/
namespace Go.Ev
open Go.ChangeShapes Go.WideShapes Go.ChangeAt Go.RowKit
/-- An argument as the evaluator takes it. -/
def argOf (ti : TypeId → Option TInfo) (t : TypeId) (xs : List D) : V := match ti t with
  | some i => (match i.desc, xs with
    | .struct _, xs => .agg (ds xs)
    | _, [x] => .d x
    | _, _ => .undef)
  | none => .undef
def argsOf (ti : TypeId → Option TInfo) : List TypeId → List (List D) → List V
  | t :: ts, x :: xs => argOf ti t x :: argsOf ti ts xs
  | _, _ => []
def fitsAll (ti : TypeId → Option TInfo) (n : Nat) : List TypeId → List (List D) → Bool
  | [], [] => true
  | t :: ts, x :: xs => fits ti n t x && fitsAll ti n ts xs
  | _, _ => false
def startG (gl : Nat → Option (List D)) (w : World) : G := { S := cellsOfW w, O := fun _ => none, N := 0, pend := fun _ => False, gl := gl }
theorem start_inv {gl : Nat → Option (List D)} {w : World} (h : ∀ x cs, gl x = some cs → SRow (cellsOfW w) x 0 cs) : Inv (startG gl w) St.none w :=
  ⟨rfl, fun _ _ _ h => h, fun o _ h => absurd h (Nat.not_lt_zero o), fun _ _ h => (by cases h), fun _ _ _ _ h => (by cases h), fun _ _ h => (by cases h), h, fun _ h => h.elim⟩
theorem DRL.vrl {g : G} : ∀ {xs : List D} {vs : List Value}, DRL g.S xs vs → VRL g (ds xs) vs
  | [], [], _ => by simp [ds, VRL]
  | x :: xs, v :: vs, h => by
    simp only [DRL] at h
    have := DRL.vrl h.2
    simp only [ds] at this
    simp only [ds, List.map_cons, VRL, VR]; exact ⟨h.1, this⟩
  | [], _ :: _, h => by simp [DRL] at h
  | _ :: _, [], h => by simp [DRL] at h
section
variable {H : Type} {enc : TypeId × Value → H} {P : Program} {w : World} {ti : TypeId → Option TInfo}
theorem arg_ok (hti : ∀ t i, ti t = some i → P.underlying t = some i.desc ∧ P.cellsOf t = i.size) {gl : Nat → Option (List D)} {n base : Nat} {t : TypeId} {v : Value} {d : DataW H} {p : List MemPlace} {sp : Nat → Bool} {held : Bool} (hp : plainT ti n t = true)
    (hv : Value.okWide P w .any base t v) (h : DataW.Trod enc P w 0 sp held t v d p) : ∃ xs, fits ti n t xs = true ∧ VR (startG gl w) (argOf ti t xs) v := by
  obtain ⟨fuel, h⟩ := h
  obtain ⟨xs, h1, h2⟩ := trod_ok hti fuel n t _ _ h hp
  refine ⟨xs, h2, ?_⟩
  cases n with
  | zero => simp [plainT] at hp
  | succ n =>
    simp only [plainT] at hp
    cases hi : ti t with
    | none => simp [hi] at hp
    | some i =>
      obtain ⟨hu, hc⟩ := hti t i hi
      simp only [hi] at hp
      simp only [fits, hi] at h2
      simp only [argOf, hi]
      have flat : ∀ x, xs = [x] → (∀ cs, v ≠ .agg cs) → VR (startG gl w) (.d x) v := by
        rintro x rfl hne
        have hcells : v.cells.toList = [v] := by cases v <;> first | rfl | exact absurd rfl (hne _)
        rw [hcells] at h1
        simp only [DRL] at h1
        simp only [VR]; exact h1.1
      have notAgg : (∀ fs, i.desc ≠ .struct fs) → (∀ m e, i.desc ≠ .array m e) → plainT ti (n + 1) t = true → ∀ cs, v ≠ .agg cs := by
        rintro k1 k2 hp' cs rfl
        simp only [plainT, hi] at hp'
        unfold Value.okWide at hv
        rw [hu] at hv
        cases hd : i.desc <;> simp only [hd] at hp' hv k1 k2 <;> first | (cases hp'; done) | (exact absurd rfl (k1 _)) | (simp [Cell.okWide, Cell.ok, hu, hd] at hv)
      cases hd : i.desc <;> simp only [hd] at hp h2 ⊢ <;> try (cases hp; done)
      case bool =>
        split at h2
        · rename_i b
          exact flat _ rfl (notAgg (by simp [hd]) (by simp [hd]) (by simp [plainT, hi, hd]))
        · cases h2
      case int k =>
        split at h2
        · exact flat _ rfl (notAgg (by simp [hd]) (by simp [hd]) (by simp [plainT, hi, hd]))
        · cases h2
      case string =>
        split at h2
        · exact flat _ rfl (notAgg (by simp [hd]) (by simp [hd]) (by simp [plainT, hi, hd]))
        · cases h2
      case slice e =>
        split at h2
        · exact flat _ rfl (notAgg (by simp [hd]) (by simp [hd]) (by simpa [plainT, hi, hd] using hp))
        · cases h2
      case struct fs =>
        unfold Value.okWide at hv
        rw [hu] at hv
        simp only [hd] at hv
        obtain ⟨cs, rfl, _⟩ := hv
        simp only [VR]
        exact ⟨cs.toList, by simp, DRL.vrl (g := startG gl w) (by simpa [Value.cells, startG] using h1)⟩
theorem args_ok (hti : ∀ t i, ti t = some i → P.underlying t = some i.desc ∧ P.cellsOf t = i.size) {gl : Nat → Option (List D)} {n base : Nat} {sp : Nat → Bool} {held : Bool} : ∀ {ts : List TypeId} {vs : List Value} {dd : List (DataW H)} {p : List MemPlace}, ts.all (plainT ti n) = true →
    (∀ (j : Nat) t v, ts[j]? = some t → vs[j]? = some v → Value.okWide P w .any base t v) → DataW.TrodAll enc P w 0 sp held ts vs dd p →
    ∃ xss, fitsAll ti n ts xss = true ∧ VRL (startG gl w) (argsOf ti ts xss) vs
  | [], [], [], _, _, _, _ => ⟨[], rfl, by simp [argsOf, VRL]⟩
  | t :: ts, v :: vs, d :: dd, p, hp, hv, h => by
    simp only [DataW.TrodAll] at h
    obtain ⟨p1, q1, h1, h2, _⟩ := h
    simp only [List.all_cons, Bool.and_eq_true] at hp
    obtain ⟨x, k1, k2⟩ := arg_ok (gl := gl) hti hp.1 (hv 0 t v rfl rfl) h1
    obtain ⟨xs, k3, k4⟩ := args_ok (gl := gl) hti hp.2 (fun j t v ht hv' => hv (j + 1) t v (by simpa using ht) (by simpa using hv')) h2
    exact ⟨x :: xs, by simp [fitsAll, k1, k3], by simp only [argsOf, VRL]; exact ⟨k2, k4⟩⟩
  | [], _ :: _, _, _, _, _, h => by simp [DataW.TrodAll] at h
  | [], [], _ :: _, _, _, _, h => by simp [DataW.TrodAll] at h
  | _ :: _, [], _, _, _, _, h => by simp [DataW.TrodAll] at h
  | _ :: _, _ :: _, [], _, _, _, h => by simp [DataW.TrodAll] at h
theorem stays (hl : laidOutB P = true) {w' : World} (hb : Below w.heap.size w w') : ∀ {ts : List TypeId} {vs : List Value} {dd : List (DataW H)} {p : List MemPlace}, (∀ t ∈ ts, P.readableRec t = true ∧ t < P.types.size) →
    DataW.TrodAll enc P w 0 (fun _ => true) true ts vs dd p → (∀ x ∈ p, x.block < w.heap.size) → DataW.TrodAll enc P w' 0 (fun b => decide (b < w.heap.size)) true ts vs dd p
  | [], [], [], _, _, h, _ => h
  | t :: ts, v :: vs, d :: dd, p, ht, h, hp => by
    simp only [DataW.TrodAll] at h ⊢
    obtain ⟨p1, q1, h1, h2, rfl⟩ := h
    exact ⟨p1, q1, Below.trod hl (ht t (by simp)).1 (ht t (by simp)).2 h1 hb (fun x hx => hp x (by simp [hx])), stays hl hb (fun t' h' => ht t' (by simp [h'])) h2 (fun x hx => hp x (by simp [hx])), rfl⟩
  | [], _ :: _, _, _, _, h, _ => by simp [DataW.TrodAll] at h
  | [], [], _ :: _, _, _, h, _ => by simp [DataW.TrodAll] at h
  | _ :: _, [], _, _, _, h, _ => by simp [DataW.TrodAll] at h
  | _ :: _, _ :: _, [], _, _, h, _ => by simp [DataW.TrodAll] at h
theorem trodAll_lt : ∀ {ts : List TypeId} {vs : List Value} {dd : List (DataW H)} {p : List MemPlace}, DataW.TrodAll enc P w 0 (fun _ => true) true ts vs dd p → ∀ x ∈ p, x.block < w.heap.size
  | [], [], [], _, h, x, hx => by simp only [DataW.TrodAll] at h; subst h; simp at hx
  | t :: ts, v :: vs, d :: dd, p, h, x, hx => by
    simp only [DataW.TrodAll] at h
    obtain ⟨p1, q1, ⟨m, hm⟩, h2, rfl⟩ := h
    rcases List.mem_append.1 hx with hx | hx
    · exact DataW.trod_lt m _ _ _ hm x hx
    · exact trodAll_lt h2 x hx
  | [], _ :: _, _, _, h, _, _ => by simp [DataW.TrodAll] at h
  | [], [], _ :: _, _, h, _, _ => by simp [DataW.TrodAll] at h
  | _ :: _, [], _, _, h, _, _ => by simp [DataW.TrodAll] at h
  | _ :: _, _ :: _, [], _, h, _, _ => by simp [DataW.TrodAll] at h
theorem trodAll_len : ∀ {ts : List TypeId} {vs : List Value} {dd : List (DataW H)} {p : List MemPlace}, DataW.TrodAll enc P w 0 (fun _ => true) true ts vs dd p → dd.length = ts.length
  | [], [], [], _, _ => rfl
  | t :: ts, v :: vs, d :: dd, p, h => by
    simp only [DataW.TrodAll] at h
    obtain ⟨p1, q1, _, h2, _⟩ := h
    simp [trodAll_len h2]
  | [], _ :: _, _, _, h => by simp [DataW.TrodAll] at h
  | [], [], _ :: _, _, h => by simp [DataW.TrodAll] at h
  | _ :: _, [], _, _, h => by simp [DataW.TrodAll] at h
  | _ :: _, _ :: _, [], _, h => by simp [DataW.TrodAll] at h
end
/-- A law's contract: where every run on data of the parameters' types gives true. -/
theorem law_contract {P : Program} {E : Env} (hE : EnvOK P E) {n f tb : Nat} {fn : Func} {s : ChangeSpec} {X : World → Prop} (hl : laidOutB P = true) (hpt : fn.params.toList.all (plainT E.ti n) = true)
    (hpr : ∀ t ∈ fn.params.toList, P.readableRec t = true ∧ t < P.types.size) (hres : fn.resultTypes = #[tb]) (htb : P.underlying tb = some .bool) (hvars : s.vars = [])
    (hfn : ∀ (H : Type) (dd : List (DataW H)), dd.length = fn.params.toList.length → s.fn H dd = { results := [.lit (.bool true)], args := dd })
    (hgl : ∀ w, X w → ∀ x cs, E.glob x = some cs → SRow (cellsOfW w) x 0 cs) (hin : E.intr f = none)
    (hrun : ∀ xss, fitsAll E.ti n fn.params.toList xss = true → ∃ m s', run E m f (argsOf E.ti fn.params.toList xss) = some (.d (.bool true), s'))
    (H : Type) (enc : TypeId × Value → H) (W : World) (base : Nat) (args : Array Value) (dd gs : List (DataW H)) (before : List MemPlace)
    (hval : ∀ (j : Nat) t v, fn.params[j]? = some t → args[j]? = some v → Value.okWide P W .any base t v)
    (hW : DataW.Whole enc P fn.params.toList s.vars false W args.toList dd gs before) (hX : X W) :
    Calls P f args W fun e W' => ∃ v, e = .returned v ∧ s.post enc P fn false true false false W args v W' := by
  have hW' := hW
  obtain ⟨p, q, hA, hV, rfl, hfz, hnd⟩ := hW
  rw [hvars] at hV
  obtain ⟨rfl, rfl⟩ := trodVars_none hV
  have hti : ∀ t i, E.ti t = some i → P.underlying t = some i.desc ∧ P.cellsOf t = i.size := fun t i h => by
    obtain ⟨h1, pi, h2, h3, _⟩ := hE.ti t i h
    exact ⟨h1, by simp [Program.cellsOf, h2, h3]⟩
  obtain ⟨xss, h1, h2⟩ := args_ok (gl := E.glob) hti hpt (fun j t v ht hv => hval j t v (by simpa using ht) (by simpa using hv)) hA
  obtain ⟨m, s', h3⟩ := hrun xss h1
  obtain ⟨_, h4⟩ := run_sound hE hin h3 (startG E.glob W) W args.toList rfl (start_inv (hgl W hX)) h2
  refine Calls.mono h4 fun e W' he => ?_
  obtain ⟨cv, rfl, g', h5, h6⟩ := he
  simp only [VR] at h5
  cases h5
  have bel : Below W.heap.size W W' := ⟨h6.frame.os, h6.frame.tape, h6.frame.output, h6.frame.size, fun k hk => h6.frame.block k hk (fun o r h => by cases h)⟩
  have hlen : dd.length = fn.params.toList.length := by
    exact trodAll_len hA
  have e1 : s.fn H (dd ++ []) = { results := [.lit (.bool true)], args := dd } := by rw [List.append_nil]; exact hfn H dd hlen
  refine ⟨_, rfl, _, _, _, [], p, [], hW', ?_, ?_, ?_, bel.frame _, fun h => by cases h⟩
  · rw [e1, hres]
    exact trodAll_mk1 (shut_bool htb _)
  · rw [e1]
    exact stays hl bel hpr hA (trodAll_lt hA)
  · rw [e1, hvars]; rfl
/-- A table's cells, out of what a row lists. -/
theorem tab_row {P : Program} {W : World} {name : String} {k : IntKind} {zs : List Int} {laid : List (String × DataW Unit)} {g : Nat} {t e : TypeId} {n : Nat} (h : laidMet P laid W) (hm : (name, Lib.tabData k zs) ∈ laid)
    (hg : P.globalNamed name = some g) (hty : (P.globals[g]?).map (·.type) = some t) (ht : P.underlying t = some (.array n e)) (he : P.underlying e = some (.int k)) (hce : P.cellsOf e = 1) (hct : P.cellsOf t = n) :
    SRow (cellsOfW W) g 0 (zs.map (D.int k)) := by
  obtain ⟨g', t', cs, fuel, p, hg', ht', hvar, hd⟩ := Lib.laidMet.reads h hm
  obtain rfl := Option.some.inj (hg.symm.trans hg')
  obtain rfl := Option.some.inj (hty.symm.trans ht')
  have hc := Lib.cells_of_tab ht he hce hct hd
  intro j x hx
  simp only [List.getElem?_map, Option.map_eq_some_iff] at hx
  obtain ⟨z, hz, rfl⟩ := hx
  refine ⟨.int k z, ?_, .int k z⟩
  have := World.var?_cell hg hvar j
  simp only [cellsOfW, Nat.zero_add]
  rw [this]
  have h2 : cs.toList[j]? = some (.int k z) := by rw [hc]; simp [hz]
  simpa using h2
end Go.Ev
/- strings.Builder's methods, slices.Clone, and functions without a body, as the evaluator is to see them. -/
namespace Go.Ev
/-! worlds that turn a little -/
theorem Inv.blocks {g : G} {s : St} {w w' : World} (hI : Inv g s w) (hk : ∀ b, b < w.heap.size → w'.heap[b]? = w.heap[b]?) (hs : w.heap.size ≤ w'.heap.size) : Inv g s w' := by
  refine ⟨hI.N, fun b i v hv => ?_, fun o obj ho hg => ?_, hI.dom, hI.inj, fun o r h => Nat.lt_of_lt_of_le (hI.lt o r h) hs, hI.gl, hI.pd⟩
  · have := hI.S b i v hv
    rw [cell_kept' (hk b (block_of_cell this))]; exact this
  · rcases hI.live o obj ho hg with h | ⟨r, h1, h2⟩
    · exact .inl h
    · exact .inr ⟨r, h1, h2.kept (.refl 0 g) (fun _ => rfl) (hk _ (hI.lt o r h1))⟩
theorem Inv.wider {g : G} {s : St} {w w' : World} (hI : Inv g s w) (hk : ∀ b, b < w.heap.size → w'.heap[b]? = w.heap[b]?) (hs : w.heap.size ≤ w'.heap.size) (h1 : w'.os = w.os) (h2 : w'.tape = w.tape) (h3 : w'.output = w.output) : Step g s w g s w' :=
  ⟨hI.blocks hk hs, .refl _ _, ⟨h1, h2, h3, hs, fun k hk' _ => hk k hk'⟩, .refl _⟩
theorem Inv.drewN {g : G} {s : St} {w : World} (hI : Inv g s w) (k : Nat) : Step g s w g s { w with drawn := w.drawn + k } := hI.wider (fun _ _ => rfl) (Nat.le_refl _) rfl rfl rfl
theorem Inv.allocd {g : G} {s : St} {w : World} (hI : Inv g s w) (o : Go.Obj) : Step g s w g s (w.alloc o) :=
  hI.wider (fun b hb => by simp only [World.alloc]; rw [Array.getElem?_push, if_neg (by omega)]) (by rw [World.size_alloc]; omega) rfl rfl rfl
/-- One cell of a row's element is written. -/
theorem setCell_step {g : G} {s : St} {w : World} {r : ORec} {o i j : Nat} {els : List (List V)} {opn : Tg} {cells : List V} {x : V} {v : Value} (hI : Inv g s w) (ho : g.O o = some r)
    (hg : hget s.heap o = some (.row els opn)) (hobj : ObjR g r w (.row els opn)) (hi : els[i]? = some cells) (hx : VR g x v) (h1 : x.one = true) (hle : j < cells.length) :
    Step g s w g (s.putAt o (.row (els.set i (splice cells j [x])) opn) ⟨o, i, j, 1⟩) (w.setCell ⟨r.b, i * r.esz + j, none⟩ v) := by
  have hvr : VRL g [x] [v] := by simp [VRL, hx]
  obtain ⟨w', h2, h3⟩ := row_write hI ho hg hobj hi (xs := [x]) (vs := [v]) (j := j) hvr (by simp [allOne, h1]) (by simp; omega) default
  obtain ⟨h4, h5, h6, h7, c, T, fz, h8, h9, h10, h11, h12, h13⟩ := hobj
  have hcl : cells.length = r.esz := h6 _ (List.mem_of_getElem? hi)
  have hil : i < els.length := (List.getElem?_eq_some_iff.1 hi).1
  have hroom : i * r.esz + r.esz ≤ els.length * r.esz := by have := Nat.mul_le_mul_right r.esz (show i + 1 ≤ els.length from hil); rwa [Nat.succ_mul] at this
  have hfit : i * r.esz + j + 1 ≤ c.size := by omega
  have hrun := run_storeCells_blk default [v] 0 c w (o := i * r.esz + j) h8 (by simpa using hfit) (fun k hk1 hk2 => h13 k (by simp at hk2; omega)) (by
    intro u hu; simp at hu; subst hu; exact plain_oneCell (hx.plain h1))
  rw [h2] at hrun
  simp only [Nat.add_zero, Result.ok.injEq, true_and] at hrun
  rw [setCell_blk v h8]
  have : putCells c (i * r.esz + j) [v] = c.setIfInBounds (i * r.esz + j) v := by
    have := putCells_cons (c := c) (k := i * r.esz + j) (v := v) (vs := []) (by simpa using hfit)
    rw [putCells_nil] at this
    exact this.symm
  rw [← this, ← hrun]
  exact h3
/-- The head of an open row is frozen. -/
theorem Inv.freeze {g : G} {s : St} {w : World} {o : Nat} {r : ORec} {n e q k : Nat} (hI : Inv g s w) (ho : g.O o = some r) (hg : hget s.heap o = some (.tok n e q)) (hk : k ≤ n * r.esz) (hp : ¬ g.pend o) :
    Step g s w g s (w.freeze ⟨r.b, 0, none⟩ k) := by
  unfold World.freeze
  split
  · exact .refl hI
  · rename_i hk0
    have hos : o < s.next := hI.dom o r ho
    obtain ⟨h1, h2, h3, h4, c, T, fz, h5, h6, h7, h8, h9⟩ : ObjR g r w (.tok n e q) := by
      rcases hI.live o _ hos hg with h | ⟨r', h1, h2⟩
      · exact absurd h hp
      · rw [ho] at h1; cases h1; exact h2
    have hb : r.b < w.heap.size := (Array.getElem?_eq_some_iff.1 h5).1
    generalize hw : ({ w with heap := w.heap.modify r.b fun
      | .cells c elem (lo, hi) => .cells c elem (if lo == hi then ((0 : Nat), 0 + k) else (min lo 0, max hi (0 + k)))
      | o => o } : World) = w'
    have hh : w'.heap[r.b]? = some (.cells c T.1 (if fz.1 == fz.2 then ((0 : Nat), 0 + k) else (min fz.1 0, max fz.2 (0 + k)))) := by
      subst hw
      simp [Array.getElem?_modify, h5]
    have hk' : ∀ b, b ≠ r.b → w'.heap[b]? = w.heap[b]? := by
      intro b hbb; subst hw
      simp only [Array.getElem?_modify]
      rw [if_neg (Ne.symm hbb)]
    have hsz : w'.heap.size = w.heap.size := by subst hw; simp
    refine ⟨⟨hI.N, fun b i v hv => ?_, fun o1 obj ho1 hg1 => ?_, hI.dom, hI.inj, fun o1 r1 h => by rw [hsz]; exact hI.lt o1 r1 h, hI.gl, hI.pd⟩, .refl _ _, ⟨by subst hw; rfl, by subst hw; rfl, by subst hw; rfl, by rw [hsz]; exact Nat.le_refl _, fun b hb1 hn => hk' b (fun e => hn o r ho e.symm)⟩, .refl _⟩
    · have := hI.S b i v hv
      by_cases hbb : b = r.b
      · subst hbb
        rw [cell_blk hh]; rw [cell_blk h5] at this; exact this
      · rw [cell_kept' (hk' b hbb)]; exact this
    · by_cases hoo : o1 = o
      · subst hoo
        rw [hg] at hg1; cases hg1
        refine .inr ⟨r, ho, h1, h2, h3, h4, c, T, _, hh, h6, h7, fun j hj1 hj2 => ?_, ?_⟩
        · have h8' := h8 j hj1 hj2
          by_cases hz : fz.1 = fz.2
          · rw [if_pos (by simpa using hz)]; simp; omega
          · rw [if_neg (by simpa using hz)]
            simp only [Nat.zero_add]
            rcases h9 with h9 | h9
            · exact absurd h9 hz
            · intro ⟨_, hj3⟩
              have h10 := h8 fz.1
              have h11 : j < fz.2 := by
                have := Nat.max_def (n := fz.2) (m := k)
                omega
              rcases Nat.lt_or_ge j fz.1 with hlt | hge
              · exact absurd ⟨Nat.le_refl _, h9.1⟩ (h10 (by omega) (by omega))
              · exact h8' ⟨hge, h11⟩
        · by_cases hz : fz.1 = fz.2
          · rw [if_pos (by simpa using hz)]; right; simp; omega
          · rw [if_neg (by simpa using hz)]
            rcases h9 with h9 | h9
            · exact absurd h9 hz
            · right
              have := Nat.max_def (n := fz.2) (m := k)
              simp only [Nat.zero_add, Nat.min_zero]
              omega
      · rcases hI.live o1 obj ho1 hg1 with h | ⟨r1, h10, h11⟩
        · exact .inl h
        · exact .inr ⟨r1, h10, h11.kept (.refl 0 g) (fun _ => rfl) (hk' _ (fun e => hoo (hI.inj _ _ _ _ h10 ho e)))⟩
end Go.Ev
