/- Part CoI of the kept evaluator and its soundness; what each piece says stands ahead of it. No condition. -/
import Derived.Test.YtelhpneeiebeeaaGreatDoorCoG
import Derived.Test.YtelhpneeiebeeaaGreatDoorCoH
import Derived.Lib.Bytealg
import Derived.Test.YtelhpneeiebeeaaGreatDoorCoF
/- Contracts as lists of cases; those of strings.Builder, slices.Clone and of functions without a body. -/
namespace Go.Ev
/-- Are these octets? -/
def bytesOk : List (List D) → Bool
  | [] => true
  | [.int .u8 n] :: r => decide (0 ≤ n) && decide (n < 256) && bytesOk r
  | _ => false
def bytesD (l : List (List D)) : List UInt8 := (bytesOf l).getD []
theorem bytes_of_ok : ∀ {l : List (List D)}, bytesOk l = true → ∃ b, bytesOf l = some b ∧ l = ofBytes b
  | [], _ => ⟨[], rfl, rfl⟩
  | x :: r, h => by
    match x, h with
    | [.int .u8 n], h =>
      simp only [bytesOk, Bool.and_eq_true, decide_eq_true_eq] at h
      obtain ⟨b, h1, h2⟩ := bytes_of_ok h.2
      obtain ⟨m, rfl⟩ := Int.eq_ofNat_of_zero_le h.1.1
      have hm : m < 256 := by omega
      refine ⟨UInt8.ofNat m :: b, by simp [bytesOf, h1], ?_⟩
      simp only [ofBytes, List.map_cons] at h2 ⊢
      rw [← h2]
      simp [Nat.mod_eq_of_lt hm]
/-- a pointer to a variable of this type, that lies by itself -/
def bOk (tg : Tg) (ty : TypeId) (hw i j : Nat) : Bool := Nat.beq tg.ty ty && !tg.opn && Nat.beq hw 1 && Nat.beq i 0 && Nat.beq j 0
theorem bOk_iff {tg : Tg} {ty : TypeId} {hw i j : Nat} (h : bOk tg ty hw i j = true) : tg.ty = ty ∧ tg.opn = false ∧ hw = 1 ∧ i = 0 ∧ j = 0 := by
  simp only [bOk, Bool.and_eq_true, Bool.not_eq_true'] at h
  exact ⟨nbeq_iff.1 h.1.1.1.1, h.1.1.1.2, nbeq_iff.1 h.1.1.2, nbeq_iff.1 h.1.2, nbeq_iff.1 h.2⟩
/-- (*strings.Builder).copyCheck -/
def ccG (ty : TypeId) : Alts
  | [.ptr o hw i j], s => (match hget s.heap o with
    | some (.row [[a, b]] tg) => (match a with
      | .d .nilp => [(bOk tg ty hw i j, .tup [], s.putAt o (.row [[.ptr o 1 0 0, b]] tg) ⟨o, 0, 0, 1⟩)]
      | .ptr o' hw' i' j' => [(bOk tg ty hw i j && Nat.beq o o' && Nat.beq hw' 1 && Nat.beq i' 0 && Nat.beq j' 0, .tup [], s)]
      | _ => [])
    | _ => [])
  | _, _ => []
def growMax : Int := 1099511627776
/-- (*strings.Builder).Grow, of one that has not been written -/
def growG (ty bt : TypeId) : Alts
  | [.ptr o hw i j, .d (.int .i64 n)], s => (match hget s.heap o with
    | some (.row [[.d .nilp, .nils]] tg) =>
      [(decide (n = 0) && (bOk tg ty hw i j), .tup [], s.putAt o (.row [[.ptr o 1 0 0, .nils]] tg) ⟨o, 0, 0, 1⟩),
       (decide (0 < n) && decide (n ≤ growMax) && (bOk tg ty hw i j), .tup [],
        ((s.putAt o (.row [[.ptr o 1 0 0, .nils]] tg) ⟨o, 0, 0, 1⟩).push (.tok 0 1 bt)).putAt o (.row [[.ptr o 1 0 0, .os s.next []]] tg) ⟨o, 0, 1, 1⟩)]
    | _ => [])
  | _, _ => []
/-- (*strings.Builder).String -/
def strG (ty bt : TypeId) : Alts
  | [.ptr o hw i j], s => (match hget s.heap o with
    | some (.row [[_, b]] tg) => (match b with
      | .nils => [(bOk tg ty hw i j, .d (.str []), s)]
      | .os o2 els => (match hget s.heap o2 with
        | some (.tok n e q) => [(bOk tg ty hw i j && Nat.beq e 1 && Nat.beq q bt && Nat.beq n els.length && bytesOk els && Nat.ble els.length lenMax, .d (.str (bytesD els)), s)]
        | _ => [])
      | _ => [])
    | _ => [])
  | _, _ => []
/-- slices.Clone -/
def cloneG (mu : Bool) (ty : TypeId) (size : Nat) : Alts
  | [.d (.sl _ els)], s => (match mu with
    | false => [(Nat.beq els.length 0, .d (.sl true []), s), (firstLen size els && Nat.ble els.length lenMax, .os s.next els, s.push (.tok els.length size ty))]
    | true => [(Nat.beq els.length 0, .d (.sl true []), s), (firstLen size els && Nat.ble els.length lenMax, .ms (s.next + 1) 0 (els.map ds).length (els.map ds).length false, (s.push (.row [] ⟨ty, false⟩)).push (.row (els.map ds) ⟨ty, true⟩))])
  | _, _ => []
def idxG : Alts
  | [.d (.str l), .d (.int .u8 c)], s => [(true, .d (.int .i64 (Lib.indexByte l c.toNat.toUInt8)), s)]
  | _, _ => []
def cntG : Alts
  | [.d (.str l), .d (.int .u8 c)], s => [(true, .d (.int .i64 (Lib.countByte l c.toNat.toUInt8)), s)]
  | _, _ => []
def cmpG : Alts
  | [.d (.str l), .d (.str m)], s => [(true, .d (.int .i64 (Lib.compareBytes l m)), s)]
  | _, _ => []
def cmpBG : Alts
  | [.d (.sl _ l), .d (.sl _ m)], s => [(bytesOk l && bytesOk m, .d (.int .i64 (Lib.compareBytes (bytesD l) (bytesD m))), s)]
  | _, _ => []

/-! what a builder's pointer leads to -/
theorem bld_open {g : G} {s : St} {w : World} {o : Nat} {a b : V} {tg : Tg} {cp : Value} (hI : Inv g s w) (hp : VR g (.ptr o 1 0 0) cp) (hg : hget s.heap o = some (.row [[a, b]] tg)) :
    ∃ r c fz ca cb, g.O o = some r ∧ r.esz = 2 ∧ cp = .pointer (some ⟨r.b, 0, none⟩) ∧ w.heap[r.b]? = some (.cells c tg.ty fz) ∧ c.size = r.z ∧ 2 ≤ r.z ∧ (tg.opn = false → r.z = 2) ∧ ObjR g r w (.row [[a, b]] tg) ∧
      w.cell? ⟨r.b, 0, none⟩ = some ca ∧ w.cell? ⟨r.b, 1, none⟩ = some cb ∧ VR g a ca ∧ VR g b cb ∧ a.one = true ∧ b.one = true ∧ (∀ k, k < r.z → w.frozen? ⟨r.b, k, none⟩ = false) := by
  simp only [VR] at hp
  obtain ⟨h1, h2, _, h3⟩ := hp
  rcases hI.live o _ (by rw [← hI.N]; exact h1) hg with h | ⟨r, hr, hobj⟩
  · exact absurd h h2
  have hobj' := hobj
  obtain ⟨k1, k2, k3, k4, c, T, fz, k5, k6, k7, k8, k9, k10⟩ := hobj
  obtain ⟨T, rfl⟩ := T
  have hez : r.esz = 2 := (k3 [a, b] (by simp)).symm
  have hv := (h3 r hr).2 (by rw [k1]; rfl)
  obtain ⟨ca, a1, a2, a3⟩ := k9 0 [a, b] rfl 0 a rfl
  obtain ⟨cb, b1, b2, b3⟩ := k9 0 [a, b] rfl 1 b rfl
  simp only [Nat.zero_mul, Nat.zero_add] at a1 b1 hv
  refine ⟨r, c, fz, ca, cb, hr, hez, hv, k5, k6, by simpa [hez] using k7, fun h => by have := k8 h; simpa [hez] using this, hobj', by rw [cell_blk k5]; exact a1, by rw [cell_blk k5]; exact b1, a3, b3, a2, b2, fun k hk => frozen_blk k5 (k10 k hk)⟩
theorem shape_blk {w : World} {b : Nat} {c : Array Value} {T : TypeId} {fz : Nat × Nat} (h : w.heap[b]? = some (.cells c T fz)) : w.shape? b = some (T, c.size) := by simp [World.shape?, h]
theorem vr_tup0 (g : G) : VR g (.tup []) (.tuple #[]) := by simp only [VR]; exact ⟨[], rfl, by simp [VRL]⟩
theorem vrl1 {g : G} {x : V} {l : List Value} (h : VRL g [x] l) : ∃ v, l = [v] ∧ VR g x v := by
  match l, h with
  | [v], h => exact ⟨v, rfl, by simp only [VRL] at h; exact h.1⟩
  | [], h => simp [VRL] at h
  | _ :: _ :: _, h => simp [VRL] at h
theorem vrl2 {g : G} {x y : V} {l : List Value} (h : VRL g [x, y] l) : ∃ v u, l = [v, u] ∧ VR g x v ∧ VR g y u := by
  match l, h with
  | [v, u], h => simp only [VRL] at h; exact ⟨v, u, rfl, h.1, h.2.1⟩
  | [], h => simp [VRL] at h
  | [_], h => simp [VRL] at h
  | _ :: _ :: _ :: _, h => simp [VRL] at h
theorem vr_ptr_self {g : G} {s : St} {w : World} (_hI : Inv g s w) {o : Nat} {cp : Value} (h : VR g (.ptr o 1 0 0) cp) : VR g (.ptr o 1 0 0) cp := h
/-- copyCheck, of its two walks. -/
theorem cc_ok {P : Program} {gl : Nat → Option (List D)} {f : FuncId} {ty : TypeId} (hent : ∀ args w, (callFunc f args).run P w = .ok (.enter f args) w)
    (h1 : ∀ (b : Nat) (w : World), w.cell? ⟨b, 0, none⟩ = some (.pointer (some ⟨b, 0, none⟩)) → Calls P f #[.pointer (some ⟨b, 0, none⟩)] w fun e w' => e = .returned (.tuple #[]) ∧ w' = w)
    (h2 : ∀ (b : Nat) (w : World), w.cell? ⟨b, 0, none⟩ = some (.pointer none) → w.shape? b = some (ty, 2) → w.frozen? ⟨b, 0, none⟩ = false → Calls P f #[.pointer (some ⟨b, 0, none⟩)] w fun e w' => e = .returned (.tuple #[]) ∧ w' = w.setCell ⟨b, 0, none⟩ (.pointer (some ⟨b, 0, none⟩)))
    {args : List V} {s : St} {v : V} {s' : St} (h : pick (ccG ty args s) = some (v, s')) : InvokeOK P gl f args s v s' := by
  have hm := pick_some h
  unfold ccG at hm
  split at hm
  case h_2 => simp at hm
  rename_i o hw i j
  split at hm
  case h_2 => simp at hm
  rename_i a b tg hg
  split at hm
  · simp only [List.mem_cons, List.mem_nil_iff, or_false, Prod.mk.injEq] at hm
    obtain ⟨hc, rfl, rfl⟩ := hm
    obtain ⟨q1, q2, rfl, rfl, rfl⟩ := bOk_iff hc.symm
    refine CallsOK.invoke fun g w cargs hgl hI hargs => ?_
    obtain ⟨cp, rfl, hp⟩ := vrl1 hargs
    obtain ⟨r, c, fz, ca, cb, k1, k2, rfl, k4, k5, k6, k7, k8, k9, k10, k11, k12, k13, k14, k15⟩ := bld_open hI hp hg
    simp only [VR] at k11
    cases k11
    refine ⟨hent _ _, (h2 r.b w k9 (by rw [shape_blk k4, q1, k5, k7 q2]) (k15 0 (by omega))).mono fun e w' ⟨he, hw⟩ => ?_⟩
    subst he; subst hw
    refine ⟨_, rfl, g, vr_tup0 g, ?_⟩
    have := setCell_step (i := 0) (j := 0) (cells := [.d .nilp, b]) hI k1 hg k8 rfl hp rfl (by simp)
    simpa [splice] using this
  · rename_i o' hw' i' j'
    simp only [List.mem_cons, List.mem_nil_iff, or_false, Prod.mk.injEq, Bool.and_eq_true, eq_comm (a := true)] at hm
    obtain ⟨⟨⟨⟨⟨hc, q5⟩, q6⟩, q7⟩, q8⟩, rfl, rfl⟩ := hm
    obtain ⟨q1, q2, rfl, rfl, rfl⟩ := bOk_iff hc
    obtain rfl := nbeq_iff.1 q5
    obtain rfl := nbeq_iff.1 q6
    obtain rfl := nbeq_iff.1 q7
    obtain rfl := nbeq_iff.1 q8
    refine CallsOK.invoke fun g w cargs hgl hI hargs => ?_
    obtain ⟨cp, rfl, hp⟩ := vrl1 hargs
    obtain ⟨r, c, fz, ca, cb, k1, k2, rfl, k4, k5, k6, k7, k8, k9, k10, k11, k12, k13, k14, k15⟩ := bld_open hI hp hg
    have : ca = .pointer (some ⟨r.b, 0, none⟩) := by
      simp only [VR] at k11
      have := (k11.2.2.2 r k1).2 (by rw [k8.1]; rfl)
      simpa using this
    subst this
    refine ⟨hent _ _, (h1 r.b w k9).mono fun e w' ⟨he, hw⟩ => ?_⟩
    subst he; subst hw
    exact ⟨_, rfl, g, vr_tup0 g, .refl hI⟩
  · simp at hm
theorem setCell_alloc {w : World} {b k : Nat} {v : Value} {o : Go.Obj} (hb : b < w.heap.size) : (w.setCell ⟨b, k, none⟩ v).alloc o = (w.alloc o).setCell ⟨b, k, none⟩ v := by
  unfold World.setCell World.alloc
  congr 1
  apply Array.ext_getElem?
  intro i
  simp only [Array.getElem?_modify, Array.getElem?_push, Array.size_modify]
  by_cases hi : i = w.heap.size
  · subst hi
    rw [if_pos rfl, if_neg (by omega), if_pos rfl]
  · rw [if_neg hi, if_neg hi]
theorem cell1_setCell0 {w : World} {b : Nat} {v : Value} : (w.setCell ⟨b, 0, none⟩ v).cell? ⟨b, 1, none⟩ = w.cell? ⟨b, 1, none⟩ := by
  refine World.cell?_setCell_other _ _ _ _ (fun e => ?_)
  cases e
/-- Grow, of its two walks. -/
theorem grow_ok' {P : Program} {gl : Nat → Option (List D)} {f : FuncId} {ty bt : TypeId} (hent : ∀ args w, (callFunc f args).run P w = .ok (.enter f args) w)
    (h0 : ∀ (b : Nat) (w : World), w.cell? ⟨b, 0, none⟩ = some (.pointer none) → w.shape? b = some (ty, 2) → w.frozen? ⟨b, 0, none⟩ = false → (w.setCell ⟨b, 0, none⟩ (.pointer (some ⟨b, 0, none⟩))).cell? ⟨b, 1, none⟩ = some (.slice none 0 0) →
      Calls P f #[.pointer (some ⟨b, 0, none⟩), .int .i64 0] w fun e w' => e = .returned (.tuple #[]) ∧ ∃ k : Nat, w' = { w.setCell ⟨b, 0, none⟩ (.pointer (some ⟨b, 0, none⟩)) with drawn := (w.setCell ⟨b, 0, none⟩ (.pointer (some ⟨b, 0, none⟩))).drawn + k })
    (h1 : ∀ (b n : Nat) (w : World), 0 < n → n ≤ 1099511627776 → b < w.heap.size → w.cell? ⟨b, 0, none⟩ = some (.pointer none) → w.shape? b = some (ty, 2) → w.frozen? ⟨b, 0, none⟩ = false → (w.setCell ⟨b, 0, none⟩ (.pointer (some ⟨b, 0, none⟩))).cell? ⟨b, 1, none⟩ = some (.slice none 0 0) → (w.setCell ⟨b, 0, none⟩ (.pointer (some ⟨b, 0, none⟩))).frozen? ⟨b, 1, none⟩ = false →
      Calls P f #[.pointer (some ⟨b, 0, none⟩), .int .i64 n] w fun e w' => e = .returned (.tuple #[]) ∧ ∃ (cs : Array Value) (k : Nat), n ≤ cs.size ∧ w' = { ((w.setCell ⟨b, 0, none⟩ (.pointer (some ⟨b, 0, none⟩))).setCell ⟨b, 1, none⟩ (.slice (some ⟨w.heap.size, 0, none⟩) 0 cs.size)).alloc (.cells cs bt) with
        drawn := (((w.setCell ⟨b, 0, none⟩ (.pointer (some ⟨b, 0, none⟩))).setCell ⟨b, 1, none⟩ (.slice (some ⟨w.heap.size, 0, none⟩) 0 cs.size)).alloc (.cells cs bt)).drawn + k })
    {args : List V} {s : St} {v : V} {s' : St} (h : pick (growG ty bt args s) = some (v, s')) : InvokeOK P gl f args s v s' := by
  have hm := pick_some h
  unfold growG at hm
  split at hm
  case h_2 => simp at hm
  rename_i o hw i j n
  split at hm
  case h_2 => simp at hm
  rename_i tg hg
  simp only [List.mem_cons, List.mem_nil_iff, or_false, Prod.mk.injEq, Bool.and_eq_true, eq_comm (a := true), decide_eq_true_eq] at hm
  rcases hm with ⟨⟨rfl, hc⟩, rfl, rfl⟩ | ⟨⟨⟨hn0, hn⟩, hc⟩, rfl, rfl⟩
  · obtain ⟨q1, q2, rfl, rfl, rfl⟩ := bOk_iff hc
    refine CallsOK.invoke fun g w cargs hgl hI hargs => ?_
    obtain ⟨cp, cn, rfl, hp, hn⟩ := vrl2 hargs
    simp only [VR] at hn; cases hn
    obtain ⟨r, c, fz, ca, cb, k1, k2, rfl, k4, k5, k6, k7, k8, k9, k10, k11, k12, k13, k14, k15⟩ := bld_open hI hp hg
    simp only [VR] at k11 k12
    cases k11; subst k12
    refine ⟨hent _ _, (h0 r.b w k9 (by rw [shape_blk k4, q1, k5, k7 q2]) (k15 0 (by omega)) (by rw [cell1_setCell0]; exact k10)).mono fun e w' ⟨he, k, hw⟩ => ?_⟩
    subst he; subst hw
    refine ⟨_, rfl, g, vr_tup0 g, ?_⟩
    have := setCell_step (i := 0) (j := 0) (cells := [.d .nilp, .nils]) hI k1 hg k8 rfl hp rfl (by simp)
    simp only [Nat.zero_mul, Nat.zero_add] at this
    exact (by simpa [splice] using this : Step g s w g _ _).trans ((by simpa [splice] using this : Step g s w g _ _).inv.drewN k)
  · obtain ⟨q1, q2, rfl, rfl, rfl⟩ := bOk_iff hc
    refine CallsOK.invoke fun g w cargs hgl hI hargs => ?_
    obtain ⟨cp, cn, rfl, hp, hcn⟩ := vrl2 hargs
    simp only [VR] at hcn; cases hcn
    obtain ⟨m, rfl⟩ := Int.eq_ofNat_of_zero_le (Int.le_of_lt hn0)
    obtain ⟨r, c, fz, ca, cb, k1, k2, rfl, k4, k5, k6, k7, k8, k9, k10, k11, k12, k13, k14, k15⟩ := bld_open hI hp hg
    simp only [VR] at k11 k12
    cases k11; subst k12
    have hb : r.b < w.heap.size := (Array.getElem?_eq_some_iff.1 k4).1
    have st1 : Step g s w g (s.putAt o (.row [[.ptr o 1 0 0, .nils]] tg) ⟨o, 0, 0, 1⟩) (w.setCell ⟨r.b, 0, none⟩ (.pointer (some ⟨r.b, 0, none⟩))) := by
      have := setCell_step (i := 0) (j := 0) (cells := [.d .nilp, .nils]) hI k1 hg k8 rfl hp rfl (by simp)
      simpa [splice] using this
    refine ⟨hent _ _, (h1 r.b m w (by omega) (by unfold growMax at hn; omega) hb k9 (by rw [shape_blk k4, q1, k5, k7 q2]) (k15 0 (by omega)) (by rw [cell1_setCell0]; exact k10) (by
      rw [setCell_blk _ k4]
      have h4 := k15 1 (by omega)
      have hh : (w.putObj r.b (.cells (c.setIfInBounds 0 (.pointer (some ⟨r.b, 0, none⟩))) tg.ty fz)).heap[r.b]? = some (.cells (c.setIfInBounds 0 (.pointer (some ⟨r.b, 0, none⟩))) tg.ty fz) := World.putObj_heap_same hb
      simp only [World.frozen?, hh, k4] at h4 ⊢
      exact h4)).mono fun e w' ⟨he, cs, k, hcs, hw⟩ => ?_⟩
    subst he; subst hw
    generalize hw1 : w.setCell ⟨r.b, 0, none⟩ (.pointer (some ⟨r.b, 0, none⟩)) = w1 at st1 ⊢
    have hsz : w1.heap.size = w.heap.size := by subst hw1; simp
    rw [setCell_alloc (by omega)]
    -- the new row
    let r2 : ORec := ⟨w1.heap.size, cs.size, 1, 0⟩
    have st2 : Step g (s.putAt o (.row [[.ptr o 1 0 0, .nils]] tg) ⟨o, 0, 0, 1⟩) w1 (g.push r2) ((s.putAt o (.row [[.ptr o 1 0 0, .nils]] tg) ⟨o, 0, 0, 1⟩).push (.tok 0 1 bt)) (w1.alloc (.cells cs bt)) := by
      refine st1.inv.push (r := r2) (.alloc _ _) rfl rfl ?_
      refine ⟨rfl, by simp [r2], rfl, fun k _ => ?_, cs, ⟨bt, rfl⟩, (0, 0), heap_alloc_new w1 _, rfl, by simp [r2], fun k _ _ => by simp, .inl rfl⟩
      simp only [G.push]
      exact st1.inv.S_new (Nat.le_refl _) k
    have st12 := st1.trans st2
    have ho : (g.push r2).O o = some r := by
      simp only [G.push]
      rw [if_neg (by have := hI.dom o r k1; rw [hI.N]; omega)]; exact k1
    have hn1 : (s.putAt o (.row [[.ptr o 1 0 0, .nils]] tg) ⟨o, 0, 0, 1⟩).next = s.next := rfl
    have hlt : o < s.next := hI.dom o r k1
    have hg2 : hget ((s.putAt o (.row [[.ptr o 1 0 0, .nils]] tg) ⟨o, 0, 0, 1⟩).push (.tok 0 1 bt)).heap o = some (.row [[.ptr o 1 0 0, .nils]] tg) := by
      rw [hget_push (by rw [hn1]; omega)]
      exact hget_hset_same hg
    have hobj2 : ObjR (g.push r2) r (w1.alloc (.cells cs bt)) (.row [[.ptr o 1 0 0, .nils]] tg) := by
      rcases st12.inv.live o _ (by show o < s.next + 1; omega) hg2 with h | ⟨r', h3, h4⟩
      · exact absurd h (by
          simp only [VR] at hp
          exact hp.2.1)
      · rw [ho] at h3; cases h3; exact h4
    have hv : VR (g.push r2) (.os s.next []) (.slice (some ⟨w.heap.size, 0, none⟩) 0 cs.size) := by
      simp only [VR]
      refine ⟨by simp only [G.push]; rw [hI.N]; omega, fun hpd => by have := hI.pd _ hpd; omega, rfl, .sl false [] _ cs.size 0 0 0 (fun _ _ => undef) (by simp) (by simp) (by simp) (by simp) (by simp) (by simp), fun r' hr' => ?_⟩
      simp only [G.push] at hr'
      rw [if_pos hI.N.symm] at hr'
      cases hr'
      exact ⟨Nat.le_refl _, fun _ => ⟨cs.size, by simp [r2, hsz], by simp [r2]⟩⟩
    have st3 := setCell_step (i := 0) (j := 1) (cells := [.ptr o 1 0 0, .nils]) st12.inv ho hg2 hobj2 rfl hv rfl (by simp)
    simp only [Nat.zero_mul, Nat.zero_add] at st3
    have st4 := st12.trans (by simpa [splice] using st3 : Step (g.push r2) _ _ (g.push r2) (((s.putAt o (.row [[.ptr o 1 0 0, .nils]] tg) ⟨o, 0, 0, 1⟩).push (.tok 0 1 bt)).putAt o (.row [[.ptr o 1 0 0, .os s.next []]] tg) ⟨o, 0, 1, 1⟩) _)
    exact ⟨_, rfl, g.push r2, vr_tup0 _, st4.trans (st4.inv.drewN k)⟩
theorem ofBytes_get {l : List UInt8} {i : Nat} {x : UInt8} (h : l[i]? = some x) : (ofBytes l)[i]? = some [.int .u8 x.toNat] := by simp [ofBytes, h]
/-- String, of its walks. -/
theorem str_ok {P : Program} {gl : Nat → Option (List D)} {f : FuncId} {ty bt : TypeId} (hent : ∀ args w, (callFunc f args).run P w = .ok (.enter f args) w)
    (h0 : ∀ (b : Nat) (w : World), w.cell? ⟨b, 1, none⟩ = some (.slice none 0 0) → Calls P f #[.pointer (some ⟨b, 0, none⟩)] w fun e w' => e = .returned (.string ⟨#[]⟩) ∧ ∃ k : Nat, w' = { w with drawn := w.drawn + k })
    (h1 : ∀ (b : Nat) (l : List UInt8) (g cap : Nat) (cur : Array Value) (fz : Nat × Nat) (w : World), l ≠ [] → w.cell? ⟨b, 1, none⟩ = some (.slice (some ⟨g, 0, none⟩) l.length cap) → w.heap[g]? = some (.cells cur bt fz) → l.length ≤ cap → cap ≤ cur.size → l.length ≤ 9223372036854775807 →
      (∀ (j : Nat) (x : UInt8), l[j]? = some x → w.cell? ((⟨g, 0, none⟩ : Addr).add j) = some (.int .u8 x.toNat)) →
      Calls P f #[.pointer (some ⟨b, 0, none⟩)] w fun e w' => e = .returned (.string ⟨l.toArray⟩) ∧ ∃ k : Nat, w' = { w.freeze ⟨g, 0, none⟩ l.length with drawn := (w.freeze ⟨g, 0, none⟩ l.length).drawn + k })
    (h2 : ∀ (b g cap : Nat) (w : World), cap ≠ 0 → w.cell? ⟨b, 1, none⟩ = some (.slice (some ⟨g, 0, none⟩) 0 cap) → Calls P f #[.pointer (some ⟨b, 0, none⟩)] w fun e w' => e = .returned (.string ⟨#[]⟩) ∧ ∃ k : Nat, w' = { w with drawn := w.drawn + k })
    (h3 : ∀ (b g : Nat) (cur : Array Value) (fz : Nat × Nat) (w : World), b < w.heap.size → w.cell? ⟨b, 1, none⟩ = some (.slice (some ⟨g, 0, none⟩) 0 0) → w.heap[g]? = some (.cells cur bt fz) →
      Calls P f #[.pointer (some ⟨b, 0, none⟩)] w fun e w' => e = .returned (.string ⟨#[]⟩) ∧ ∃ k : Nat, w' = { w.alloc (.view ⟨g, 0, none⟩ bt) with drawn := (w.alloc (.view ⟨g, 0, none⟩ bt)).drawn + k })
    {args : List V} {s : St} {v : V} {s' : St} (h : pick (strG ty bt args s) = some (v, s')) : InvokeOK P gl f args s v s' := by
  have hm := pick_some h
  unfold strG at hm
  split at hm
  case h_2 => simp at hm
  rename_i o hw i j
  split at hm
  case h_2 => simp at hm
  rename_i a b tg hg
  split at hm
  · simp only [List.mem_cons, List.mem_nil_iff, or_false, Prod.mk.injEq, eq_comm (a := true)] at hm
    obtain ⟨hc, rfl, rfl⟩ := hm
    obtain ⟨q1, q2, rfl, rfl, rfl⟩ := bOk_iff hc
    refine CallsOK.invoke fun g w cargs hgl hI hargs => ?_
    obtain ⟨cp, rfl, hp⟩ := vrl1 hargs
    obtain ⟨r, c, fz, ca, cb, k1, k2, rfl, k4, k5, k6, k7, k8, k9, k10, k11, k12, k13, k14, k15⟩ := bld_open hI hp hg
    simp only [VR] at k12
    subst k12
    refine ⟨hent _ _, (h0 r.b w k10).mono fun e w' ⟨he, k, hw⟩ => ?_⟩
    subst he; subst hw
    exact ⟨_, rfl, g, by simp only [VR]; exact .str [], hI.drewN k⟩
  · rename_i o2 els
    split at hm
    case h_2 => simp at hm
    rename_i n e q hg2
    simp only [List.mem_cons, List.mem_nil_iff, or_false, Prod.mk.injEq, Bool.and_eq_true, eq_comm (a := true)] at hm
    obtain ⟨⟨⟨⟨⟨⟨hc, p1⟩, p2⟩, p3⟩, p4⟩, p5⟩, rfl, rfl⟩ := hm
    obtain ⟨q1, q2, rfl, rfl, rfl⟩ := bOk_iff hc
    obtain rfl := nbeq_iff.1 p1
    obtain rfl := nbeq_iff.1 p2
    obtain rfl := nbeq_iff.1 p3
    have p5 := ble_iff.1 p5
    obtain ⟨l, hl1, hl2⟩ := bytes_of_ok p4
    have hbd : bytesD els = l := by simp [bytesD, hl1]
    rw [hbd]
    refine CallsOK.invoke fun g w cargs hgl hI hargs => ?_
    obtain ⟨cp, rfl, hp⟩ := vrl1 hargs
    obtain ⟨r, c, fz, ca, cb, k1, k2, rfl, k4, k5, k6, k7, k8, k9, k10, k11, k12, k13, k14, k15⟩ := bld_open hI hp hg
    have k12' := k12
    simp only [VR] at k12
    obtain ⟨m1, m2, m3, m4, m5⟩ := k12
    obtain ⟨r2, hr2, hobj2⟩ : ∃ r2, g.O o2 = some r2 ∧ ObjR g r2 w (.tok els.length 1 q) := by
      rcases hI.live o2 _ (by rw [← hI.N]; exact m1) hg2 with h | h
      · exact absurd h m2
      · exact h
    obtain ⟨t1, t2, t3, t4, cc, T, fz2, t5, t6, t7, t8, t9⟩ := hobj2
    obtain ⟨T, rfl⟩ := T
    simp only at t5
    obtain ⟨cap, hcb, hcap⟩ := (m5 r2 hr2).2 t1.symm
    subst hcb
    rw [t3, Nat.mul_one] at hcap
    rw [t3, Nat.mul_one] at t7
    have hlen : els.length = l.length := by rw [hl2]; simp [ofBytes]
    have hb : r.b < w.heap.size := (Array.getElem?_eq_some_iff.1 k4).1
    have hvs : ∀ l : List UInt8, VR g (.d (.str l)) (.string ⟨l.toArray⟩) := fun l => by simp only [VR]; exact .str l
    by_cases hl0 : l = []
    · subst hl0
      have he0 : els.length = 0 := by rw [hlen]; rfl
      rw [he0] at k10
      by_cases hc0 : cap = 0
      · subst hc0
        refine ⟨hent _ _, (h3 r.b r2.b cc fz2 w hb k10 t5).mono fun e w' ⟨he, k, hw⟩ => ?_⟩
        subst he; subst hw
        exact ⟨_, rfl, g, hvs [], (hI.allocd _).trans ((hI.allocd _).inv.drewN k)⟩
      · refine ⟨hent _ _, (h2 r.b r2.b cap w hc0 k10).mono fun e w' ⟨he, k, hw⟩ => ?_⟩
        subst he; subst hw
        exact ⟨_, rfl, g, hvs [], hI.drewN k⟩
    · rw [hlen] at k10
      have hcell : ∀ (j : Nat) (x : UInt8), l[j]? = some x → w.cell? ((⟨r2.b, 0, none⟩ : Addr).add j) = some (.int .u8 x.toNat) := by
        intro j x hx
        cases m4 with
        | sl _ _ A c b off esz val hlenr hS hv hA hcc hcut =>
          have hne : els ≠ [] := by
            intro h; rw [h] at hlen; cases l with
            | nil => exact hl0 rfl
            | cons a l => simp at hlen
          have hA' := hA hne
          cases hA'
          have hrow : els[j]? = some [.int .u8 x.toNat] := by rw [hl2]; exact ofBytes_get hx
          have h1 := hS j _ hrow 0 _ rfl
          have h2 := hv j _ hrow 0 _ rfl
          have h3 := hlenr _ (List.mem_of_getElem? hrow)
          simp at h3
          subst h3
          cases hvl : val j 0 with
          | int k n =>
            rw [hvl] at h1 h2
            cases h2
            have := hI.S _ _ _ h1
            rw [addr_add]
            simpa using this
          | _ => rw [hvl] at h2; cases h2
      refine ⟨hent _ _, (h1 r.b l r2.b cap cc fz2 w hl0 k10 t5 (by omega) (by omega) (by unfold lenMax at p5; omega) hcell).mono fun e w' ⟨he, k, hw⟩ => ?_⟩
      subst he; subst hw
      have st := hI.freeze hr2 hg2 (k := l.length) (by rw [t3]; omega) m2
      exact ⟨_, rfl, g, hvs l, st.trans (st.inv.drewN k)⟩
  · simp at hm
/-- Clone: of an empty slice by its walk, of others by a contract. -/
theorem clone_ok {P : Program} {gl : Nat → Option (List D)} {f : FuncId} {mu : Bool} {ty : TypeId} {size : Nat} (hent : ∀ args w, (callFunc f args).run P w = .ok (.enter f args) w)
    (h0 : ∀ (A : Option Addr) (c : Nat) (w : World), Calls P f #[.slice A 0 c] w fun e w' => (∃ A', e = .returned (.slice A' 0 0)) ∧ ∃ k : Nat, w' = { w with drawn := w.drawn + k } ∨ ∃ o, w' = { w.alloc o with drawn := (w.alloc o).drawn + k })
    (h1 : ∀ (c : Bool) (x : List D) (els : List (List D)) (s : St), firstLen size (x :: els) = true → (x :: els).length ≤ lenMax → ∀ v s', pick (cloneG mu ty size [.d (.sl c (x :: els))] s) = some (v, s') → CallsOK P gl f [.d (.sl c (x :: els))] s v s')
    {args : List V} {s : St} {v : V} {s' : St} (h : pick (cloneG mu ty size args s) = some (v, s')) : InvokeOK P gl f args s v s' := by
  have hm := pick_some h
  have h' := h
  unfold cloneG at hm
  split at hm
  case h_2 => simp at hm
  rename_i c els
  cases els with
  | nil =>
    have key : v = .d (.sl true []) ∧ s' = s := by
      cases mu <;> simp [cloneG, pick] at h' <;> exact ⟨h'.1.symm, h'.2.symm⟩
    obtain ⟨rfl, rfl⟩ := key
    refine CallsOK.invoke fun g w cargs hgl hI hargs => ?_
    obtain ⟨cx, rfl, hx⟩ := vrl1 hargs
    simp only [VR] at hx
    cases hx with
    | sl _ _ A cc b off esz val hlen hS hv hA hc hcut =>
      refine ⟨hent _ _, (h0 A cc w).mono fun e w' ⟨⟨A', he⟩, k, hw⟩ => ?_⟩
      subst he
      have hr : VR g (.d (.sl true [])) (.slice A' 0 0) := by
        simp only [VR]; exact .sl true [] A' 0 0 0 0 (fun _ _ => undef) (by simp) (by simp) (by simp) (by simp) (by simp) (by simp)
      rcases hw with hw | ⟨o, hw⟩
      · subst hw; exact ⟨_, rfl, g, hr, hI.drewN k⟩
      · subst hw; exact ⟨_, rfl, g, hr, (hI.allocd _).trans ((hI.allocd _).inv.drewN k)⟩
  | cons x els =>
    have key : firstLen size (x :: els) = true ∧ (x :: els).length ≤ lenMax := by
      cases mu <;> simp only [cloneG, pick] at h' <;> (
        cases hq : (firstLen size (x :: els) && Nat.ble (x :: els).length lenMax) with
        | false => rw [hq] at h'; exact absurd (show (none : Option (V × St)) = some (v, s') from h') (by simp)
        | true => simp only [Bool.and_eq_true] at hq; exact ⟨hq.1, ble_iff.1 hq.2⟩)
    exact (h1 c x els s key.1 key.2 v s' h).invoke
/-! functions that the model answers -/
theorem ext_ok {P : Program} {gl : Nat → Option (List D)} {f : FuncId} {args : List V} {s : St} {d : D} (h : ∀ (g : G) (w : World) (cargs : List Value), Inv g s w → VRL g args cargs → ∃ cv k, (callFunc f ⟨cargs⟩).run P w = .ok (.value cv) { w with drawn := w.drawn + k } ∧ DR g.S d cv) : InvokeOK P gl f args s (.d d) s := by
  intro g w cargs hgl hI hargs
  obtain ⟨cv, k, h1, h2⟩ := h g w cargs hI hargs
  exact .inr ⟨cv, _, h1, g, by simp only [VR]; exact h2, hI.drewN k⟩
theorem idx_ok {P : Program} {gl : Nat → Option (List D)} {f : FuncId} (hf : ∀ args w, (callFunc f args).run P w = ((Extern.BytealgIndexByte.indexByte args).run P w).andThen fun v w' => .ok (.value v) w')
    {args : List V} {s : St} {v : V} {s' : St} (h : pick (idxG args s) = some (v, s')) : InvokeOK P gl f args s v s' := by
  have hm := pick_some h
  unfold idxG at hm
  split at hm
  case h_2 => simp at hm
  simp only [List.mem_cons, List.mem_nil_iff, or_false, Prod.mk.injEq, true_and] at hm
  obtain ⟨rfl, rfl⟩ := hm
  refine ext_ok fun g w cargs hI hargs => ?_
  obtain ⟨a, b, rfl, ha, hb⟩ := vrl2 hargs
  simp only [VR] at ha hb; cases ha; cases hb
  exact ⟨_, 0, by rw [hf, Lib.run_indexByteString]; rfl, .int _ _⟩
theorem cnt_ok {P : Program} {gl : Nat → Option (List D)} {f : FuncId} (hf : ∀ args w, (callFunc f args).run P w = ((Extern.BytealgCount.count args).run P w).andThen fun v w' => .ok (.value v) w')
    {args : List V} {s : St} {v : V} {s' : St} (h : pick (cntG args s) = some (v, s')) : InvokeOK P gl f args s v s' := by
  have hm := pick_some h
  unfold cntG at hm
  split at hm
  case h_2 => simp at hm
  simp only [List.mem_cons, List.mem_nil_iff, or_false, Prod.mk.injEq, true_and] at hm
  obtain ⟨rfl, rfl⟩ := hm
  refine ext_ok fun g w cargs hI hargs => ?_
  obtain ⟨a, b, rfl, ha, hb⟩ := vrl2 hargs
  simp only [VR] at ha hb; cases ha; cases hb
  exact ⟨_, 0, by rw [hf, Lib.run_countString]; rfl, .int _ _⟩
theorem cmp_ok {P : Program} {gl : Nat → Option (List D)} {f : FuncId} (hf : ∀ args w, (callFunc f args).run P w = ((Extern.BytealgCompare.compare args).run P w).andThen fun v w' => .ok (.value v) w')
    {args : List V} {s : St} {v : V} {s' : St} (h : pick (cmpG args s) = some (v, s')) : InvokeOK P gl f args s v s' := by
  have hm := pick_some h
  unfold cmpG at hm
  split at hm
  case h_2 => simp at hm
  simp only [List.mem_cons, List.mem_nil_iff, or_false, Prod.mk.injEq, true_and] at hm
  obtain ⟨rfl, rfl⟩ := hm
  refine ext_ok fun g w cargs hI hargs => ?_
  obtain ⟨a, b, rfl, ha, hb⟩ := vrl2 hargs
  simp only [VR] at ha hb; cases ha; cases hb
  exact ⟨_, 0, by rw [hf, Lib.run_compareString]; rfl, .int _ _⟩
end Go.Ev
/- Clone of a slice that is not empty, by the evaluator. -/
namespace Go.Ev
/-- What the evaluator makes of Clone's code. -/
def cloneTree (mu : Bool) (ty : TypeId) (size : Nat) (x : List D) (els : List (List D)) (s : St) : Option (V × St) :=
  chk (Nat.beq x.length size && Nat.ble 1 size) (chk (firstLen size ([] : List (List D)) && Nat.ble (0 + (match mu with | false => (x :: els).length | true => ((x :: els).map ds).length)) lenMax)
    (match mu with
      | false => brK (V.ltL s.next [.os s.next ([] ++ (x :: els))]) (some (.os s.next ([] ++ (x :: els)), s)) (some (.os s.next ([] ++ (x :: els)), s.push (.tok ([] ++ (x :: els)).length size ty)))
      | true => brK (V.ltL s.next [.ms (s.next + 1) 0 ((x :: els).map ds).length ((x :: els).map ds).length false]) (some (.ms (s.next + 1) 0 ((x :: els).map ds).length ((x :: els).map ds).length false, s))
          (some (.ms (s.next + 1) 0 ((x :: els).map ds).length ((x :: els).map ds).length false, (s.push (.row [] ⟨ty, false⟩)).push (.row ((x :: els).map ds) ⟨ty, true⟩)))))
theorem blt_self (n : Nat) : Nat.blt n n = false := by
  cases h : Nat.blt n n with
  | false => rfl
  | true => exact absurd (blt_iff.1 h) (Nat.lt_irrefl n)
theorem clone_run {P : Program} {F : EnvK} (hE : EnvOK P F.E) (hF : F.Fit) {f : FuncId} {mu : Bool} {ty : TypeId} {size : Nat} (hin : F.E.intr f = none) (hs : Nat.ble 1 size = true)
    (ht : ∀ (c : Bool) (x : List D) (els : List (List D)) (s : St), (evsK (V × St) F 40).call f [.d (.sl c (x :: els))] (fun v s => some (v, s)) s = cloneTree mu ty size x els s)
    (c : Bool) (x : List D) (els : List (List D)) (s : St) (h1 : firstLen size (x :: els) = true) (h2 : (x :: els).length ≤ lenMax) (v : V) (s' : St) (h : pick (cloneG mu ty size [.d (.sl c (x :: els))] s) = some (v, s')) : CallsOK P F.E.glob f [.d (.sl c (x :: els))] s v s' := by
  refine run_sound hE (n := 40) hin ?_
  refine (evsK_ref hF 40).call _ _ _ _ (fun _ _ _ h => h) _ _ ?_
  rw [ht]
  have h3 : Nat.beq x.length size = true := h1
  have h5 : (firstLen size (x :: els) && Nat.ble (x :: els).length lenMax) = true := by rw [h1, ble_iff.2 h2]; rfl
  have h6 : Nat.blt (s.next + 1) s.next = false := by
    cases h : Nat.blt (s.next + 1) s.next with
    | false => rfl
    | true => exact absurd (blt_iff.1 h) (by omega)
  unfold cloneTree
  cases mu with
  | false =>
    have h4 : Nat.ble (0 + (x :: els).length) lenMax = true := ble_iff.2 (by simpa using h2)
    simp only [h3, hs, h4, chk, firstLen, Bool.and_self]
    simp only [V.ltL, V.lt, blt_self, Bool.and_true, brK, List.nil_append]
    have : pick (cloneG false ty size [.d (.sl c (x :: els))] s) = some (.os s.next (x :: els), s.push (.tok (x :: els).length size ty)) := by
      show (bif Nat.beq (x :: els).length 0 then some (V.d (.sl true []), s) else (bif (firstLen size (x :: els) && Nat.ble (x :: els).length lenMax) then some (V.os s.next (x :: els), s.push (.tok (x :: els).length size ty)) else none)) = _
      rw [h5]; rfl
    rw [this] at h
    simpa using h
  | true =>
    have h4 : Nat.ble (0 + ((x :: els).map ds).length) lenMax = true := ble_iff.2 (by simpa using h2)
    simp only [h3, hs, h4, chk, firstLen, Bool.and_self]
    simp only [V.ltL, V.lt, h6, Bool.and_true, brK]
    have : pick (cloneG true ty size [.d (.sl c (x :: els))] s) = some (.ms (s.next + 1) 0 ((x :: els).map ds).length ((x :: els).map ds).length false, (s.push (.row [] ⟨ty, false⟩)).push (.row ((x :: els).map ds) ⟨ty, true⟩)) := by
      show (bif Nat.beq (x :: els).length 0 then some (V.d (.sl true []), s) else (bif (firstLen size (x :: els) && Nat.ble (x :: els).length lenMax) then some (V.ms (s.next + 1) 0 ((x :: els).map ds).length ((x :: els).map ds).length false, (s.push (.row [] ⟨ty, false⟩)).push (.row ((x :: els).map ds) ⟨ty, true⟩)) else none)) = _
      rw [h5]; rfl
    rw [this] at h
    exact h
end Go.Ev
/- Calls whose answers are kept: a table of arguments and results. -/
namespace Go.Ev
def eqB : List UInt8 → List UInt8 → Bool
  | [], [] => true
  | a :: x, b :: y => Nat.beq a.toNat b.toNat && eqB x y
  | _, _ => false
theorem eqB_eq : ∀ {x y : List UInt8}, eqB x y = true → x = y
  | [], [], _ => rfl
  | a :: x, b :: y, h => by
    simp only [eqB, Bool.and_eq_true] at h
    rw [eqB_eq h.2, UInt8.toNat_inj.1 (nbeq_iff.1 h.1)]
  | [], _ :: _, h => by simp [eqB] at h
  | _ :: _, [], h => by simp [eqB] at h
def eqI : Int → Int → Bool
  | .ofNat a, .ofNat b => Nat.beq a b
  | .negSucc a, .negSucc b => Nat.beq a b
  | _, _ => false
theorem eqI_eq : ∀ {x y : Int}, eqI x y = true → x = y
  | .ofNat a, .ofNat b, h => by rw [nbeq_iff.1 (show Nat.beq a b = true from h)]
  | .negSucc a, .negSucc b, h => by rw [nbeq_iff.1 (show Nat.beq a b = true from h)]
  | .ofNat _, .negSucc _, h => by simp [eqI] at h
  | .negSucc _, .ofNat _, h => by simp [eqI] at h
def eqBool : Bool → Bool → Bool
  | true, true | false, false => true
  | _, _ => false
theorem eqBool_eq {x y : Bool} (h : eqBool x y = true) : x = y := by cases x <;> cases y <;> simp_all [eqBool]
mutual
def eqD : D → D → Bool
  | .int k a, .int k' b => kindIs k' k && eqI a b
  | .bool a, .bool b => eqBool a b
  | .str a, .str b => eqB a b
  | .sl c x, .sl c' y => eqBool c c' && eqDss x y
  | .nilp, .nilp | .nilf, .nilf | .nilif, .nilif | .nilmap, .nilmap => true
  | _, _ => false
def eqDs : List D → List D → Bool
  | [], [] => true
  | a :: x, b :: y => eqD a b && eqDs x y
  | _, _ => false
def eqDss : List (List D) → List (List D) → Bool
  | [], [] => true
  | a :: x, b :: y => eqDs a b && eqDss x y
  | _, _ => false
end
mutual
theorem eqD_eq : ∀ {x y : D}, eqD x y = true → x = y
  | .int k a, y, h => by
    cases y <;> simp only [eqD] at h <;> first | (cases h; done) | skip
    simp only [Bool.and_eq_true] at h
    rw [kindIs_eq h.1, eqI_eq h.2]
  | .bool a, y, h => by
    cases y <;> simp only [eqD] at h <;> first | (cases h; done) | skip
    rw [eqBool_eq h]
  | .str a, y, h => by
    cases y <;> simp only [eqD] at h <;> first | (cases h; done) | skip
    rw [eqB_eq h]
  | .sl c x, y, h => by
    cases y <;> simp only [eqD] at h <;> first | (cases h; done) | skip
    simp only [Bool.and_eq_true] at h
    rw [eqBool_eq h.1, eqDss_eq h.2]
  | .nilp, y, h => by cases y <;> simp only [eqD] at h <;> first | (cases h; done) | rfl
  | .nilf, y, h => by cases y <;> simp only [eqD] at h <;> first | (cases h; done) | rfl
  | .nilif, y, h => by cases y <;> simp only [eqD] at h <;> first | (cases h; done) | rfl
  | .nilmap, y, h => by cases y <;> simp only [eqD] at h <;> first | (cases h; done) | rfl
theorem eqDs_eq : ∀ {x y : List D}, eqDs x y = true → x = y
  | [], [], _ => rfl
  | a :: x, b :: y, h => by
    simp only [eqDs, Bool.and_eq_true] at h
    rw [eqD_eq h.1, eqDs_eq h.2]
  | [], _ :: _, h => by simp [eqDs] at h
  | _ :: _, [], h => by simp [eqDs] at h
theorem eqDss_eq : ∀ {x y : List (List D)}, eqDss x y = true → x = y
  | [], [], _ => rfl
  | a :: x, b :: y, h => by
    simp only [eqDss, Bool.and_eq_true] at h
    rw [eqDs_eq h.1, eqDss_eq h.2]
  | [], _ :: _, h => by simp [eqDss] at h
  | _ :: _, [], h => by simp [eqDss] at h
end
/-- Plain values: data, structs and rows of results of data. -/
inductive Pl where
  | d (d : D)
  | agg (l : List D)
  | tup (l : List Pl)
mutual
def Pl.v : Pl → V
  | .d x => .d x
  | .agg l => .agg (ds l)
  | .tup l => .tup (Pl.vs l)
def Pl.vs : List Pl → List V
  | [] => []
  | p :: l => p.v :: Pl.vs l
end
def eqA : List D → List V → Bool
  | [], [] => true
  | x :: l, .d y :: r => eqD y x && eqA l r
  | _, _ => false
theorem eqA_eq : ∀ {l : List D} {r : List V}, eqA l r = true → r = ds l
  | [], [], _ => rfl
  | x :: l, y :: r, h => by
    cases y <;> simp only [eqA] at h <;> first | (cases h; done) | skip
    simp only [Bool.and_eq_true] at h
    rw [eqD_eq h.1, eqA_eq h.2]; rfl
  | [], _ :: _, h => by simp [eqA] at h
  | _ :: _, [], h => by simp [eqA] at h
def eqP : Pl → V → Bool
  | .d x, .d y => eqD y x
  | .agg l, .agg r => eqA l r
  | _, _ => false
theorem eqP_eq {p : Pl} {v : V} (h : eqP p v = true) : v = p.v := by
  unfold eqP at h
  split at h
  · rw [eqD_eq h, Pl.v]
  · rw [eqA_eq h, Pl.v]
  · cases h
def eqPs : List Pl → List V → Bool
  | [], [] => true
  | p :: l, v :: r => eqP p v && eqPs l r
  | _, _ => false
theorem eqPs_eq : ∀ {l : List Pl} {r : List V}, eqPs l r = true → r = Pl.vs l
  | [], [], _ => by rw [Pl.vs]
  | p :: l, v :: r, h => by
    simp only [eqPs, Bool.and_eq_true] at h
    rw [eqP_eq h.1, eqPs_eq h.2, Pl.vs]
  | [], _ :: _, h => by simp [eqPs] at h
  | _ :: _, [], h => by simp [eqPs] at h
def eqR : Pl → V → Bool
  | .tup l, .tup r => eqPs l r
  | p, v => eqP p v
theorem eqR_eq {p : Pl} {v : V} (h : eqR p v = true) : v = p.v := by
  unfold eqR at h
  split at h
  · rw [eqPs_eq h, Pl.v]
  · exact eqP_eq h
theorem ds_lt : ∀ l : List D, V.ltL 0 (ds l) = true
  | [] => rfl
  | x :: l => by have := ds_lt l; simp only [ds] at this; simp [ds, V.ltL, V.lt, this]
mutual
theorem Pl.lt : ∀ p : Pl, V.lt 0 p.v = true
  | .d _ => by simp only [Pl.v, V.lt]
  | .agg l => by simp only [Pl.v, V.lt]; exact ds_lt l
  | .tup l => by simp only [Pl.v, V.lt]; exact Pl.ltL l
theorem Pl.ltL : ∀ l : List Pl, V.ltL 0 (Pl.vs l) = true
  | [] => by simp only [Pl.vs, V.ltL]
  | p :: l => by simp only [Pl.vs, V.ltL, Bool.and_eq_true]; exact ⟨Pl.lt p, Pl.ltL l⟩
end
abbrev Memo := List (List Pl × Pl)
def memoAlts (args : List V) (s : St) : Memo → List (Bool × V × St)
  | [] => []
  | (a, v) :: l => (eqPs a args, v.v, s) :: memoAlts args s l
def memoG (l : Memo) : Alts := fun args s => memoAlts args s l
noncomputable def memoRun (F : EnvK) (n : Nat) (f : FuncId) : Memo → Bool
  | [] => true
  | (a, v) :: l => (match runK F n f (Pl.vs a) with | some (u, _) => eqR v u | none => false) && memoRun F n f l
theorem memo_ok {P : Program} {F : EnvK} (hE : EnvOK P F.E) (hF : F.Fit) {n : Nat} {f : FuncId} (hf : F.E.intr f = none) : ∀ {l : Memo}, memoRun F n f l = true → ∀ args s v s', pick (memoG l args s) = some (v, s') → InvokeOK P F.E.glob f args s v s'
  | [], _, args, s, v, s', h => by simp [memoG, memoAlts, pick] at h
  | (a, u) :: l, hr, args, s, v, s', h => by
    simp only [memoRun, Bool.and_eq_true] at hr
    simp only [memoG, memoAlts, pick] at h
    cases hq : eqPs a args with
    | true =>
      simp only [hq, cond_true, Option.some.injEq, Prod.mk.injEq] at h
      obtain ⟨rfl, rfl⟩ := h
      have := eqPs_eq hq
      subst this
      have h1 := hr.1
      split at h1
      · rename_i w sx hrun
        have := eqR_eq h1
        subst this
        exact (contract hE hf (runK_run hF hrun) (Pl.ltL a) (Pl.lt u) s).invoke
      · cases h1
    | false =>
      simp only [hq, cond_false] at h
      exact memo_ok hE hF hf hr.2 args s v s' h
end Go.Ev
/- The evaluator, step by step. -/
namespace Go.Ev
section
variable {R : Type} {F : EnvK} {n : Nat} {f : FuncId} {t : Tm} {s : St}
noncomputable def kont (F : EnvK) (f : FuncId) (fi : FInfo) (s : St) (K : V → St → Option R) : Kt R := fun ex t s1 => match ex with
  | .exit _ => none
  | .norm => finishK F.E f fi s t s1 K
  | .ret => finishK F.E f fi s t s1 K
theorem call_eq {args : List V} {K : V → St → Option R} {fi : FInfo} (hg : F.gk f = none) (hfi : F.E.fi f = some fi) (hle : Nat.ble args.length fi.ntmps = true) :
    (evsK R F (n + 1)).call f args K s = (evsK R F n).code f fi.body (kont F f fi s K) (Tm.putL args 0 (Tm.empty fi.ntmps)) s.fresh := by
  show callStepK F (evsK R F n) f args K s = _
  unfold callStepK
  simp only [hg, hfi, hle]
  rw [Tm.setL_eq]
  rfl
theorem seq_eq {a b : Code} {K : Kt R} : (evsK R F (n + 1)).code f (.seq a b) K t s = (evsK R F n).code f a (fun ex t s => match ex with | .norm => (evsK R F n).code f b K t s | e => K e t s) t s := rfl
end
def fstC : Code → Code
  | .seq a _ => a
  | c => c
def sndC : Code → Code
  | .seq _ b => b
  | c => c
end Go.Ev
