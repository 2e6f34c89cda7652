/- Part CoH of the kept evaluator and its soundness; what each piece says stands ahead of it. No condition. -/
import Derived.Test.YtelhpneeiebeeaaGreatDoorCoF
/- The evaluator once more: every test ahead of what follows it, loads by their types. What it gives, the evaluator gives. -/
namespace Go.Ev
/-- Cases: the first that holds. -/
def pick : List (Bool × V × St) → Option (V × St)
  | [] => none
  | (c, v, s) :: r => bif c then some (v, s) else pick r
theorem pick_some {l : List (Bool × V × St)} {v : V} {s : St} (h : pick l = some (v, s)) : (true, v, s) ∈ l := by
  induction l with
  | nil => cases h
  | cons a l ih =>
    obtain ⟨c, u, s0⟩ := a
    cases c with
    | true => simp only [pick, cond_true, Option.some.injEq, Prod.mk.injEq] at h; obtain ⟨rfl, rfl⟩ := h; simp
    | false => simp only [pick, cond_false] at h; exact List.mem_cons_of_mem _ (ih h)
abbrev Alts := List V → St → List (Bool × V × St)
section
variable {R : Type}
/-! combinators: each gives nothing where its look fails -/
def brK (b : Bool) (A B : Option R) : Option R := match b with | true => A | false => B
def chk (b : Bool) (A : Option R) : Option R := match b with | true => A | false => none
def optK {α : Type} (o : Option α) (A : α → Option R) : Option R := match o with | some x => A x | none => none
def strD (d : D) (A : List UInt8 → Option R) : Option R := match d with | .str l => A l | _ => none
def kindIs (k k' : IntKind) : Bool := match k, k' with
  | .i8, .i8 | .i16, .i16 | .i32, .i32 | .i64, .i64 | .u8, .u8 | .u16, .u16 | .u32, .u32 | .u64, .u64 => true
  | _, _ => false
def intD (k : IntKind) (d : D) (A : Int → Option R) : Option R := match d with | .int k' n => (match kindIs k k' with | true => A n | false => none) | _ => none
def boolD (d : D) (A : Bool → Option R) : Option R := match d with | .bool b => A b | _ => none
def slD (d : D) (A : Bool → List (List D) → Option R) : Option R := match d with | .sl c els => A c els | _ => none
def consD (r : List D) (A : D → List D → Option R) : Option R := match r with | d :: r => A d r | [] => none
def consV (r : List V) (A : V → List V → Option R) : Option R := match r with | d :: r => A d r | [] => none
def plainV (v : V) (A : D → Option R) : Option R := match v with | .d d => A d | _ => none
theorem kindIs_eq {k k' : IntKind} (h : kindIs k k' = true) : k' = k := by cases k <;> cases k' <;> first | rfl | cases h
theorem brK_some {b : Bool} {A B : Option R} {r : R} (h : brK b A B = some r) : (b = true ∧ A = some r) ∨ (b = false ∧ B = some r) := by cases b <;> simp_all [brK]
theorem chk_some {b : Bool} {A : Option R} {r : R} (h : chk b A = some r) : b = true ∧ A = some r := by cases b <;> simp_all [chk]
theorem optK_some {α : Type} {o : Option α} {A : α → Option R} {r : R} (h : optK o A = some r) : ∃ x, o = some x ∧ A x = some r := by cases o <;> simp_all [optK]
theorem strD_some {d : D} {A : List UInt8 → Option R} {r : R} (h : strD d A = some r) : ∃ l, d = .str l ∧ A l = some r := by cases d <;> simp_all [strD]
theorem intD_some {k : IntKind} {d : D} {A : Int → Option R} {r : R} (h : intD k d A = some r) : ∃ n, d = .int k n ∧ A n = some r := by
  cases d <;> simp only [intD] at h <;> try (cases h; done)
  rename_i k' n
  split at h
  · rename_i hk; exact ⟨n, by rw [kindIs_eq hk], h⟩
  · cases h
theorem boolD_some {d : D} {A : Bool → Option R} {r : R} (h : boolD d A = some r) : ∃ b, d = .bool b ∧ A b = some r := by cases d <;> simp_all [boolD]
theorem slD_some {d : D} {A : Bool → List (List D) → Option R} {r : R} (h : slD d A = some r) : ∃ c els, d = .sl c els ∧ A c els = some r := by
  cases d <;> first | exact ⟨_, _, rfl, h⟩ | cases h
theorem consD_some {l : List D} {A : D → List D → Option R} {r : R} (h : consD l A = some r) : ∃ d l', l = d :: l' ∧ A d l' = some r := by cases l <;> first | exact ⟨_, _, rfl, h⟩ | cases h
theorem consV_some {l : List V} {A : V → List V → Option R} {r : R} (h : consV l A = some r) : ∃ d l', l = d :: l' ∧ A d l' = some r := by cases l <;> first | exact ⟨_, _, rfl, h⟩ | cases h
theorem plainV_some {v : V} {A : D → Option R} {r : R} (h : plainV v A = some r) : ∃ d, v = .d d ∧ A d = some r := by cases v <;> simp_all [plainV]

/-! typed cells -/
def cellD (z : V) (d : D) (A : V → Option R) : Option R := match z with
  | .d (.int k _) => intD k d fun n => A (.d (.int k n))
  | .d (.bool _) => boolD d fun b => A (.d (.bool b))
  | .d (.str _) => strD d fun l => A (.d (.str l))
  | .d (.sl _ _) => slD d fun c e => A (.d (.sl c e))
  | .nils => slD d fun c e => A (.d (.sl c e))
  | _ => A (.d d)
theorem cellD_some {z : V} {d : D} {A : V → Option R} {r : R} (h : cellD z d A = some r) : A (.d d) = some r := by
  unfold cellD at h
  split at h
  · obtain ⟨n, rfl, h2⟩ := intD_some h; exact h2
  · obtain ⟨n, rfl, h2⟩ := boolD_some h; exact h2
  · obtain ⟨n, rfl, h2⟩ := strD_some h; exact h2
  · obtain ⟨c, e, rfl, h2⟩ := slD_some h; exact h2
  · obtain ⟨c, e, rfl, h2⟩ := slD_some h; exact h2
  · exact h
def cellsD : List V → List D → (List V → Option R) → Option R
  | [], _, A => A []
  | z :: zs, r, A => consD r fun d r => cellD z d fun v => cellsD zs r fun vs => A (v :: vs)
theorem cellsD_some : ∀ {zs : List V} {l : List D} {A : List V → Option R} {r : R}, cellsD zs l A = some r → zs.length ≤ l.length ∧ A (ds (l.take zs.length)) = some r
  | [], l, A, r, h => ⟨Nat.zero_le _, by simpa [cellsD, ds] using h⟩
  | z :: zs, l, A, r, h => by
    simp only [cellsD] at h
    obtain ⟨d, l', rfl, h0⟩ := consD_some h
    obtain ⟨h1, h2⟩ := cellsD_some (cellD_some h0)
    exact ⟨by simpa using h1, by simpa [ds] using h2⟩
/-- A cell of what may be written: only what is data by its type is looked at. -/
def cellV (z : V) (v : V) (A : V → Option R) : Option R := match z with
  | .d (.int k _) => plainV v fun d => intD k d fun n => A (.d (.int k n))
  | .d (.bool _) => plainV v fun d => boolD d fun b => A (.d (.bool b))
  | .d (.str _) => plainV v fun d => strD d fun l => A (.d (.str l))
  | _ => A v
theorem cellV_some {z : V} {v : V} {A : V → Option R} {r : R} (h : cellV z v A = some r) : A v = some r := by
  unfold cellV at h
  split at h
  · obtain ⟨d, rfl, h2⟩ := plainV_some h; obtain ⟨n, rfl, h3⟩ := intD_some h2; exact h3
  · obtain ⟨d, rfl, h2⟩ := plainV_some h; obtain ⟨n, rfl, h3⟩ := boolD_some h2; exact h3
  · obtain ⟨d, rfl, h2⟩ := plainV_some h; obtain ⟨n, rfl, h3⟩ := strD_some h2; exact h3
  · exact h
def cellsV : List V → List V → (List V → Option R) → Option R
  | [], _, A => A []
  | z :: zs, r, A => consV r fun d r => cellV z d fun v => cellsV zs r fun vs => A (v :: vs)
theorem cellsV_some : ∀ {zs : List V} {l : List V} {A : List V → Option R} {r : R}, cellsV zs l A = some r → zs.length ≤ l.length ∧ A (l.take zs.length) = some r
  | [], l, A, r, h => ⟨Nat.zero_le _, by simpa [cellsV] using h⟩
  | z :: zs, l, A, r, h => by
    simp only [cellsV] at h
    obtain ⟨d, l', rfl, h0⟩ := consV_some h
    obtain ⟨h1, h2⟩ := cellsV_some (cellV_some h0)
    exact ⟨by simpa using h1, by simpa using h2⟩
/-- A load's value out of its cells. -/
def wholeK (i : TInfo) (vs : List V) (A : V → Option R) : Option R := match i.isAgg with
  | true => A (.agg vs)
  | false => (match vs with | [v] => (match v.one with | true => A v | false => none) | _ => none)
theorem wholeK_some {i : TInfo} {l vs : List V} {A : V → Option R} {r : R} (h : wholeK i vs A = some r) (hs : i.zero.length = i.size) (hv : vs = l.take i.zero.length) (hl : i.zero.length ≤ l.length) : ∃ v, takeV i.isAgg i.size l = some v ∧ A v = some r := by
  unfold wholeK at h
  unfold takeV
  split at h
  · rename_i ha
    refine ⟨_, ?_, h⟩
    rw [ha, ble_iff.2 (by omega), hv, hs]; rfl
  · rename_i ha
    split at h
    · rename_i v
      split at h
      · rename_i h1
        refine ⟨v, ?_, h⟩
        rw [ha]
        cases l with
        | nil => simp at hv
        | cons x xs =>
          have : x = v := by
            cases hz : i.zero.length with
            | zero => rw [hz] at hv; simp at hv
            | succ n => rw [hz] at hv; simp at hv; exact hv.1.symm
          subst this
          simp [h1]
      · cases h
    · cases h
def rowAtK (s : St) (o hw i : Nat) (A : List V → Option R) : Option R :=
  match hget s.heap o with
  | some (.row els _) => chk (Nat.beq els.length hw) (optK els[i]? A)
  | _ => none
theorem rowAtK_some {s : St} {o hw i : Nat} {A : List V → Option R} {r : R} (h : rowAtK s o hw i A = some r) : ∃ x, rowAt? s o hw i = some x ∧ A x = some r := by
  unfold rowAtK at h
  split at h
  · rename_i els t hg
    obtain ⟨h1, h⟩ := chk_some h
    obtain ⟨x, h2, h⟩ := optK_some h
    exact ⟨x, by simp [rowAt?, hg, h1, h2], h⟩
  · cases h
def loadK (i : TInfo) (p : V) (s : St) (A : V → Option R) : Option R := match Nat.beq i.zero.length i.size with
  | false => none
  | true => (match p with
    | .ptr o hw e j => rowAtK s o hw e fun cells => cellsV i.zero (cells.drop j) fun vs => wholeK i vs A
    | .rp cells => cellsD i.zero cells fun vs => wholeK i vs A
    | _ => none)
theorem loadK_some {i : TInfo} {p : V} {s : St} {A : V → Option R} {r : R} (h : loadK i p s A = some r) : ∃ v, load i p s = some v ∧ A v = some r := by
  unfold loadK at h
  split at h
  · cases h
  · rename_i hz
    have hz := nbeq_iff.1 hz
    unfold load
    split at h
    · obtain ⟨x, h1, h⟩ := rowAtK_some h
      obtain ⟨h2, h⟩ := cellsV_some h
      obtain ⟨v, h3, h4⟩ := wholeK_some h hz rfl h2
      exact ⟨v, by simp [h1, h3], h4⟩
    · rename_i cells
      obtain ⟨h2, h⟩ := cellsD_some h
      obtain ⟨v, h3, h4⟩ := wholeK_some (l := ds cells) h hz (by simp [ds, List.map_take]) (by simpa [ds] using h2)
      exact ⟨v, h3, h4⟩
    · cases h
def storeK (i : TInfo) (p x : V) (s : St) (A : St → Option R) : Option R := match p with
  | .ptr o hw e j => (match Nat.beq x.cells.length i.size && allOne x.cells with
    | true => (match hget s.heap o with
      | some (.row els opn) => chk (Nat.beq els.length hw) (optK els[e]? fun cells =>
          brK (Nat.beq j 0 && Nat.beq cells.length x.cells.length) (A (s.putAt o (.row (els.set e x.cells) opn) ⟨o, e, j, x.cells.length⟩))
            (chk (Nat.ble (j + x.cells.length) cells.length) (A (s.putAt o (.row (els.set e (splice cells j x.cells)) opn) ⟨o, e, j, x.cells.length⟩))))
      | _ => none)
    | false => none)
  | _ => none
theorem storeK_some {i : TInfo} {p x : V} {s : St} {A : St → Option R} {r : R} (h : storeK i p x s A = some r) : ∃ s', store i p x s = some s' ∧ A s' = some r := by
  unfold storeK at h
  split at h
  · split at h
    · rename_i hc
      split at h
      · rename_i els opn hg
        obtain ⟨h1, h⟩ := chk_some h
        obtain ⟨cells, h2, h⟩ := optK_some h
        rcases brK_some h with ⟨h3, h⟩ | ⟨_, h⟩
        · refine ⟨_, ?_, h⟩
          simp only [Bool.and_eq_true] at h3
          have h4 := nbeq_iff.1 h3.1
          have h5 := nbeq_iff.1 h3.2
          subst h4
          simp only [store, hc, cond_true, setRow, hg, h1, h2, Nat.zero_add, ble_iff.2 (Nat.le_of_eq h5.symm)]
          simp [splice, ← h5]
        · obtain ⟨h3, h⟩ := chk_some h
          refine ⟨_, ?_, h⟩
          simp [store, hc, setRow, hg, h1, h2, h3]
      · cases h
    · cases h
  · cases h

/-! numbers, texts -/
def binIntK (op : BinOp) (k : IntKind) (x y : Int) (A : V → Option R) : Option R :=
  match op with
  | .add => A (.d (.int k (k.wrap (x + y))))
  | .sub => A (.d (.int k (k.wrap (x - y))))
  | .mul => A (.d (.int k (k.wrap (x * y))))
  | .quo => brK (decide (y = 0)) none (A (.d (.int k (k.wrap (x.tdiv y)))))
  | .rem => brK (decide (y = 0)) none (A (.d (.int k (x.tmod y))))
  | .and => A (.d (.int k (k.wrap (BitVec.ofInt k.bits x &&& BitVec.ofInt k.bits y).toNat)))
  | .or => A (.d (.int k (k.wrap (BitVec.ofInt k.bits x ||| BitVec.ofInt k.bits y).toNat)))
  | .xor => A (.d (.int k (k.wrap (BitVec.ofInt k.bits x ^^^ BitVec.ofInt k.bits y).toNat)))
  | .andNot => A (.d (.int k (k.wrap (BitVec.ofInt k.bits x &&& ~~~ BitVec.ofInt k.bits y).toNat)))
  | .eql => A (.d (.bool (decide (x = y))))
  | .neq => A (.d (.bool (!decide (x = y))))
  | .lss => A (.d (.bool (decide (x < y))))
  | .leq => A (.d (.bool (decide (x ≤ y))))
  | .gtr => A (.d (.bool (decide (y < x))))
  | .geq => A (.d (.bool (decide (y ≤ x))))
  | _ => none
theorem binIntK_some {op : BinOp} {k : IntKind} {x y : Int} {A : V → Option R} {r : R} (h : binIntK op k x y A = some r) : ∃ d, binInt op k x y = some d ∧ A (.d d) = some r := by
  cases op <;> simp only [binIntK] at h <;> first
    | (refine ⟨_, rfl, h⟩; done)
    | (rcases brK_some h with ⟨_, h⟩ | ⟨h1, h⟩
       · cases h
       · have h1 : ¬ y = 0 := by simpa using h1
         exact ⟨_, by simp only [binInt]; rw [if_neg h1], h⟩)
    | (cases h)
def shiftIntK (op : BinOp) (k : IntKind) (x y : Int) (A : V → Option R) : Option R :=
  brK (decide (y < 0)) none (match op with
  | .shl => A (.d (.int k (k.wrap (x * 2 ^ min y.toNat k.bits))))
  | .shr => A (.d (.int k (x.fdiv (2 ^ min y.toNat k.bits))))
  | _ => none)
theorem shiftIntK_some {op : BinOp} {k : IntKind} {x y : Int} {A : V → Option R} {r : R} (h : shiftIntK op k x y A = some r) : ∃ d, shiftInt op k x y = some d ∧ A (.d d) = some r := by
  unfold shiftIntK at h
  rcases brK_some h with ⟨_, h⟩ | ⟨h1, h⟩
  · cases h
  · have h1 : ¬ y < 0 := by simpa using h1
    cases op <;> first | (cases h; done) | exact ⟨_, by simp only [shiftInt]; rw [if_neg h1], h⟩
def binStrK (op : BinOp) (x y : List UInt8) (A : V → Option R) : Option R :=
  match op with
  | .add => chk (Nat.ble (x.length + y.length) strMax) (A (.d (.str (x ++ y))))
  | .eql => A (.d (.bool (x == y)))
  | .neq => A (.d (.bool (!(x == y))))
  | .lss => A (.d (.bool (bless x y)))
  | .leq => A (.d (.bool (bless x y || x == y)))
  | .gtr => A (.d (.bool (!(bless x y || x == y))))
  | .geq => A (.d (.bool (!bless x y)))
  | _ => none
theorem binStrK_some {op : BinOp} {x y : List UInt8} {A : V → Option R} {r : R} (h : binStrK op x y A = some r) : ∃ d, binStr op x y = some d ∧ A (.d d) = some r := by
  cases op <;> simp only [binStrK] at h <;> first
    | (refine ⟨_, rfl, h⟩; done)
    | (obtain ⟨h1, h⟩ := chk_some h
       exact ⟨_, by simp only [binStr]; rw [h1]; rfl, h⟩)
    | (cases h)
def binOpK (E : Env) (op : BinOp) (t : TypeId) (c : Bool) (x y : V) (s : St) (A : V → Option R) : Option R :=
  match x, y with
  | .d (.int k a), .d (.int k' b) => (match op with
    | .shl => shiftIntK op k a b A
    | .shr => shiftIntK op k a b A
    | _ => (match kindIs k' k with | true => binIntK op k a b A | false => none))
  | .d (.str a), .d (.str b) => binStrK op a b A
  | x, y => (match op with
    | .eql => optK (eqV E t c s x y) fun b => A (.d (.bool b))
    | .neq => optK (eqV E t c s x y) fun b => A (.d (.bool (!b)))
    | _ => none)
theorem binOpK_some {E : Env} {op : BinOp} {t : TypeId} {c : Bool} {x y : V} {s : St} {A : V → Option R} {r : R} (h : binOpK E op t c x y s A = some r) : ∃ v, binOp E op t c x y s = some v ∧ A v = some r := by
  unfold binOpK at h
  split at h
  · rename_i k a k' b
    split at h
    · obtain ⟨d, h1, h⟩ := shiftIntK_some h
      exact ⟨_, by simp [binOp, h1], h⟩
    · obtain ⟨d, h1, h⟩ := shiftIntK_some h
      exact ⟨_, by simp [binOp, h1], h⟩
    · rename_i h2 h3
      split at h
      · rename_i hk
        obtain ⟨d, h1, h⟩ := binIntK_some h
        refine ⟨_, ?_, h⟩
        have := kindIs_eq hk
        subst this
        cases op <;> first | exact (h2 rfl).elim | exact (h3 rfl).elim | simp [binOp, h1]
      · cases h
  · obtain ⟨d, h1, h⟩ := binStrK_some h
    exact ⟨_, by simp [binOp, h1], h⟩
  · rename_i n1 n2
    split at h
    · obtain ⟨b, h1, h⟩ := optK_some h
      refine ⟨_, ?_, h⟩
      unfold binOp
      split
      · exact absurd rfl (n1 _ _ _ _ rfl)
      · exact absurd rfl (n2 _ _ rfl)
      · simp [h1]
    · obtain ⟨b, h1, h⟩ := optK_some h
      refine ⟨_, ?_, h⟩
      unfold binOp
      split
      · exact absurd rfl (n1 _ _ _ _ rfl)
      · exact absurd rfl (n2 _ _ rfl)
      · simp [h1]
    · cases h

/-! places -/
def natK (x : V) (n : Nat) (A : Nat → Option R) : Option R := match x with
  | .d (.int _ i) => chk (decide (0 ≤ i) && decide (i < n)) (A i.toNat)
  | _ => none
theorem natK_some {x : V} {n : Nat} {A : Nat → Option R} {r : R} (h : natK x n A = some r) : ∃ k, nat? x n = some k ∧ A k = some r := by
  unfold natK at h
  split at h
  · obtain ⟨h1, h⟩ := chk_some h
    simp only [Bool.and_eq_true, decide_eq_true_eq] at h1
    exact ⟨_, by simp only [nat?]; rw [if_pos h1], h⟩
  · cases h
def natLeK (x : V) (n : Nat) (A : Nat → Option R) : Option R := match x with
  | .d (.int _ i) => chk (decide (0 ≤ i) && decide (i ≤ n)) (A i.toNat)
  | _ => none
theorem natLeK_some {x : V} {n : Nat} {A : Nat → Option R} {r : R} (h : natLeK x n A = some r) : ∃ k, natLe? x n = some k ∧ A k = some r := by
  unfold natLeK at h
  split at h
  · obtain ⟨h1, h⟩ := chk_some h
    simp only [Bool.and_eq_true, decide_eq_true_eq] at h1
    exact ⟨_, by simp only [natLe?]; rw [if_pos h1], h⟩
  · cases h
def boundK (dflt : Nat) (hi : Nat) (x : Option V) (A : Nat → Option R) : Option R := match x with
  | none => A dflt
  | some v => natLeK v hi A
theorem boundK_some {dflt hi : Nat} {x : Option V} {A : Nat → Option R} {r : R} (h : boundK dflt hi x A = some r) : ∃ k, bound dflt hi x = some k ∧ A k = some r := by
  unfold boundK at h
  split at h
  · exact ⟨_, rfl, h⟩
  · obtain ⟨k, h1, h⟩ := natLeK_some h
    exact ⟨k, by simpa [bound] using h1, h⟩
/-- An element of plain data, at a number that comes from the code. -/
def elK (els : List (List D)) (ix : V) (A : List D → Option R) : Option R := natK ix els.length fun n => optK els[n]? A
theorem elK_some {els : List (List D)} {ix : V} {A : List D → Option R} {r : R} (h : elK els ix A = some r) : ∃ n x, nat? ix els.length = some n ∧ els[n]? = some x ∧ A x = some r := by
  unfold elK at h
  obtain ⟨n, h1, h⟩ := natK_some h
  obtain ⟨x, h2, h⟩ := optK_some h
  exact ⟨n, x, h1, h2, h⟩
def indexAddrK (E : Env) (t : TypeId) (x ix : V) (s : St) (A : V → Option R) : Option R :=
  match E.ti t with
  | some ti => (match ti.desc with
    | .slice e => (match E.ti e with
      | some ei => (match x with
        | .d (.sl _ els) => elK els ix fun r => chk (Nat.beq r.length ei.size) (A (.rp r))
        | .os _ els => elK els ix fun r => chk (Nat.beq r.length ei.size) (A (.rp r))
        | .ms o i n hw _ => natK ix n fun k => rowAtK s o hw (i + k) fun r => chk (Nat.beq r.length ei.size) (A (.ptr o hw (i + k) 0))
        | .as o hw i j sz n _ => chk (Nat.beq sz ei.size && liveRow s o hw) (natK ix n fun k => A (.ptr o hw i (j + k * sz)))
        | _ => none)
      | none => none)
    | .array len e => (match E.ti e with
      | some ei => natK ix len fun k => (match x with
          | .ptr o hw i j => chk (liveRow s o hw) (A (.ptr o hw i (j + k * ei.size)))
          | .rp cells => A (.rp (cells.drop (k * ei.size)))
          | _ => none)
      | none => none)
    | _ => none)
  | none => none
theorem indexAddrK_some {E : Env} {t : TypeId} {x ix : V} {s : St} {A : V → Option R} {r : R} (h : indexAddrK E t x ix s A = some r) : ∃ v, indexAddr E t x ix s = some v ∧ A v = some r := by
  unfold indexAddrK at h
  split at h
  case h_2 => cases h
  rename_i ti hti
  split at h
  · rename_i e hd
    split at h
    case h_2 => cases h
    rename_i ei hei
    split at h
    · obtain ⟨n, q, h1, h2, h⟩ := elK_some h
      obtain ⟨h3, h⟩ := chk_some h
      exact ⟨_, by simp [indexAddr, hti, hd, hei, h1, h2, h3], h⟩
    · obtain ⟨n, q, h1, h2, h⟩ := elK_some h
      obtain ⟨h3, h⟩ := chk_some h
      exact ⟨_, by simp [indexAddr, hti, hd, hei, h1, h2, h3], h⟩
    · obtain ⟨n, h1, h⟩ := natK_some h
      obtain ⟨q, h2, h⟩ := rowAtK_some h
      obtain ⟨h3, h⟩ := chk_some h
      exact ⟨_, by simp [indexAddr, hti, hd, hei, h1, h2, h3], h⟩
    · obtain ⟨h3, h⟩ := chk_some h
      obtain ⟨n, h1, h⟩ := natK_some h
      exact ⟨_, by simp only [indexAddr, hti, hd, hei, h1, h3, cond_true], h⟩
    · cases h
  · rename_i len e hd
    split at h
    case h_2 => cases h
    rename_i ei hei
    obtain ⟨k, h1, h⟩ := natK_some h
    split at h
    · obtain ⟨h3, h⟩ := chk_some h
      exact ⟨_, by simp only [indexAddr, hti, hd, hei, h1, h3, cond_true], h⟩
    · exact ⟨_, by simp only [indexAddr, hti, hd, hei, h1], h⟩
    · cases h
  · cases h
def indexK (E : Env) (t : TypeId) (x ix : V) (A : V → Option R) : Option R :=
  match E.ti t with
  | some ti => (match ti.desc with
    | .array len e => (match x with
      | .agg cs => (match E.ti e with
        | some ei => natK ix len fun k => optK (partOf ei cs (k * ei.size)) A
        | none => none)
      | _ => none)
    | .string => (match x with
      | .d (.str l) => natK ix l.length fun k => optK l[k]? fun b => A (.d (.int .u8 b.toNat))
      | _ => none)
    | _ => none)
  | none => none
theorem indexK_some {E : Env} {t : TypeId} {x ix : V} {A : V → Option R} {r : R} (h : indexK E t x ix A = some r) : ∃ v, index E t x ix = some v ∧ A v = some r := by
  unfold indexK at h
  split at h
  case h_2 => cases h
  rename_i ti hti
  split at h
  · rename_i len e hd
    split at h
    case h_2 => cases h
    split at h
    case h_2 => cases h
    rename_i ei hei
    obtain ⟨k, h1, h⟩ := natK_some h
    obtain ⟨v, h2, h⟩ := optK_some h
    exact ⟨v, by simp [index, hti, hd, hei, h1, h2], h⟩
  · rename_i hd
    split at h
    case h_2 => cases h
    obtain ⟨k, h1, h⟩ := natK_some h
    obtain ⟨b, h2, h⟩ := optK_some h
    exact ⟨_, by simp [index, hti, hd, h1, h2], h⟩
  · cases h
def sliceK (E : Env) (t : TypeId) (x : V) (lo hi mx : Option V) (s : St) (A : V → Option R) : Option R :=
  match noHigh mx hi with
  | true => none
  | false => (match E.ti t with
  | some ti => (match ti.desc with
    | .string => (match x with
      | .d (.str l) => (match mx with
        | none => boundK l.length l.length hi fun h => boundK 0 h lo fun b => A (.d (.str ((l.take h).drop b)))
        | some _ => none)
      | _ => none)
    | .slice e => (match x with
      | .d (.sl cut els) => boundK els.length els.length mx fun m => boundK (bif mx.isSome then m else els.length) m hi fun h => boundK 0 h lo fun b => chk (szOk E e b els) (A (.d (.sl ((cut || mx.isSome) && Nat.beq h m) ((els.take h).drop b))))
      | .os o els => boundK els.length els.length mx fun m => boundK els.length m hi fun h => boundK 0 h lo fun b => chk (szOk E e b els)
          (brK (Nat.beq h els.length && Nat.beq b 0 && mx.isNone) (A (.os o els)) (A (.d (.sl (mx.isSome && Nat.beq h m) ((els.take h).drop b)))))
      | .ms o i n hw cut => chk (liveRow s o hw) (boundK n n mx fun m => boundK n m hi fun h => boundK 0 h lo fun b => chk ((!(cut || mx.isSome) || Nat.beq h m) && szRow E e b s o) (A (.ms o (i + b) (h - b) hw (cut || mx.isSome))))
      | .as o hw i j sz n cap => chk (liveRow s o hw && sizeIs E e sz) (match mx with
        | none => boundK n cap hi fun h => boundK 0 h lo fun b => A (.as o hw i (j + b * sz) sz (h - b) (cap - b))
        | some _ => none)
      | _ => none)
    | .array n e => (match x with
      | .ptr o hw i j => chk (liveRow s o hw) (match E.ti e, mx with
        | some ei, none => boundK n n hi fun h => boundK 0 h lo fun b => A (.as o hw i (j + b * ei.size) ei.size (h - b) (n - b))
        | _, _ => none)
      | _ => none)
    | _ => none)
  | none => none)
theorem sliceK_some {E : Env} {t : TypeId} {x : V} {lo hi mx : Option V} {s : St} {A : V → Option R} {r : R} (h : sliceK E t x lo hi mx s A = some r) : ∃ v, slice E t x lo hi mx s = some v ∧ A v = some r := by
  unfold sliceK at h
  split at h
  case h_1 => cases h
  rename_i hnh
  split at h
  case h_2 => cases h
  rename_i ti hti
  split at h
  · rename_i hd
    split at h
    case h_2 => cases h
    split at h
    case h_2 => cases h
    obtain ⟨k, h1, h⟩ := boundK_some h
    obtain ⟨b, h2, h⟩ := boundK_some h
    exact ⟨_, by simp only [slice, hnh, hti, hd, h1, h2, cond_false], h⟩
  · rename_i e hd
    split at h
    · obtain ⟨m, h1, h⟩ := boundK_some h
      obtain ⟨k, h2, h⟩ := boundK_some h
      obtain ⟨b, h3, h⟩ := boundK_some h
      obtain ⟨h4, h⟩ := chk_some h
      exact ⟨_, by simp only [slice, hnh, hti, hd, h1, h2, h3, h4, cond_false, cond_true], h⟩
    · obtain ⟨m, h1, h⟩ := boundK_some h
      obtain ⟨k, h2, h⟩ := boundK_some h
      obtain ⟨b, h3, h⟩ := boundK_some h
      obtain ⟨h4, h⟩ := chk_some h
      rcases brK_some h with ⟨h5, h⟩ | ⟨h5, h⟩
      · exact ⟨_, by simp only [slice, hnh, hti, hd, h1, h2, h3, h4, h5, cond_false, cond_true], h⟩
      · exact ⟨_, by simp only [slice, hnh, hti, hd, h1, h2, h3, h4, h5, cond_false, cond_true], h⟩
    · obtain ⟨h0, h⟩ := chk_some h
      obtain ⟨m, h1, h⟩ := boundK_some h
      obtain ⟨k, h2, h⟩ := boundK_some h
      obtain ⟨b, h3, h⟩ := boundK_some h
      obtain ⟨h4, h⟩ := chk_some h
      exact ⟨_, by simp only [slice, hnh, hti, hd, h0, h1, h2, h3, h4, cond_false, cond_true], h⟩
    · obtain ⟨h0, h⟩ := chk_some h
      split at h
      case h_2 => cases h
      obtain ⟨k, h2, h⟩ := boundK_some h
      obtain ⟨b, h3, h⟩ := boundK_some h
      exact ⟨_, by simp only [slice, hnh, hti, hd, h0, h2, h3, cond_false, cond_true], h⟩
    · cases h
  · rename_i n e hd
    split at h
    case h_2 => cases h
    obtain ⟨h0, h5⟩ := chk_some h
    cases hei : E.ti e with
    | none => rw [hei] at h5; cases h5
    | some ei =>
      cases mx with
      | some m => rw [hei] at h5; cases h5
      | none =>
        rw [hei] at h5
        obtain ⟨k, h2, h6⟩ := boundK_some h5
        obtain ⟨b, h3, h7⟩ := boundK_some h6
        exact ⟨_, by simp only [slice, hnh, hti, hd, h0, hei, h2, h3, cond_false, cond_true], h7⟩
  · cases h

/-! slices' elements -/
def elsK (s : St) (v : V) (A : List (List V) → Option R) : Option R := match v with
  | .d (.sl _ els) => A (els.map ds)
  | .os _ els => A (els.map ds)
  | .ms o i n hw _ => (match hget s.heap o with
    | some (.row els _) => chk (Nat.beq els.length hw && Nat.ble (i + n) hw) (A ((els.drop i).take n))
    | _ => none)
  | .as o hw i j sz n _ => (match Nat.beq sz 1 with
    | true => rowAtK s o hw i fun cells => chk (Nat.ble (j + n) cells.length) (A (((cells.drop j).take n).map fun c => [c]))
    | false => none)
  | _ => none
theorem elsK_some {s : St} {v : V} {A : List (List V) → Option R} {r : R} (h : elsK s v A = some r) : ∃ x, elsOf s v = some x ∧ A x = some r := by
  unfold elsK at h
  split at h
  · exact ⟨_, rfl, h⟩
  · exact ⟨_, rfl, h⟩
  · split at h
    case h_2 => cases h
    rename_i hg
    obtain ⟨h1, h⟩ := chk_some h
    exact ⟨_, by simp only [elsOf, hg, h1, cond_true], h⟩
  · split at h
    case h_2 => cases h
    rename_i h0
    obtain ⟨x, h1, h⟩ := rowAtK_some h
    obtain ⟨h2, h⟩ := chk_some h
    exact ⟨_, by simp only [elsOf, h0, h1, h2, cond_true], h⟩
  · cases h
theorem toDss_map : ∀ l : List (List D), toDss (l.map ds) = some l
  | [] => rfl
  | d :: l => by simp [toDss, toDs_ds, toDss_map l]
def strOfK (s : St) (v : V) (A : List UInt8 → Option R) : Option R := elsK s v fun els => optK (bytesOfV (els.map theOne)) A
def convertK (E : Env) (src dst : TypeId) (x : V) (s : St) (A : V → St → Option R) : Option R :=
  match E.ti src, E.ti dst with
  | some a, some b => (match b.desc with
    | .int k => (match x with
      | .d (.int _ n) => A (.d (.int k (k.wrap n))) s
      | _ => none)
    | .string => (match x with
      | .d (.str l) => A (.d (.str l)) s
      | x => (match a.desc with
        | .slice e => (match isU8 E e with
          | true => strOfK s x fun l => A (.d (.str l)) s
          | false => none)
        | _ => none))
    | .slice e => (match x with
      | .d (.str l) => (match isU8 E e with
        | true => A (.ms s.next 0 l.length l.length false) (s.push (.row ((ofBytes l).map ds) ⟨e, true⟩))
        | false => none)
      | _ => none)
    | _ => none)
  | _, _ => none
theorem convertK_some {E : Env} {src dst : TypeId} {x : V} {s : St} {A : V → St → Option R} {r : R} (h : convertK E src dst x s A = some r) : ∃ v s', convert E src dst x s = some (v, s') ∧ A v s' = some r := by
  unfold convertK at h
  split at h
  case h_2 => cases h
  rename_i a b ha hb
  split at h
  · rename_i k hd
    split at h
    case h_2 => cases h
    exact ⟨_, _, by simp only [convert, ha, hb, hd], h⟩
  · rename_i hd
    split at h
    · exact ⟨_, _, by simp only [convert, ha, hb, hd], h⟩
    · rename_i nx
      split at h
      case h_2 => cases h
      rename_i e hda
      split at h
      case h_2 => cases h
      rename_i he
      obtain ⟨els, h1, h⟩ := elsK_some h
      obtain ⟨l, h2, h⟩ := optK_some h
      refine ⟨_, _, ?_, h⟩
      clear h
      cases x <;> (try (rename_i d; cases d)) <;> first | exact (nx _ rfl).elim | simp only [convert, ha, hb, hd, hda, he, cond_true, h1, h2]
  · rename_i e hd
    split at h
    case h_2 => cases h
    split at h
    case h_2 => cases h
    rename_i he
    exact ⟨_, _, by simp only [convert, ha, hb, hd, he, cond_true], h⟩
  · cases h
def fieldAddrK (E : Env) (t : TypeId) (x : V) (i : Nat) (s : St) (A : V → Option R) : Option R :=
  match E.ti t with
  | some ti => (match ti.desc with
    | .struct fs => (match fs[i]? with
      | some f => (match E.ti f.type with
        | some fi => (match Nat.ble 1 fi.size with
          | true => chk (x.live s) (match x with
            | .ptr o hw e j => A (.ptr o hw e (j + f.offset))
            | .rp cells => A (.rp (cells.drop f.offset))
            | _ => none)
          | false => none)
        | none => none)
      | none => none)
    | _ => none)
  | none => none
theorem fieldAddrK_some {E : Env} {t : TypeId} {x : V} {i : Nat} {s : St} {A : V → Option R} {r : R} (h : fieldAddrK E t x i s A = some r) : ∃ v, fieldAddr E t x i s = some v ∧ A v = some r := by
  unfold fieldAddrK at h
  split at h
  case h_2 => cases h
  rename_i ti hti
  split at h
  case h_2 => cases h
  rename_i fs hd
  split at h
  case h_2 => cases h
  rename_i f hf
  split at h
  case h_2 => cases h
  rename_i fi hfi
  split at h
  case h_2 => cases h
  rename_i h1
  obtain ⟨h2, h⟩ := chk_some h
  split at h
  · exact ⟨_, by simp only [fieldAddr, hti, hd, hf, hfi, h1, h2, Bool.and_self, cond_true], h⟩
  · exact ⟨_, by simp only [fieldAddr, hti, hd, hf, hfi, h1, h2, Bool.and_self, cond_true], h⟩
  · cases h
def lenK (s : St) (x : V) (A : Nat → Option R) : Option R := match x with
  | .d (.str l) => A l.length
  | .d (.sl _ els) => A els.length
  | .os _ els => A els.length
  | .ms o _ n hw _ => chk (liveRow s o hw) (A n)
  | .as o hw _ _ _ n _ => chk (liveRow s o hw) (A n)
  | .d .nilmap => A 0
  | _ => none
theorem lenK_some {s : St} {x : V} {A : Nat → Option R} {r : R} (h : lenK s x A = some r) : ∃ n, lenOf s x = some n ∧ A n = some r := by
  unfold lenK at h
  split at h
  · exact ⟨_, rfl, h⟩
  · exact ⟨_, rfl, h⟩
  · exact ⟨_, rfl, h⟩
  · obtain ⟨h1, h⟩ := chk_some h; exact ⟨_, by simp only [lenOf, h1, cond_true], h⟩
  · obtain ⟨h1, h⟩ := chk_some h; exact ⟨_, by simp only [lenOf, h1, cond_true], h⟩
  · exact ⟨_, rfl, h⟩
  · cases h
def builtinLenK (E : Env) (t : TypeId) (x : V) (s : St) (A : V → Option R) : Option R :=
  match E.ti t with
  | some ti => (match ti.desc with
    | .array n _ => A (.d (.int .i64 n))
    | .string => (match x with
      | .d (.str l) => A (.d (.int .i64 l.length))
      | _ => none)
    | .slice _ => (match isSl x with
      | true => lenK s x fun n => A (.d (.int .i64 (n : Int)))
      | false => none)
    | _ => none)
  | none => none
theorem builtinLenK_some {E : Env} {t : TypeId} {x : V} {s : St} {A : V → Option R} {r : R} (h : builtinLenK E t x s A = some r) : ∃ v, builtinLen E t x s = some v ∧ A v = some r := by
  unfold builtinLenK at h
  split at h
  case h_2 => cases h
  rename_i ti hti
  split at h
  · rename_i hd; exact ⟨_, by simp only [builtinLen, hti, hd], h⟩
  · rename_i hd
    split at h
    case h_2 => cases h
    exact ⟨_, by simp only [builtinLen, hti, hd], h⟩
  · rename_i hd
    split at h
    case h_2 => cases h
    rename_i h1
    obtain ⟨n, h2, h⟩ := lenK_some h
    exact ⟨_, by simp only [builtinLen, hti, hd, h1, h2, cond_true, Option.map_some], h⟩
  · cases h
/-- what is added: rows of data, or of values -/
def newK (s : St) (y : V) (A : List (List D) → Option R) (B : List (List V) → Option R) : Option R := match y with
  | .d (.sl _ els) => A els
  | .os _ els => A els
  | .d (.str l) => A (ofBytes l)
  | y => elsK s y B
theorem newK_some {s : St} {y : V} {A : List (List D) → Option R} {B : List (List V) → Option R} {r : R} (h : newK s y A B = some r) :
    (∃ nd, elsOrBytes s y = some (nd.map ds) ∧ A nd = some r) ∨ (∃ n, elsOrBytes s y = some n ∧ B n = some r) := by
  unfold newK at h
  split at h
  · exact .inl ⟨_, rfl, h⟩
  · exact .inl ⟨_, rfl, h⟩
  · exact .inl ⟨_, rfl, h⟩
  · rename_i n1 n2 n3
    obtain ⟨x, h1, h⟩ := elsK_some h
    refine .inr ⟨x, ?_, h⟩
    unfold elsOrBytes
    split
    · exact absurd rfl (n3 _)
    · exact h1
theorem firstLen_map {α β : Type} {f : List α → List β} (hf : ∀ l, (f l).length = l.length) (n : Nat) (l : List (List α)) : firstLen n (l.map f) = firstLen n l := by
  cases l with
  | nil => rfl
  | cons a l => simp [firstLen, hf]
theorem firstLen_ds (n : Nat) (l : List (List D)) : firstLen n (l.map ds) = firstLen n l := firstLen_map (by simp [ds]) n l
def sameK (x : V) (s : St) (A : V → St → Option R) : Option R := match x with
  | .d (.sl ..) => A x s
  | .os .. => A x s
  | .ms o _ _ hw _ => chk (liveRow s o hw) (A x s)
  | _ => none
/-- to a row that may be written, rows of values -/
def ontoRowK (mu : Bool) (ty : TypeId) (size : Nat) (o i n hw : Nat) (cut : Bool) (new : List (List V)) (s : St) (A : V → St → Option R) : Option R :=
  match hget s.heap o with
  | some (.row els opn) => chk (Nat.beq els.length hw && Nat.ble (i + n) hw && firstLen size els && Nat.ble (hw + new.length) lenMax) (match cut with
      | true => optK (grow mu ty size ((els.drop i).take n ++ new) s) fun p => A p.1 p.2
      | false => brK (Nat.ble (i + n + new.length) hw) (A (.ms o i (n + new.length) hw false) (s.put o (.row (els.take (i + n) ++ new ++ els.drop (i + n + new.length)) opn)))
        (chk (Nat.beq i 0 && opn.opn && Nat.beq opn.ty ty && Nat.blt 0 hw) (A (.ms o 0 (n + new.length) (n + new.length) false) (s.put o (.row (els.take n ++ new) opn)))))
  | _ => none
def appendDK (mu : Bool) (ty : TypeId) (size : Nat) (x : V) (nd : List (List D)) (s : St) (A : V → St → Option R) : Option R :=
  brK (Nat.beq nd.length 0) (sameK x s A) (chk (firstLen size nd && Nat.ble 1 size) (match x with
    | .d (.sl true els) => chk (firstLen size els && Nat.ble (els.length + nd.length) lenMax) (match mu with
      | false => A (.os s.next (els ++ nd)) (s.push (.tok (els ++ nd).length size ty))
      | true => A (.ms s.next 0 ((els ++ nd).map ds).length ((els ++ nd).map ds).length false) (s.push (.row ((els ++ nd).map ds) ⟨ty, true⟩)))
    | .os o els => (match hget s.heap o with
      | some (.tok n e q) => chk (Nat.beq n els.length && Nat.beq e size && firstLen size els && Nat.ble (els.length + nd.length) lenMax && Nat.beq q ty) (A (.os o (els ++ nd)) (s.put o (.tok (els.length + nd.length) size ty)))
      | _ => none)
    | .ms o i n hw cut => ontoRowK mu ty size o i n hw cut (nd.map ds) s A
    | _ => none))
def appendVK (mu : Bool) (ty : TypeId) (size : Nat) (x : V) (new : List (List V)) (s : St) (A : V → St → Option R) : Option R :=
  brK (Nat.beq new.length 0) (sameK x s A) (chk (firstLen size new && Nat.ble 1 size) (match x with
    | .d (.sl true els) => chk (firstLen size els && Nat.ble (els.length + new.length) lenMax) (optK (grow mu ty size (els.map ds ++ new) s) fun p => A p.1 p.2)
    | .os o els => (match hget s.heap o with
      | some (.tok n e q) => optK (toDss new) fun nd => chk (Nat.beq n els.length && Nat.beq e size && firstLen size els && Nat.ble (els.length + new.length) lenMax && Nat.beq q ty) (A (.os o (els ++ nd)) (s.put o (.tok (els.length + new.length) size ty)))
      | _ => none)
    | .ms o i n hw cut => ontoRowK mu ty size o i n hw cut new s A
    | _ => none))
def appendK (mu : Bool) (ty : TypeId) (size : Nat) (x y : V) (s : St) (A : V → St → Option R) : Option R :=
  newK s y (fun nd => appendDK mu ty size x nd s A) (fun new => appendVK mu ty size x new s A)
def sameTo (x : V) (s : St) : Option (V × St) := match x with
      | .d (.sl ..) | .os .. => some (x, s)
      | .ms o _ _ hw _ => bif liveRow s o hw then some (x, s) else none
      | _ => none
theorem sameK_some {x : V} {s : St} {A : V → St → Option R} {r : R} (h : sameK x s A = some r) : ∃ v s', sameTo x s = some (v, s') ∧ A v s' = some r := by
  unfold sameK at h
  unfold sameTo
  split at h
  · exact ⟨_, _, rfl, h⟩
  · exact ⟨_, _, rfl, h⟩
  · obtain ⟨h1, h⟩ := chk_some h; exact ⟨_, _, by simp only [h1, cond_true], h⟩
  · cases h
theorem ontoRowK_some {mu : Bool} {ty : TypeId} {size o i n hw : Nat} {cut : Bool} {new : List (List V)} {s : St} {A : V → St → Option R} {r : R} (h : ontoRowK mu ty size o i n hw cut new s A = some r) :
    ∃ v s', (match hget s.heap o with
        | some (.row els opn) => bif Nat.beq els.length hw && Nat.ble (i + n) hw && firstLen size els && Nat.ble (hw + new.length) lenMax then
            (bif cut then grow mu ty size ((els.drop i).take n ++ new) s
             else bif Nat.ble (i + n + new.length) hw then some (.ms o i (n + new.length) hw false, s.put o (.row (els.take (i + n) ++ new ++ els.drop (i + n + new.length)) opn))
             else bif Nat.beq i 0 && opn.opn && Nat.beq opn.ty ty && Nat.blt 0 hw then some (.ms o 0 (n + new.length) (n + new.length) false, s.put o (.row (els.take n ++ new) opn)) else none) else none
        | _ => none) = some (v, s') ∧ A v s' = some r := by
  unfold ontoRowK at h
  split at h
  case h_2 => cases h
  rename_i els opn hg
  obtain ⟨h1, h⟩ := chk_some h
  simp only [h1, cond_true]
  split at h
  · obtain ⟨p, h2, h⟩ := optK_some h
    exact ⟨p.1, p.2, by simp only [cond_true, h2], h⟩
  · simp only [cond_false]
    rcases brK_some h with ⟨h2, h⟩ | ⟨h2, h⟩
    · exact ⟨_, _, by simp only [h2, cond_true], h⟩
    · obtain ⟨h3, h⟩ := chk_some h
      exact ⟨_, _, by simp only [h2, cond_false, h3, cond_true], h⟩
theorem appendVK_some {mu : Bool} {ty : TypeId} {size : Nat} {x y : V} {new : List (List V)} {s : St} {A : V → St → Option R} {r : R} (hy : elsOrBytes s y = some new) (h : appendVK mu ty size x new s A = some r) : ∃ v s', appendTo mu ty size x y s = some (v, s') ∧ A v s' = some r := by
  unfold appendVK at h
  unfold appendTo
  simp only [hy]
  rcases brK_some h with ⟨h1, h⟩ | ⟨h1, h⟩
  · simp only [h1, cond_true]; exact sameK_some h
  · obtain ⟨h2, h⟩ := chk_some h
    simp only [h1, h2, cond_true, cond_false]
    split at h
    · obtain ⟨h3, h⟩ := chk_some h
      obtain ⟨p, h4, h⟩ := optK_some h
      exact ⟨p.1, p.2, by simp only [h3, cond_true, h4], h⟩
    · split at h
      case h_2 => cases h
      rename_i hg
      obtain ⟨nd, h3, h⟩ := optK_some h
      obtain ⟨h4, h⟩ := chk_some h
      exact ⟨_, _, by simp only [hg, h3, h4, cond_true], h⟩
    · exact ontoRowK_some h
    · cases h
theorem appendDK_some {mu : Bool} {ty : TypeId} {size : Nat} {x y : V} {nd : List (List D)} {s : St} {A : V → St → Option R} {r : R} (hy : elsOrBytes s y = some (nd.map ds)) (h : appendDK mu ty size x nd s A = some r) : ∃ v s', appendTo mu ty size x y s = some (v, s') ∧ A v s' = some r := by
  unfold appendDK at h
  unfold appendTo
  simp only [hy, List.length_map, firstLen_ds, toDss_map]
  rcases brK_some h with ⟨h1, h⟩ | ⟨h1, h⟩
  · simp only [h1, cond_true]; exact sameK_some h
  · obtain ⟨h2, h⟩ := chk_some h
    simp only [h1, h2, cond_true, cond_false]
    split at h
    · obtain ⟨h3, h⟩ := chk_some h
      simp only [h3, cond_true]
      split at h
      · refine ⟨_, _, ?_, h⟩
        rw [← List.map_append]
        simp only [grow, cond_false, toDss_map]
      · refine ⟨_, _, ?_, h⟩
        rw [← List.map_append]
        simp only [grow, cond_true]
    · split at h
      case h_2 => cases h
      rename_i hg
      obtain ⟨h4, h⟩ := chk_some h
      exact ⟨_, _, by simp only [hg, h4, cond_true], h⟩
    · have := ontoRowK_some h
      simp only [List.length_map] at this
      exact this
    · cases h
theorem appendK_some {mu : Bool} {ty : TypeId} {size : Nat} {x y : V} {s : St} {A : V → St → Option R} {r : R} (h : appendK mu ty size x y s A = some r) : ∃ v s', appendTo mu ty size x y s = some (v, s') ∧ A v s' = some r := by
  rcases newK_some h with ⟨nd, h1, h⟩ | ⟨n, h1, h⟩
  · exact appendDK_some h1 h
  · exact appendVK_some h1 h
def makeSliceK (E : Env) (t : TypeId) (len cap : V) (s : St) (A : V → St → Option R) : Option R :=
  match E.ti t, len.int?, cap.int? with
  | some ti, some l, some c => (match ti.desc with
    | .slice e => (match E.ti e with
      | some ei => chk (decide (0 ≤ l) && decide (l ≤ c) && decide (c ≤ lenMax)) (match Nat.ble 1 ei.size && Nat.ble ei.bytes 4096 && Nat.beq ei.zero.length ei.size && allOne ei.zero with
        | true => brK (decide (l = c)) (A (.ms s.next 0 l.toNat l.toNat true) (s.push (.row (List.replicate l.toNat ei.zero) ⟨e, false⟩)))
            (brK (decide (l = 0)) (A (.os s.next []) (s.push (.tok 0 ei.size e))) none)
        | false => none)
      | none => none)
    | _ => none)
  | _, _, _ => none
theorem makeSliceK_some {E : Env} {t : TypeId} {len cap : V} {s : St} {A : V → St → Option R} {r : R} (h : makeSliceK E t len cap s A = some r) : ∃ v s', makeSlice E t len cap s = some (v, s') ∧ A v s' = some r := by
  unfold makeSliceK at h
  split at h
  case h_2 => cases h
  rename_i ti l c h1 h2 h3
  split at h
  case h_2 => cases h
  rename_i e hd
  split at h
  case h_2 => cases h
  rename_i ei hei
  obtain ⟨h4, h⟩ := chk_some h
  simp only [Bool.and_eq_true, decide_eq_true_eq] at h4
  split at h
  case h_2 => cases h
  rename_i h5
  rcases brK_some h with ⟨h6, h⟩ | ⟨h6, h⟩
  · refine ⟨_, _, ?_, h⟩
    unfold makeSlice
    simp only [h1, h2, h3, hd, hei]
    rw [if_pos ⟨h4.1.1, h4.1.2, h4.2⟩, h5, cond_true, if_pos (by simpa using h6)]
  · rcases brK_some h with ⟨h7, h⟩ | ⟨_, h⟩
    · refine ⟨_, _, ?_, h⟩
      unfold makeSlice
      simp only [h1, h2, h3, hd, hei]
      rw [if_pos ⟨h4.1.1, h4.1.2, h4.2⟩, h5, cond_true, if_neg (by simpa using h6), if_pos (by simpa using h7)]
    · cases h
def builtinK (E : Env) (mu : Bool) (b : Builtin) (ats : List TypeId) (args : List V) (s : St) (A : V → St → Option R) : Option R :=
  match b, ats, args with
  | .len, t :: _, [x] => builtinLenK E t x s fun v => A v s
  | .append, t :: ts, [x, y] => (match notIntTy E ts with
    | true => (match E.ti t with
      | some ti => (match ti.desc with
        | .slice e => (match E.ti e with
          | some ei => (match Nat.ble ei.bytes 4096 with
            | true => appendK mu e ei.size x y s A
            | false => none)
          | none => none)
        | _ => none)
      | none => none)
    | false => none)
  | b, ats, args => optK (builtin E mu b ats args s) fun p => A p.1 p.2
theorem builtinK_some {E : Env} {mu : Bool} {b : Builtin} {ats : List TypeId} {args : List V} {s : St} {A : V → St → Option R} {r : R} (h : builtinK E mu b ats args s A = some r) : ∃ v s', builtin E mu b ats args s = some (v, s') ∧ A v s' = some r := by
  unfold builtinK at h
  split at h
  · obtain ⟨v, h1, h⟩ := builtinLenK_some h
    exact ⟨v, s, by simp only [builtin, h1, Option.map_some], h⟩
  · split at h
    case h_2 => cases h
    rename_i h0
    split at h
    case h_2 => cases h
    rename_i ti hti
    split at h
    case h_2 => cases h
    rename_i e hd
    split at h
    case h_2 => cases h
    rename_i ei hei
    split at h
    case h_2 => cases h
    rename_i hb
    obtain ⟨v, s', h1, h⟩ := appendK_some h
    exact ⟨v, s', by simp only [builtin, h0, hti, hd, hei, hb, Bool.not_true, cond_false, cond_true, h1], h⟩
  · obtain ⟨p, h1, h⟩ := optK_some h
    exact ⟨p.1, p.2, h1, h⟩
end
end Go.Ev
/- Temporaries as a tree. -/
namespace Go.Ev
inductive TT where
  | leaf (v : V)
  | node (l r : TT)
noncomputable def TT.get (t : TT) : Nat → V := TT.rec (fun v _ => v) (fun _ _ l r i => Bool.rec (r (Nat.div i 2)) (l (Nat.div i 2)) (Nat.beq (Nat.mod i 2) 0)) t
noncomputable def TT.set {R : Type} (v : V) (t : TT) : Nat → (TT → R) → R :=
  TT.rec (fun _ _ K => K (.leaf v)) (fun l r sl sr i K => Bool.rec (sr (Nat.div i 2) (fun r' => K (.node l r'))) (sl (Nat.div i 2) (fun l' => K (.node l' r))) (Nat.beq (Nat.mod i 2) 0)) t
noncomputable def TT.fill : Nat → TT := Nat.rec (.leaf .undef) (fun _ t => .node t t)
/-- n temporaries, in a tree of this depth -/
inductive Tm where
  | mk (n d : Nat) (t : TT)
noncomputable def Tm.get (t : Tm) (i : Nat) : V := Tm.rec (fun n _ t => Bool.rec .undef (t.get i) (Nat.blt i n)) t
noncomputable def Tm.set {R : Type} (t : Tm) (i : Nat) (v : V) (K : Tm → R) : R := Tm.rec (fun n d u => Bool.rec (K (.mk n d u)) (u.set v i fun u' => K (.mk n d u')) (Nat.blt i n)) t
/-- a tree is perfect -/
def TT.perf : Nat → TT → Prop
  | 0, .leaf _ => True
  | d + 1, .node l r => TT.perf d l ∧ TT.perf d r
  | _, _ => False
def Tm.ok : Tm → Prop
  | .mk n d t => t.perf d ∧ n ≤ 2 ^ d
noncomputable def Tm.toL : Tm → List V
  | .mk n _ t => (List.range n).map t.get
/-- the tree that setting gives -/
noncomputable def TT.put (v : V) (t : TT) : Nat → TT := TT.rec (fun _ _ => .leaf v) (fun l r sl sr i => Bool.rec (.node l (sr (Nat.div i 2))) (.node (sl (Nat.div i 2)) r) (Nat.beq (Nat.mod i 2) 0)) t
theorem TT.set_eq {R : Type} (v : V) : ∀ (t : TT) (i : Nat) (K : TT → R), t.set v i K = K (t.put v i)
  | .leaf _, _, _ => rfl
  | .node l r, i, K => by
    show (Bool.rec (TT.set v r (Nat.div i 2) fun r' => K (.node l r')) (TT.set v l (Nat.div i 2) fun l' => K (.node l' r)) (Nat.beq (Nat.mod i 2) 0) : R) = K (Bool.rec (.node l (TT.put v r (Nat.div i 2))) (.node (TT.put v l (Nat.div i 2)) r) (Nat.beq (Nat.mod i 2) 0))
    cases Nat.beq (Nat.mod i 2) 0 with
    | true => exact TT.set_eq v l _ _
    | false => exact TT.set_eq v r _ _
theorem TT.put_perf (v : V) : ∀ (d : Nat) (t : TT) (i : Nat), t.perf d → (t.put v i).perf d
  | 0, .leaf _, _, _ => trivial
  | d + 1, .node l r, i, h => by
    show TT.perf (d + 1) (Bool.rec (.node l (TT.put v r (Nat.div i 2))) (.node (TT.put v l (Nat.div i 2)) r) (Nat.beq (Nat.mod i 2) 0))
    cases Nat.beq (Nat.mod i 2) 0 with
    | true => exact ⟨TT.put_perf v d l _ h.1, h.2⟩
    | false => exact ⟨h.1, TT.put_perf v d r _ h.2⟩
  | 0, .node _ _, _, h => h.elim
  | _ + 1, .leaf _, _, h => h.elim
theorem TT.get_put (v : V) : ∀ (d : Nat) (t : TT) (i j : Nat), t.perf d → i < 2 ^ d → j < 2 ^ d → (t.put v i).get j = if i = j then v else t.get j
  | 0, .leaf u, i, j, _, hi, hj => by
    have : i = j := by simp at hi hj; omega
    rw [if_pos this]; rfl
  | d + 1, .node l r, i, j, h, hi, hj => by
    have e1 : (TT.node l r).put v i = (Bool.rec (.node l (TT.put v r (Nat.div i 2))) (.node (TT.put v l (Nat.div i 2)) r) (Nat.beq (Nat.mod i 2) 0) : TT) := rfl
    have e2 : ∀ a b : TT, (TT.node a b).get j = (Bool.rec (b.get (Nat.div j 2)) (a.get (Nat.div j 2)) (Nat.beq (Nat.mod j 2) 0) : V) := fun _ _ => rfl
    have hi2 : i / 2 < 2 ^ d := by rw [Nat.pow_succ] at hi; omega
    have hj2 : j / 2 < 2 ^ d := by rw [Nat.pow_succ] at hj; omega
    rw [e1, e2]
    have d1 : Nat.div i 2 = i / 2 := rfl
    have d2 : Nat.div j 2 = j / 2 := rfl
    have m1 : Nat.mod i 2 = i % 2 := rfl
    have m2 : Nat.mod j 2 = j % 2 := rfl
    rw [d1, d2, m1, m2]
    cases hb : Nat.beq (i % 2) 0 <;> cases hc : Nat.beq (j % 2) 0
    · have b1 : i % 2 ≠ 0 := fun h => by rw [nbeq_iff.2 h] at hb; cases hb
      have b2 : j % 2 ≠ 0 := fun h => by rw [nbeq_iff.2 h] at hc; cases hc
      show (TT.node l (TT.put v r (i / 2))).get j = _
      rw [e2, m2, hc, d2]
      rw [TT.get_put v d r _ _ h.2 hi2 hj2]
      by_cases hh : i = j
      · rw [if_pos hh, if_pos (by omega)]
      · rw [if_neg hh, if_neg (by omega)]
    · have b1 : i % 2 ≠ 0 := fun h => by rw [nbeq_iff.2 h] at hb; cases hb
      have b2 : j % 2 = 0 := nbeq_iff.1 hc
      show (TT.node l (TT.put v r (i / 2))).get j = _
      rw [e2, m2, hc, d2, if_neg (by omega)]
    · have b1 : i % 2 = 0 := nbeq_iff.1 hb
      have b2 : j % 2 ≠ 0 := fun h => by rw [nbeq_iff.2 h] at hc; cases hc
      show (TT.node (TT.put v l (i / 2)) r).get j = _
      rw [e2, m2, hc, d2, if_neg (by omega)]
    · have b1 : i % 2 = 0 := nbeq_iff.1 hb
      have b2 : j % 2 = 0 := nbeq_iff.1 hc
      show (TT.node (TT.put v l (i / 2)) r).get j = _
      rw [e2, m2, hc, d2]
      rw [TT.get_put v d l _ _ h.1 hi2 hj2]
      by_cases hh : i = j
      · rw [if_pos hh, if_pos (by omega)]
      · rw [if_neg hh, if_neg (by omega)]
  | 0, .node _ _, _, _, h, _, _ => h.elim
  | _ + 1, .leaf _, _, _, h, _, _ => h.elim
theorem TT.fill_perf : ∀ d, (TT.fill d).perf d
  | 0 => trivial
  | d + 1 => ⟨TT.fill_perf d, TT.fill_perf d⟩
theorem TT.fill_get : ∀ (d i : Nat), (TT.fill d).get i = .undef
  | 0, _ => rfl
  | d + 1, i => by
    show (Bool.rec ((TT.fill d).get (Nat.div i 2)) ((TT.fill d).get (Nat.div i 2)) (Nat.beq (Nat.mod i 2) 0) : V) = .undef
    cases Nat.beq (Nat.mod i 2) 0 <;> exact TT.fill_get d _
theorem tget_get? : ∀ (l : List V) (i : Nat), tget l i = (l[i]?).getD .undef
  | [], _ => rfl
  | _ :: _, 0 => rfl
  | x :: xs, i + 1 => by simpa [tget] using tget_get? xs i
theorem Tm.get_toL (t : Tm) (i : Nat) : t.get i = tget t.toL i := by
  obtain ⟨n, d, u⟩ := t
  show (Bool.rec V.undef (u.get i) (Nat.blt i n) : V) = tget ((List.range n).map u.get) i
  rw [tget_get?]
  cases hb : Nat.blt i n with
  | true =>
    have := blt_iff.1 hb
    simp [List.getElem?_range this]
  | false =>
    have : ¬ i < n := fun h => by rw [blt_iff.2 h] at hb; cases hb
    simp [List.getElem?_eq_none (show (List.range n).length ≤ i by simpa using this)]
/-- the tree that setting gives -/
noncomputable def Tm.put (t : Tm) (i : Nat) (v : V) : Tm := Tm.rec (fun n d u => Bool.rec (.mk n d u) (.mk n d (u.put v i)) (Nat.blt i n)) t
theorem Tm.put_t {n d i : Nat} {u : TT} {v : V} (h : Nat.blt i n = true) : (Tm.mk n d u).put i v = .mk n d (u.put v i) := by
  show (Bool.rec (.mk n d u) (.mk n d (u.put v i)) (Nat.blt i n) : Tm) = _
  rw [h]
theorem Tm.put_f {n d i : Nat} {u : TT} {v : V} (h : Nat.blt i n = false) : (Tm.mk n d u).put i v = .mk n d u := by
  show (Bool.rec (.mk n d u) (.mk n d (u.put v i)) (Nat.blt i n) : Tm) = _
  rw [h]
theorem Tm.set_eq {R : Type} (t : Tm) (i : Nat) (v : V) (K : Tm → R) : t.set i v K = K (t.put i v) := by
  obtain ⟨n, d, u⟩ := t
  show (Bool.rec (K (.mk n d u)) (u.set v i fun u' => K (.mk n d u')) (Nat.blt i n) : R) = _
  cases hb : Nat.blt i n with
  | true => rw [Tm.put_t hb]; exact TT.set_eq v u i _
  | false => rw [Tm.put_f hb]
theorem Tm.put_ok {t : Tm} (i : Nat) (v : V) (h : t.ok) : (t.put i v).ok := by
  obtain ⟨n, d, u⟩ := t
  cases hb : Nat.blt i n with
  | true => rw [Tm.put_t hb]; exact ⟨TT.put_perf v d u i h.1, h.2⟩
  | false => rw [Tm.put_f hb]; exact h
theorem Tm.put_toL {t : Tm} (i : Nat) (v : V) (h : t.ok) : (t.put i v).toL = tset t.toL i v := by
  obtain ⟨n, d, u⟩ := t
  obtain ⟨h1, h2⟩ := h
  rw [tset_eq]
  cases hb : Nat.blt i n with
  | true =>
    rw [Tm.put_t hb]
    have hi := blt_iff.1 hb
    show (List.range n).map (u.put v i).get = ((List.range n).map u.get).set i v
    apply List.ext_getElem?
    intro j
    rw [List.getElem?_set]
    by_cases hj : j < n
    · simp only [List.getElem?_map, List.getElem?_range hj, Option.map_some]
      rw [TT.get_put v d u i j h1 (by omega) (by omega)]
      by_cases hij : i = j
      · subst hij; simp [hi]
      · simp [hij]
    · have e1 : (List.range n)[j]? = none := List.getElem?_eq_none (by simpa using hj)
      simp only [List.getElem?_map, e1, Option.map_none]
      rw [if_neg (by omega)]
  | false =>
    rw [Tm.put_f hb]
    have : ¬ i < n := fun h => by rw [blt_iff.2 h] at hb; cases hb
    show (List.range n).map u.get = ((List.range n).map u.get).set i v
    rw [List.set_eq_of_length_le (by simpa using this)]
/-- the least depth that holds so many -/
noncomputable def depthOf (n : Nat) : Nat := Nat.add (Nat.log2 n) 1
theorem le_depth (n : Nat) : n ≤ 2 ^ depthOf n := Nat.le_of_lt (Nat.lt_log2_self (n := n))
noncomputable def Tm.empty (n : Nat) : Tm := .mk n (depthOf n) (TT.fill (depthOf n))
theorem Tm.empty_ok (n : Nat) : (Tm.empty n).ok := ⟨TT.fill_perf _, le_depth n⟩
theorem undefs_rep : ∀ n, undefs n = List.replicate n .undef
  | 0 => rfl
  | n + 1 => by rw [undefs, undefs_rep n]; rfl
theorem Tm.empty_toL (n : Nat) : (Tm.empty n).toL = undefs n := by
  rw [undefs_rep]
  show (List.range n).map (TT.fill (depthOf n)).get = _
  apply List.ext_getElem?
  intro i
  by_cases hi : i < n
  · simp [TT.fill_get, hi]
  · simp [hi]
/-- a list's values set from i on -/
noncomputable def Tm.setL {R : Type} (l : List V) : Nat → Tm → (Tm → R) → R := List.rec (fun _ t K => K t) (fun v _ ih i t K => t.set i v fun t' => ih (Nat.add i 1) t' K) l
noncomputable def Tm.putL : List V → Nat → Tm → Tm
  | [], _, t => t
  | v :: l, i, t => Tm.putL l (i + 1) (t.put i v)
theorem Tm.setL_eq {R : Type} : ∀ (l : List V) (i : Nat) (t : Tm) (K : Tm → R), Tm.setL l i t K = K (Tm.putL l i t)
  | [], _, _, _ => rfl
  | v :: l, i, t, K => by
    show t.set i v (fun t' => Tm.setL l (Nat.add i 1) t' K) = _
    rw [Tm.set_eq]; exact Tm.setL_eq l _ _ K
theorem Tm.putL_ok : ∀ (l : List V) (i : Nat) (t : Tm), t.ok → (Tm.putL l i t).ok
  | [], _, _, h => h
  | v :: l, i, _t, h => Tm.putL_ok l _ _ (Tm.put_ok i v h)
theorem Tm.putL_toL : ∀ (l : List V) (pre : List V) (t : Tm) (m : Nat), t.ok → t.toL = pre ++ undefs (l.length + m) → (Tm.putL l pre.length t).toL = pre ++ l ++ undefs m
  | [], pre, t, m, _, h => by simpa [Tm.putL] using h
  | v :: l, pre, t, m, hok, h => by
    have h1 : (t.put pre.length v).toL = (pre ++ [v]) ++ undefs (l.length + m) := by
      rw [Tm.put_toL _ _ hok, h, tset_eq]
      rw [show (v :: l).length + m = (l.length + m) + 1 by simp; omega]
      simp [undefs]
    have := Tm.putL_toL l (pre ++ [v]) (t.put pre.length v) m (Tm.put_ok _ _ hok) h1
    simp only [Tm.putL]
    simpa using this
theorem Tm.of_list (l : List V) (n : Nat) (h : l.length ≤ n) : (Tm.putL l 0 (Tm.empty n)).toL = l ++ undefs (n - l.length) := by
  have := Tm.putL_toL l [] (Tm.empty n) (n - l.length) (Tm.empty_ok n) (by rw [Tm.empty_toL, show l.length + (n - l.length) = n by omega]; rfl)
  simpa using this
end Go.Ev
/- The evaluator once more: operations, regions, code, calls. -/
namespace Go.Ev
section
variable {R : Type}
def opK (E : Env) (mu : Bool) (o : Op) (t : List V) (s : St) (A : V → St → Option R) : Option R :=
  match o with
  | .move x => A (opnd E t x) s
  | .assign x => A (opnd E t x) s
  | .pick c a b => (match opnd E t c with
    | .d (.bool x) => brK x (A (opnd E t a) s) (A (opnd E t b) s)
    | _ => none)
  | .load ty a => (match E.ti ty with
    | some i => loadK i (opnd E t a) s fun v => A v s
    | none => none)
  | .store ty a x => (match E.ti ty with
    | some i => storeK i (opnd E t a) (opnd E t x) s fun s' => A .undef s'
    | none => none)
  | .nilCheck x => (match opnd E t x with
    | .ptr o hw i j => chk (liveRow s o hw) (A (.ptr o hw i j) s)
    | .rp cs => A (.rp cs) s
    | _ => none)
  | .binOp b ty x y _ => binOpK E b ty (isConst x || isConst y) (opndR E t x) (opndR E t y) s fun v => A v s
  | .convert src dst x => convertK E src dst (opnd E t x) s A
  | .makeSlice ty l c => makeSliceK E ty (opnd E t l) (opnd E t c) s A
  | .slice ty x lo hi mx => sliceK E ty (opnd E t x) (optOpnd E t lo) (optOpnd E t hi) (optOpnd E t mx) s fun v => A v s
  | .fieldAddr ty x i => fieldAddrK E ty (opnd E t x) i s fun v => A v s
  | .indexAddr ty x ix => indexAddrK E ty (opnd E t x) (opnd E t ix) s fun v => A v s
  | .index ty x ix => indexK E ty (opnd E t x) (opnd E t ix) fun v => A v s
  | .call { callee := .builtin b, args, argTypes } => builtinK E mu b argTypes.toList (opnds E t args.toList) s A
  | o => optK (op E mu o t s) fun p => A p.1 p.2
theorem opK_some {E : Env} {mu : Bool} {o : Op} {t : List V} {s : St} {A : V → St → Option R} {r : R} (h : opK E mu o t s A = some r) : ∃ v s', op E mu o t s = some (v, s') ∧ A v s' = some r := by
  unfold opK at h
  split at h
  · exact ⟨_, _, rfl, h⟩
  · exact ⟨_, _, rfl, h⟩
  · split at h
    case h_2 => cases h
    rename_i hc
    rcases brK_some h with ⟨rfl, h⟩ | ⟨rfl, h⟩
    · exact ⟨_, _, by simp only [op, hc], h⟩
    · exact ⟨_, _, by simp only [op, hc], h⟩
  · split at h
    case h_2 => cases h
    rename_i hi
    obtain ⟨v, h1, h⟩ := loadK_some h
    exact ⟨v, s, by simp only [op, hi, h1, Option.map_some], h⟩
  · split at h
    case h_2 => cases h
    rename_i hi
    obtain ⟨s', h1, h⟩ := storeK_some h
    exact ⟨_, s', by simp only [op, hi, h1, Option.map_some], h⟩
  · split at h
    · rename_i hx
      obtain ⟨h1, h⟩ := chk_some h
      exact ⟨_, _, by simp only [op, hx, h1, cond_true], h⟩
    · rename_i hx; exact ⟨_, _, by simp only [op, hx], h⟩
    · cases h
  · obtain ⟨v, h1, h⟩ := binOpK_some h
    exact ⟨v, s, by simp only [op, h1, Option.map_some], h⟩
  · exact convertK_some h
  · exact makeSliceK_some h
  · obtain ⟨v, h1, h⟩ := sliceK_some h
    exact ⟨v, s, by simp only [op, h1, Option.map_some], h⟩
  · obtain ⟨v, h1, h⟩ := fieldAddrK_some h
    exact ⟨v, s, by simp only [op, h1, Option.map_some], h⟩
  · obtain ⟨v, h1, h⟩ := indexAddrK_some h
    exact ⟨v, s, by simp only [op, h1, Option.map_some], h⟩
  · obtain ⟨v, h1, h⟩ := indexK_some h
    exact ⟨v, s, by simp only [op, h1, Option.map_some], h⟩
  · exact builtinK_some h
  · obtain ⟨p, h1, h⟩ := optK_some h
    exact ⟨p.1, p.2, h1, h⟩


/-! the same over a tree of temporaries -/
noncomputable def opndT (E : Env) (t : Tm) : Operand → V
  | .tmp i => (t.get i).norm
  | .const v => (V.ofValue v).norm
  | .global g => (match E.glob g with | some cs => .rp cs | none => .undef)
  | .func f => .fn f []
theorem opndT_eq (E : Env) (t : Tm) : opndT E t = opnd E t.toL := by
  funext x
  cases x with
  | tmp i => simp only [opndT, opnd, Tm.get_toL]
  | const v => rfl
  | «global» g => rfl
  | func f => rfl
noncomputable def opndRT (E : Env) (t : Tm) : Operand → V
  | .const v => V.ofValue v
  | o => opndT E t o
theorem opndRT_eq (E : Env) (t : Tm) : opndRT E t = opndR E t.toL := by
  funext x
  cases x <;> simp only [opndRT, opndR, opndT_eq]
noncomputable def opndsT (E : Env) (t : Tm) : List Operand → List V
  | [] => []
  | o :: r => opndT E t o :: opndsT E t r
theorem opndsT_eq (E : Env) (t : Tm) : ∀ l, opndsT E t l = opnds E t.toL l
  | [] => rfl
  | o :: r => by simp only [opndsT, opnds, opndT_eq, opndsT_eq E t r]
noncomputable def optOpndT (E : Env) (t : Tm) : Option Operand → Option V
  | none => none
  | some o => some (opndT E t o)
theorem optOpndT_eq (E : Env) (t : Tm) (o : Option Operand) : optOpndT E t o = optOpnd E t.toL o := by cases o <;> simp only [optOpndT, optOpnd, opndT_eq]
noncomputable def partsT (E : Env) (t : Tm) : List (Nat × Operand) → List (Nat × V)
  | [] => []
  | (i, o) :: r => (i, opndT E t o) :: partsT E t r
theorem partsT_eq (E : Env) (t : Tm) : ∀ l, partsT E t l = partsV E t.toL l
  | [] => rfl
  | (i, o) :: r => by simp only [partsT, partsV, opndT_eq, partsT_eq E t r]
noncomputable def opT (E : Env) (mu : Bool) (o : Op) (t : Tm) (s : St) (A : V → St → Option R) : Option R :=
  match o with
  | .move x => A (opndT E t x) s
  | .assign x => A (opndT E t x) s
  | .pick c a b => (match opndT E t c with
    | .d (.bool x) => brK x (A (opndT E t a) s) (A (opndT E t b) s)
    | _ => none)
  | .load ty a => (match E.ti ty with
    | some i => loadK i (opndT E t a) s fun v => A v s
    | none => none)
  | .store ty a x => (match E.ti ty with
    | some i => storeK i (opndT E t a) (opndT E t x) s fun s' => A .undef s'
    | none => none)
  | .nilCheck x => (match opndT E t x with
    | .ptr o hw i j => chk (liveRow s o hw) (A (.ptr o hw i j) s)
    | .rp cs => A (.rp cs) s
    | _ => none)
  | .binOp b ty x y _ => binOpK E b ty (isConst x || isConst y) (opndRT E t x) (opndRT E t y) s fun v => A v s
  | .convert src dst x => convertK E src dst (opndT E t x) s A
  | .makeSlice ty l c => makeSliceK E ty (opndT E t l) (opndT E t c) s A
  | .slice ty x lo hi mx => sliceK E ty (opndT E t x) (optOpndT E t lo) (optOpndT E t hi) (optOpndT E t mx) s fun v => A v s
  | .fieldAddr ty x i => fieldAddrK E ty (opndT E t x) i s fun v => A v s
  | .indexAddr ty x ix => indexAddrK E ty (opndT E t x) (opndT E t ix) s fun v => A v s
  | .index ty x ix => indexK E ty (opndT E t x) (opndT E t ix) fun v => A v s
  | .alloc e => optK (op E mu (.alloc e) [] s) fun p => A p.1 p.2
  | .box e x => (match allOne (opndT E t x).cells && Nat.ble 1 (opndT E t x).cells.length with
    | true => A (.ptr s.next 1 0 0) (s.push (.row [(opndT E t x).cells] ⟨e, false⟩))
    | false => none)
  | .build ty parts => optK (build E ty (partsT E t parts.toList)) fun v => A v s
  | .buildSlice ty len parts => optK (buildSlice E mu ty len (partsT E t parts.toList) s) fun p => A p.1 p.2
  | .unOp u _ x => optK (unOp u (opndT E t x)) fun v => A v s
  | .makeInterface ty x => (match E.ti ty with
    | some i => (match i.desc with
      | .interface _ => none
      | _ => (match allOne (opndT E t x).cells with | true => A (.ifc ty (opndT E t x).cells) s | false => none))
    | none => none)
  | .makeFunc (.func f) first caps => (match first.isEmpty with | true => A (.fn f (opndsT E t caps.toList)) s | false => none)
  | .field ty x i => optK (fieldOf E ty (opndT E t x) i) fun v => A v s
  | .extract x i => (match opndT E t x with
    | .tup vs => optK vs[i]? fun v => A v s
    | _ => none)
  | .call { callee := .builtin b, args, argTypes } => builtinK E mu b argTypes.toList (opndsT E t args.toList) s A
  | _ => none
theorem opT_some {E : Env} {mu : Bool} {o : Op} {t : Tm} {s : St} {A : V → St → Option R} {r : R} (h : opT E mu o t s A = some r) : ∃ v s', op E mu o t.toL s = some (v, s') ∧ A v s' = some r := by
  unfold opT at h
  simp only [opndT_eq, opndRT_eq, opndsT_eq, optOpndT_eq, partsT_eq] at h
  split at h
  · exact ⟨_, _, rfl, h⟩
  · exact ⟨_, _, rfl, h⟩
  · exact opK_some (o := .pick _ _ _) h
  · exact opK_some (o := .load _ _) h
  · exact opK_some (o := .store _ _ _) h
  · exact opK_some (o := .nilCheck _) h
  · exact opK_some (o := .binOp _ _ _ _ _) h
  · exact opK_some (o := .convert _ _ _) h
  · exact opK_some (o := .makeSlice _ _ _) h
  · exact opK_some (o := .slice _ _ _ _ _) h
  · exact opK_some (o := .fieldAddr _ _ _) h
  · exact opK_some (o := .indexAddr _ _ _) h
  · exact opK_some (o := .index _ _ _) h
  · obtain ⟨p, h1, h⟩ := optK_some h
    exact ⟨p.1, p.2, h1, h⟩
  · split at h
    · rename_i hc; exact ⟨_, _, by simp only [op, hc, cond_true], h⟩
    · cases h
  · obtain ⟨v, h1, h⟩ := optK_some h
    exact ⟨v, s, by simp only [op, h1, Option.map_some], h⟩
  · obtain ⟨p, h1, h⟩ := optK_some h
    exact ⟨p.1, p.2, h1, h⟩
  · obtain ⟨v, h1, h⟩ := optK_some h
    exact ⟨v, s, by simp only [op, h1, Option.map_some], h⟩
  · split at h
    case h_2 => cases h
    rename_i i hi
    split at h
    · cases h
    · rename_i hd
      split at h
      · rename_i hc
        refine ⟨_, _, ?_, h⟩
        simp only [op, hi]
        first
        | (split
           · rename_i q; exact (hd _ q).elim
           · simp only [hc, cond_true])
        | simp only [hc, cond_true]
      · cases h
  · split at h
    · rename_i hc; exact ⟨_, _, by simp only [op, hc, cond_true], h⟩
    · cases h
  · obtain ⟨v, h1, h⟩ := optK_some h
    exact ⟨v, s, by simp only [op, h1, Option.map_some], h⟩
  · split at h
    · rename_i hx
      obtain ⟨v, h1, h⟩ := optK_some h
      exact ⟨v, s, by simp only [op, hx, h1], h⟩
    · cases h
  · exact opK_some (o := .call _) h
  · cases h

/-! leaving a call -/
def dssK (x : List (List V)) (A : List (List D) → Option R) (B : Option R) : Option R := match toDss x with | some l => A l | none => B
def leaveVK (keep : Bool) (m : Nat) (s : St) (v : V) (A : V → Option R) : Option R :=
  match v with
  | .os o els => brK (keep || Nat.blt o m) (A (.os o els)) (A (.d (.sl false els)))
  | .ms o i n hw cut => brK (keep || Nat.blt o m) (A (.ms o i n hw cut)) (elsK s (.ms o i n hw cut) fun els => dssK els (fun l => A (.d (.sl cut l))) (A (.ms o i n hw cut)))
  | .as o hw i j sz n cap => brK (Nat.blt o m) (A (.as o hw i j sz n cap)) (elsK s (.as o hw i j sz n cap) fun els => dssK els (fun l => A (.d (.sl false l))) (A (.as o hw i j sz n cap)))
  | v => A v
theorem dssK_some {x : List (List V)} {A : List (List D) → Option R} {B : Option R} {r : R} (h : dssK x A B = some r) : (∃ l, toDss x = some l ∧ A l = some r) ∨ (toDss x = none ∧ B = some r) := by
  unfold dssK at h
  split at h
  · rename_i l hl; exact .inl ⟨l, hl, h⟩
  · rename_i hl; exact .inr ⟨hl, h⟩
theorem leaveVK_some {keep : Bool} {m : Nat} {s : St} {v : V} {A : V → Option R} {r : R} (h : leaveVK keep m s v A = some r) : ∃ u, leaveV keep m s v = some u ∧ A u = some r := by
  unfold leaveVK at h
  split at h
  · rcases brK_some h with ⟨h1, h⟩ | ⟨h1, h⟩
    · exact ⟨_, by simp only [leaveV, h1, cond_true], h⟩
    · exact ⟨_, by simp only [leaveV, h1, cond_false], h⟩
  · rcases brK_some h with ⟨h1, h⟩ | ⟨h1, h⟩
    · exact ⟨_, by simp only [leaveV, h1, cond_true], h⟩
    · obtain ⟨els, h2, h⟩ := elsK_some h
      rcases dssK_some h with ⟨l, h3, h⟩ | ⟨h3, h⟩
      · exact ⟨_, by simp only [leaveV, h1, cond_false, h2, h3], h⟩
      · exact ⟨_, by simp only [leaveV, h1, cond_false, h2, h3], h⟩
  · rcases brK_some h with ⟨h1, h⟩ | ⟨h1, h⟩
    · exact ⟨_, by simp only [leaveV, h1, cond_true], h⟩
    · obtain ⟨els, h2, h⟩ := elsK_some h
      rcases dssK_some h with ⟨l, h3, h⟩ | ⟨h3, h⟩
      · exact ⟨_, by simp only [leaveV, h1, cond_false, h2, h3], h⟩
      · exact ⟨_, by simp only [leaveV, h1, cond_false, h2, h3], h⟩
  · rename_i n1 n2 n3
    refine ⟨v, ?_, h⟩
    unfold leaveV
    split
    · exact absurd rfl (n1 _ _)
    · exact absurd rfl (n2 _ _ _ _ _)
    · exact absurd rfl (n3 _ _ _ _ _ _ _)
    · rfl
def leaveLK (keep : Bool) (m : Nat) (s : St) : List V → (List V → Option R) → Option R
  | [], A => A []
  | v :: vs, A => leaveVK keep m s v fun x => leaveLK keep m s vs fun xs => A (x :: xs)
theorem leaveLK_some {keep : Bool} {m : Nat} {s : St} : ∀ {vs : List V} {A : List V → Option R} {r : R}, leaveLK keep m s vs A = some r → ∃ u, leaveL keep m s vs = some u ∧ A u = some r
  | [], A, r, h => ⟨[], rfl, h⟩
  | v :: vs, A, r, h => by
    simp only [leaveLK] at h
    obtain ⟨x, h1, h⟩ := leaveVK_some h
    obtain ⟨xs, h2, h⟩ := leaveLK_some h
    exact ⟨_, by simp only [leaveL, h1, h2], h⟩
def leave1K (keep : Bool) (m : Nat) (s : St) (v : V) (A : V → Option R) : Option R := match v with
  | .agg cs => leaveLK keep m s cs fun l => A (.agg l)
  | v => leaveVK keep m s v A
theorem leave1K_some {keep : Bool} {m : Nat} {s : St} {v : V} {A : V → Option R} {r : R} (h : leave1K keep m s v A = some r) : ∃ u, leave1 keep m s v = some u ∧ A u = some r := by
  unfold leave1K at h
  split at h
  · obtain ⟨l, h1, h⟩ := leaveLK_some h
    exact ⟨_, by simp only [leave1, h1, Option.map_some], h⟩
  · rename_i n1
    obtain ⟨u, h1, h⟩ := leaveVK_some h
    refine ⟨u, ?_, h⟩
    unfold leave1
    split
    · exact absurd rfl (n1 _)
    · exact h1
def leaveTK (keep : Bool) (m : Nat) (s : St) : List V → (List V → Option R) → Option R
  | [], A => A []
  | v :: vs, A => leave1K keep m s v fun x => leaveTK keep m s vs fun xs => A (x :: xs)
theorem leaveTK_some {keep : Bool} {m : Nat} {s : St} : ∀ {vs : List V} {A : List V → Option R} {r : R}, leaveTK keep m s vs A = some r → ∃ u, leaveT keep m s vs = some u ∧ A u = some r
  | [], A, r, h => ⟨[], rfl, h⟩
  | v :: vs, A, r, h => by
    simp only [leaveTK] at h
    obtain ⟨x, h1, h⟩ := leave1K_some h
    obtain ⟨xs, h2, h⟩ := leaveTK_some h
    exact ⟨_, by simp only [leaveT, h1, h2], h⟩
def truncK (s0 s1 : St) (A : St → Option R) (B : Option R) : Option R := match s1.ws with
  | [] => A s0
  | w :: ws => brK (scan s1.heap s0.next (w :: ws)) (A ⟨hdrop s1.heap s0.next, s0.next, s0.mark, notes s0.mark (w :: ws) s0.ws⟩) B
theorem truncK_some {s0 s1 : St} {A : St → Option R} {B : Option R} {r : R} (h : truncK s0 s1 A B = some r) : (∃ s', truncSt s0 s1 = some s' ∧ A s' = some r) ∨ (truncSt s0 s1 = none ∧ B = some r) := by
  unfold truncK at h
  split at h
  · rename_i hw; exact .inl ⟨_, by simp only [truncSt, hw], h⟩
  · rename_i hw
    rcases brK_some h with ⟨h1, h⟩ | ⟨h1, h⟩
    · exact .inl ⟨_, by simp only [truncSt, hw, h1, cond_true], h⟩
    · exact .inr ⟨by simp only [truncSt, hw, h1, cond_false], h⟩
def leaveStK (s0 s1 : St) (A : St → Option R) : Option R := truncK s0 s1 A (A (keepSt s0 s1))
theorem leaveStK_some {s0 s1 : St} {A : St → Option R} {r : R} (h : leaveStK s0 s1 A = some r) : A (leaveSt s0 s1) = some r := by
  rcases truncK_some h with ⟨s', h1, h⟩ | ⟨h1, h⟩
  · simpa only [leaveSt, h1] using h
  · simpa only [leaveSt, h1] using h
noncomputable def resultsK (E : Env) (t : Tm) (s : St) : List ResultVar → (List V → Option R) → Option R
  | [], A => A []
  | .tmp i :: r, A => resultsK E t s r fun l => A (t.get i :: l)
  | .cell a ty :: r, A => (match E.ti ty with
    | some i => loadK i (t.get a) s fun v => resultsK E t s r fun l => A (v :: l)
    | none => none)
theorem resultsK_some {E : Env} {t : Tm} {s : St} : ∀ {rs : List ResultVar} {A : List V → Option R} {r : R}, resultsK E t s rs A = some r → ∃ vs, results E t.toL s rs = some vs ∧ A vs = some r
  | [], A, r, h => ⟨[], rfl, h⟩
  | .tmp i :: rs, A, r, h => by
    simp only [resultsK] at h
    obtain ⟨l, h1, h⟩ := resultsK_some h
    exact ⟨tget t.toL i :: l, by simp only [results, h1], by rw [← Tm.get_toL]; exact h⟩
  | .cell a ty :: rs, A, r, h => by
    simp only [resultsK] at h
    split at h
    case h_2 => cases h
    rename_i hi
    obtain ⟨v, h1, h⟩ := loadK_some h
    obtain ⟨l, h2, h⟩ := resultsK_some h
    rw [Tm.get_toL] at h1
    exact ⟨_, by simp only [results, hi, h1, h2], h⟩
noncomputable def finishK (E : Env) (f : FuncId) (fi : FInfo) (s0 : St) (t : Tm) (s1 : St) (A : V → St → Option R) : Option R :=
  resultsK E t s1 fi.results fun vs => leaveTK (E.keep f) s0.next s1 vs fun us => brK (V.ltL s0.next us) (truncK s0 s1 (fun s' => A (oneOf us) s') (A (oneOf vs) (keepSt s0 s1))) (A (oneOf vs) (keepSt s0 s1))
theorem finishK_some {E : Env} {f : FuncId} {fi : FInfo} {s0 : St} {t : Tm} {s1 : St} {A : V → St → Option R} {r : R} (h : finishK E f fi s0 t s1 A = some r) : ∃ v s', finish E f fi s0 t.toL s1 = some (v, s') ∧ A v s' = some r := by
  unfold finishK at h
  obtain ⟨vs, h1, h⟩ := resultsK_some h
  obtain ⟨us, h2, h⟩ := leaveTK_some h
  rcases brK_some h with ⟨h3, h⟩ | ⟨h3, h⟩
  · rcases truncK_some h with ⟨s', h4, h⟩ | ⟨h4, h⟩
    · exact ⟨_, _, by simp only [finish, h1, leave, h2, h3, cond_true, h4], h⟩
    · exact ⟨_, _, by simp only [finish, h1, leave, h2, h3, cond_true, h4], h⟩
  · exact ⟨_, _, by simp only [finish, h1, leave, h2, h3, cond_false], h⟩

/-! the environment: contracts as lists of cases -/
structure EnvK where
  E : Env
  gk : FuncId → Option Alts
def EnvK.Fit (F : EnvK) : Prop := F.E.intr = fun f => (F.gk f).map fun g args s => pick (g args s)
def altsK (A : V → St → Option R) : List (Bool × V × St) → Option R
  | [] => none
  | (c, v, s) :: r => brK c (A v s) (altsK A r)
theorem altsK_some {A : V → St → Option R} {r : R} {l : List (Bool × V × St)} (h : altsK A l = some r) : ∃ v s, pick l = some (v, s) ∧ A v s = some r := by
  induction l with
  | nil => cases h
  | cons a l ih =>
    obtain ⟨c, v, s⟩ := a
    simp only [altsK] at h
    cases c with
    | true => exact ⟨v, s, rfl, h⟩
    | false => exact ih h

end
end Go.Ev
/- The evaluator over a tree of temporaries: regions, code, calls; what it gives, the evaluator gives. -/
namespace Go.Ev
noncomputable def Tm.ofL (l : List V) : Tm := Tm.putL l 0 (Tm.empty l.length)
theorem Tm.ofL_ok (l : List V) : (Tm.ofL l).ok := Tm.putL_ok _ _ _ (Tm.empty_ok _)
theorem Tm.ofL_toL (l : List V) : (Tm.ofL l).toL = l := by
  have := Tm.of_list l l.length (Nat.le_refl _)
  rw [Nat.sub_self] at this
  simpa [undefs, Tm.ofL] using this
abbrev Kt (R : Type) := Ex → Tm → St → Option R
structure Evt (R : Type) where
  code : FuncId → Code → Kt R → Tm → St → Option R
  call : FuncId → List V → (V → St → Option R) → St → Option R
section
variable {R : Type}
noncomputable def putT (t : Tm) (dst : Option Tmp) (v : V) (K : Tm → Option R) : Option R := match dst with
  | some d => t.set d v K
  | none => K t
noncomputable def putTm (t : Tm) (dst : Option Tmp) (v : V) : Tm := match dst with
  | some d => t.put d v
  | none => t
theorem putT_eq (t : Tm) (dst : Option Tmp) (v : V) (K : Tm → Option R) : putT t dst v K = K (putTm t dst v) := by
  cases dst with
  | none => rfl
  | some d => exact Tm.set_eq t d v K
theorem putTm_ok {t : Tm} (dst : Option Tmp) (v : V) (h : t.ok) : (putTm t dst v).ok := by
  cases dst with
  | none => exact h
  | some d => exact Tm.put_ok d v h
theorem putTm_toL {t : Tm} (dst : Option Tmp) (v : V) (h : t.ok) : (putTm t dst v).toL = putDst t.toL dst v := by
  cases dst with
  | none => rfl
  | some d => exact Tm.put_toL d v h
noncomputable def guardK (t : Tm) (ops : Array Oper) (g : Option (Nat × Bool)) (A B : Option R) : Option R := match g with
  | none => A
  | some (j, want) => (match (ops[j]?).bind (·.dst) with
    | some d => (match t.get d with
      | .d (.bool b) => (match want with | true => brK b A B | false => brK b B A)
      | .tup [] => B
      | _ => none)
    | none => none)
theorem guardK_some {t : Tm} {ops : Array Oper} {g : Option (Nat × Bool)} {A B : Option R} {r : R} (h : guardK t ops g A B = some r) : (guardOk t.toL ops g = some true ∧ A = some r) ∨ (guardOk t.toL ops g = some false ∧ B = some r) := by
  unfold guardK at h
  split at h
  · exact .inl ⟨rfl, h⟩
  · rename_i j want
    split at h
    case h_2 => cases h
    rename_i d hd
    rw [Tm.get_toL] at h
    split at h
    · rename_i b hb
      split at h
      · rcases brK_some h with ⟨rfl, h⟩ | ⟨rfl, h⟩
        · exact .inl ⟨by simp only [guardOk, hd, hb]; rfl, h⟩
        · exact .inr ⟨by simp only [guardOk, hd, hb]; rfl, h⟩
      · rcases brK_some h with ⟨rfl, h⟩ | ⟨rfl, h⟩
        · exact .inr ⟨by simp only [guardOk, hd, hb]; rfl, h⟩
        · exact .inl ⟨by simp only [guardOk, hd, hb]; rfl, h⟩
    · rename_i hb; exact .inr ⟨by simp only [guardOk, hd, hb], h⟩
    · cases h
def endRoundK (s0 : St) (l : Nat) (K : V → St → Option R) (ex : Ex) (s : St) : Option R :=
  match hget s.heap l with
  | some (.loop f t ps a b _ true) => (match ex with
    | .norm => leaveStK s0 (s.put l (.loop f t ps a b none false)) fun s' => K (.d (.bool true)) s'
    | e => leaveStK s0 (s.put l (.loop f t ps a b (some e) false)) fun s' => K (.d (.bool false)) s')
  | _ => none
noncomputable def setAllT (t : Tm) : List Nat → List V → (Tm → Option R) → Option R
  | [], [], K => K t
  | p :: ps, a :: as, K => t.set p a fun t' => setAllT t' ps as K
  | _, _, _ => none
theorem setAllT_some : ∀ {ps : List Nat} {t : Tm} {as : List V} {K : Tm → Option R} {r : R}, t.ok → setAllT t ps as K = some r → ∃ t', t'.ok ∧ setAll t.toL ps as = some t'.toL ∧ K t' = some r
  | [], t, [], K, r, hok, h => ⟨t, hok, rfl, h⟩
  | p :: ps, t, a :: as, K, r, hok, h => by
    simp only [setAllT, Tm.set_eq] at h
    obtain ⟨t', h1, h2, h3⟩ := setAllT_some (Tm.put_ok p a hok) h
    rw [Tm.put_toL p a hok] at h2
    exact ⟨t', h1, by simpa [setAll] using h2, h3⟩
  | [], _, _ :: _, _, _, _, h => by simp [setAllT] at h
  | _ :: _, _, [], _, _, _, h => by simp [setAllT] at h
noncomputable def yieldToK (ev : Evt R) (l : Nat) (args : List V) (K : V → St → Option R) (s : St) : Option R :=
  match hget s.heap l with
  | some (.loop f t ps a b none false) => setAllT (Tm.ofL t) ps args fun t' => ev.code f a (fun ex t1 s1 => match ex with
        | .norm => (match hget s1.heap l with
          | some (.loop f2 t2 ps2 a2 b2 none false) => ev.code f b (fun ex _ s2 => endRoundK s l K ex s2) t1 (s1.put l (.loop f2 t2 ps2 a2 b2 none true))
          | _ => none)
        | _ => none) t' s.fresh
  | _ => none
noncomputable def oneOpK (F : EnvK) (ev : Evt R) (f : FuncId) (ops : Array Oper) (o : Oper) (t : Tm) (s : St) (K : V → St → Option R) : Option R :=
  guardK t ops o.guard (match o.op with
    | .call { callee := .value g, args, .. } => (match opndT F.E t g with
      | .fn g caps => ev.call g ((opndsT F.E t args.toList).map argV ++ caps) K s
      | .yld l => yieldToK ev l (opndsT F.E t args.toList) K s
      | _ => none)
    | x => opT F.E (F.E.mutf f) x t s K) (K (.tup []) s)
noncomputable def runOpsK (F : EnvK) (ev : Evt R) (f : FuncId) (ops : Array Oper) (K : Tm → St → Option R) : List Oper → Tm → St → Option R
  | [], t, s => K t s
  | o :: rest, t, s => oneOpK F ev f ops o t s fun v s => putT t o.dst v fun t => runOpsK F ev f ops K rest t s

/-! open orders -/
noncomputable def readsT (E : Env) (t : Tm) (o : Op) : List Rd :=
  match blind o with
  | true => []
  | false => (match o with
    | .load ty a => (match opndT E t a with
      | .ptr p _ i j => (match E.ti ty with
        | some ti => [.cells p i j (bif Nat.blt 1 ti.size then ti.size else 1)]
        | none => [])
      | _ => [])
    | .convert _ _ x => readsOf .all [opndT E t x]
    | o => readsOf .shape (opndsT E t o.operands.toList))
theorem readsT_eq (E : Env) (t : Tm) (o : Op) : readsT E t o = readsBy E t.toL o := by
  unfold readsT readsBy
  cases hb : blind o with
  | true => rfl
  | false =>
    simp only [cond_false, opndT_eq, opndsT_eq]
    cases o <;> rfl
noncomputable def stillOpK (F : EnvK) (mu : Bool) (ops : Array Oper) (o : Oper) (t : Tm) (s : St) (A : V → List Rd → Option R) : Option R :=
  guardK t ops o.guard (opT F.E mu o.op t s fun v _ => chk (stillVal o.op v && rdsBelow s.next (readsT F.E t o.op)) (A v (readsT F.E t o.op))) (A (.tup []) [])
theorem stillOpK_some {F : EnvK} {mu : Bool} {ops : Array Oper} {o : Oper} {t : Tm} {s : St} {A : V → List Rd → Option R} {r : R} (h : stillOpK F mu ops o t s A = some r) : ∃ v rd, stillOp F.E mu ops o t.toL s = some (v, rd) ∧ A v rd = some r := by
  unfold stillOpK at h
  rcases guardK_some h with ⟨h0, h⟩ | ⟨h0, h⟩
  · obtain ⟨v, s', h1, h⟩ := opT_some h
    obtain ⟨h2, h⟩ := chk_some h
    rw [readsT_eq] at h2 h
    exact ⟨_, _, by simp only [stillOp, h0, h1, h2, cond_true], h⟩
  · exact ⟨_, _, by simp only [stillOp, h0], h⟩
/-- What of an order's check hangs on the code alone. -/
def pairS (i j : Nat) (a b : Rc) : Bool := match Nat.beq i j with
  | true => true
  | false => !sameDst a.dst b.dst &&
    (match b.dst with | some d => !memN d a.uses || (match b.hst || Nat.blt j i with | true => bitOf a.mask j | false => bitOf b.mask i) | none => true) &&
    (!(a.eff && b.eff && Nat.blt j i) || bitOf a.mask j)
def rowS (i : Nat) (a : Rc) : Nat → List Rc → Bool
  | _, [] => true
  | j, b :: r => pairS i j a b && rowS i a (j + 1) r
def allS (rs : List Rc) : Nat → List Rc → Bool
  | _, [] => true
  | i, a :: r => rowS i a 0 rs && allS rs (i + 1) r
/-- What hangs on the run. -/
def pairD (i j : Nat) (a b : Rc) : Bool := !(!a.eff && b.eff && anyIn b.ws a.reads) || (!a.hst && bitOf a.mask j) || bitOf b.mask i
/-- those that wrote -/
def wrote : Nat → List Rc → List (Nat × Rc)
  | _, [] => []
  | j, b :: r => match b.ws with
    | [] => wrote (j + 1) r
    | _ :: _ => (j, b) :: wrote (j + 1) r
def rowD (i : Nat) (a : Rc) : List (Nat × Rc) → Bool
  | [] => true
  | (j, b) :: r => pairD i j a b && rowD i a r
def allD (es : List (Nat × Rc)) : Nat → List Rc → Bool
  | _, [] => true
  | i, a :: r => rowD i a es && allD es (i + 1) r
def dynOk (rs : List Rc) : Bool := match wrote 0 rs with
  | [] => true
  | es => allD es 0 rs
theorem pairOk_of {i j : Nat} {a b : Rc} (h1 : pairS i j a b = true) (h2 : pairD i j a b = true) : pairOk i j a b = true := by
  unfold pairOk
  unfold pairS at h1
  cases hij : Nat.beq i j with
  | true => rfl
  | false =>
    rw [hij] at h1
    simp only [cond_false]
    simp only [Bool.and_eq_true] at h1 ⊢
    obtain ⟨⟨h3, h4⟩, h5⟩ := h1
    refine ⟨⟨⟨h3, ?_⟩, h5⟩, h2⟩
    cases hd : b.dst with
    | none => rfl
    | some d =>
      rw [hd] at h4
      simp only at h4 ⊢
      cases hh : (b.hst || Nat.blt j i) <;> rw [hh] at h4 <;> exact h4
theorem noW {i j : Nat} {a b : Rc} (h : b.ws = []) : pairD i j a b = true := by
  have : ∀ l : List Rd, anyIn [] l = false := by
    intro l
    induction l with
    | nil => rfl
    | cons x l ih => simp [anyIn, clashes, ih]
  simp [pairD, h, this]
theorem rowD_all {i : Nat} {a : Rc} : ∀ {rs : List Rc} {k : Nat}, rowD i a (wrote k rs) = true → ∀ (m : Nat) (b : Rc), rs[m]? = some b → pairD i (k + m) a b = true
  | [], _, _, m, b, hb => by simp at hb
  | c :: rs, k, h, m, b, hb => by
    simp only [wrote] at h
    split at h
    · rename_i hw
      cases m with
      | zero => simp at hb; subst hb; exact noW hw
      | succ m =>
        have := rowD_all h m b (by simpa using hb)
        rwa [show k + 1 + m = k + (m + 1) by omega] at this
    · simp only [rowD, Bool.and_eq_true] at h
      cases m with
      | zero => simp at hb; subst hb; exact h.1
      | succ m =>
        have := rowD_all h.2 m b (by simpa using hb)
        rwa [show k + 1 + m = k + (m + 1) by omega] at this
theorem allD_all {es : List (Nat × Rc)} : ∀ {l : List Rc} {i : Nat}, allD es i l = true → ∀ (m : Nat) (a : Rc), l[m]? = some a → rowD (i + m) a es = true
  | [], _, _, m, a, ha => by simp at ha
  | c :: l, i, h, m, a, ha => by
    simp only [allD, Bool.and_eq_true] at h
    cases m with
    | zero => simp at ha; subst ha; exact h.1
    | succ m =>
      have := allD_all h.2 m a (by simpa using ha)
      rwa [show i + 1 + m = i + (m + 1) by omega] at this
theorem dynOk_all {rs : List Rc} (h : dynOk rs = true) (i j : Nat) (a b : Rc) (ha : rs[i]? = some a) (hb : rs[j]? = some b) : pairD i j a b = true := by
  unfold dynOk at h
  split at h
  · rename_i hw
    have : rowD i a (wrote 0 rs) = true := by rw [hw]; rfl
    simpa using rowD_all this j b hb
  · have := allD_all h i a ha
    simp only [Nat.zero_add] at this
    simpa using rowD_all this j b hb
theorem rowS_all {i : Nat} {a : Rc} : ∀ {rs : List Rc} {k : Nat}, rowS i a k rs = true → ∀ (m : Nat) (b : Rc), rs[m]? = some b → pairS i (k + m) a b = true
  | [], _, _, m, b, hb => by simp at hb
  | c :: rs, k, h, m, b, hb => by
    simp only [rowS, Bool.and_eq_true] at h
    cases m with
    | zero => simp at hb; subst hb; exact h.1
    | succ m =>
      have := rowS_all h.2 m b (by simpa using hb)
      rwa [show k + 1 + m = k + (m + 1) by omega] at this
theorem allS_all {rs : List Rc} : ∀ {l : List Rc} {i : Nat}, allS rs i l = true → ∀ (m : Nat) (a : Rc), l[m]? = some a → rowS (i + m) a 0 rs = true
  | [], _, _, m, a, ha => by simp at ha
  | c :: l, i, h, m, a, ha => by
    simp only [allS, Bool.and_eq_true] at h
    cases m with
    | zero => simp at ha; subst ha; exact h.1
    | succ m =>
      have := allS_all h.2 m a (by simpa using ha)
      rwa [show i + 1 + m = i + (m + 1) by omega] at this
theorem rowOk_of {i : Nat} {a : Rc} : ∀ {rs : List Rc} {k : Nat}, (∀ (m : Nat) (b : Rc), rs[m]? = some b → pairOk i (k + m) a b = true) → rowOk i a k rs = true
  | [], _, _ => rfl
  | c :: rs, k, h => by
    simp only [rowOk, Bool.and_eq_true]
    exact ⟨by simpa using h 0 c rfl, rowOk_of fun m b hb => by have := h (m + 1) b (by simpa using hb); rwa [show k + 1 + m = k + (m + 1) by omega]⟩
theorem allOk_of {rs : List Rc} : ∀ {l : List Rc} {i : Nat}, (∀ (m : Nat) (a : Rc), l[m]? = some a → rowOk (i + m) a 0 rs = true) → allOk rs i l = true
  | [], _, _ => rfl
  | c :: l, i, h => by
    simp only [allOk, Bool.and_eq_true]
    exact ⟨by simpa using h 0 c rfl, allOk_of fun m a ha => by have := h (m + 1) a (by simpa using ha); rwa [show i + 1 + m = i + (m + 1) by omega]⟩
/-- what of the rows hangs on the code alone -/
def stat (r : Rc) : Rc := { r with reads := [], ws := [] }
theorem pairS_stat (i j : Nat) (a b : Rc) : pairS i j (stat a) (stat b) = pairS i j a b := rfl
def rowOf (E : Env) (mu : Bool) (ops : Array Oper) (o : Oper) (m : Nat) : Rc := match isHoisted o with
  | true => ⟨o.dst, usesOf ops o, [], false, [], m, true⟩
  | false => ⟨o.dst, usesOf ops o, [], effS E mu o.op, [], m, false⟩
def rowsOf (E : Env) (mu : Bool) (ops : Array Oper) : List Oper → List Nat → List Rc
  | o :: l, m :: ms => rowOf E mu ops o m :: rowsOf E mu ops l ms
  | _, _ => []
def statOk (E : Env) (mu : Bool) (ops : Array Oper) (ms : List Nat) : Bool := allS (rowsOf E mu ops ops.toList ms) 0 (rowsOf E mu ops ops.toList ms)
theorem allOk_both {rs : List Rc} (h1 : allS (rs.map stat) 0 (rs.map stat) = true) (h2 : dynOk rs = true) : allOk rs 0 rs = true := by
  refine allOk_of fun i a ha => rowOk_of fun j b hb => ?_
  simp only [Nat.zero_add]
  have k1 := allS_all h1 i (stat a) (by simp [ha])
  simp only [Nat.zero_add] at k1
  have k2 := rowS_all k1 j (stat b) (by simp [hb])
  simp only [Nat.zero_add] at k2
  exact pairOk_of (by rwa [pairS_stat] at k2) (dynOk_all h2 i j a b ha hb)
noncomputable def runDrawK (F : EnvK) (ev : Evt R) (f : FuncId) (ops : Array Oper) (K : Tm → St → Option R) (s0 : St) : List Oper → List Nat → List Nat → Nat → List (Nat × St) → List Rc → Tm → St → Option R
  | [], _, _, _, _, rs, t, s => chk (dynOk rs) (K t s)
  | o :: rest, m :: ms, hs, k, H, rs, t, s =>
    (match isHoisted o with
    | true => (match hs with
      | p :: hs => runDrawK F ev f ops K s0 rest ms hs (k + 1) H (rs ++ [⟨o.dst, usesOf ops o, [.all p], false, [], m, true⟩]) t s
      | [] => none)
    | false => (match effS F.E (F.E.mutf f) o.op with
      | true => oneOpK F ev f ops o t s.fresh fun v s' => putT t o.dst v fun t' => runDrawK F ev f ops K s0 rest ms hs (k + 1) ((k, keepSt s s') :: H) (rs ++ [⟨o.dst, usesOf ops o, [], true, s'.ws, m, false⟩]) t' (keepSt s s')
      | false => stillOpK F (F.E.mutf f) ops o t (stateAt s0 m H) fun v rds => putT t o.dst v fun t' => runDrawK F ev f ops K s0 rest ms hs (k + 1) H (rs ++ [⟨o.dst, usesOf ops o, rds, false, [], m, false⟩]) t' s))
  | _ :: _, [], _, _, _, _, _, _ => none
noncomputable def hoistT (E : Env) : List Oper → Tm → St → (Tm → St → List Nat → Option R) → Option R
  | [], t, s, K => K t s []
  | o :: r, t, s, K => (match isHoisted o with
    | true => optK (op E false o.op [] s) fun p => putT t o.dst p.1 fun t' => hoistT E r t' p.2 fun t2 s2 hs => K t2 s2 (s.next :: hs)
    | false => hoistT E r t s K)
noncomputable def drawK (F : EnvK) (ev : Evt R) (f : FuncId) (ops : Array Oper) (K : Tm → St → Option R) (t : Tm) (s : St) : Option R :=
  match masks [] ops.toList with
  | some ms => (match statOk F.E (F.E.mutf f) ops ms with
    | true => hoistT F.E ops.toList t s fun t' s' hs => runDrawK F ev f ops K s' ops.toList ms hs 0 [] [] t' s'
    | false => none)
  | none => none
noncomputable def scrubK : List Nat → Tm → (Tm → Option R) → Option R
  | [], t, K => K t
  | i :: l, t, K => t.set i .undef fun t' => scrubK l t' K
noncomputable def codeStepK (F : EnvK) (ev : Evt R) (f : FuncId) (c : Code) (K : Kt R) (t : Tm) (s : St) : Option R :=
  match c with
  | .skip => K .norm t s
  | .label _ => K .norm t s
  | .region _ ops d => (match d with
    | false => runOpsK F ev f ops (K .norm) ops.toList t s
    | true => drawK F ev f ops (K .norm) t s)
  | .seq a b => ev.code f a (fun ex t s => match ex with | .norm => ev.code f b K t s | e => K e t s) t s
  | .cond c a b => (match opndT F.E t c with
    | .d (.bool x) => brK x (ev.code f a K t s) (ev.code f b K t s)
    | _ => none)
  | .block id b => ev.code f b (fun ex t s => match ex with | .exit i => (match Nat.beq i id with | true => K .norm t s | false => K (.exit i) t s) | e => K e t s) t s
  | .loop b => scrubK (F.E.dead f (headOf b)) t fun t => ev.code f b (fun ex t s => match ex with | .norm => ev.code f (.loop b) K t s | e => K e t s) t s
  | .exit id => K (.exit id) t s
  | .ret => K .ret t s
  | .rangeFunc g ps a b => (match opndT F.E t g with
    | .fn g caps => (match F.gk g with
      | none => ev.call g (.yld s.next :: caps) (fun _ s2 => match hget s2.heap s.next with
        | some (.loop _ _ _ _ _ none false) => leaveStK s { s2 with heap := hrem s2.heap s.next } fun s' => K .norm t s'
        | some (.loop _ _ _ _ _ (some e) false) => leaveStK s { s2 with heap := hrem s2.heap s.next } fun s' => K e t s'
        | _ => none) (s.fresh.push (.loop f t.toL ps.toList a b none false))
      | some _ => none)
    | _ => none)
  | _ => none
noncomputable def callStepK (F : EnvK) (ev : Evt R) (f : FuncId) (args : List V) (K : V → St → Option R) (s : St) : Option R :=
  match F.gk f with
  | some g => altsK K (g args s)
  | none => (match F.E.fi f with
    | some fi => (match Nat.ble args.length fi.ntmps with
      | true => Tm.setL args 0 (Tm.empty fi.ntmps) fun t => ev.code f fi.body (fun ex t s1 => match ex with
        | .exit _ => none
        | .norm => finishK F.E f fi s t s1 K
        | .ret => finishK F.E f fi s t s1 K) t s.fresh
      | false => none)
    | none => none)
noncomputable def evsK (R : Type) (F : EnvK) : Nat → Evt R :=
  Nat.rec { code := fun _ _ _ _ _ => none, call := fun _ _ _ _ => none } fun _ ev => { code := codeStepK F ev, call := callStepK F ev }

/-! what it gives, the evaluator gives -/
structure Ref (ek : Evt R) (ev : Evs R) : Prop where
  code : ∀ f c (K : Kt R) (K' : Kc R), (∀ ex t s r, t.ok → K ex t s = some r → K' ex t.toL s = some r) → ∀ t s r, t.ok → ek.code f c K t s = some r → ev.code f c K' t.toL s = some r
  call : ∀ f args (K K' : V → St → Option R), (∀ v s r, K v s = some r → K' v s = some r) → ∀ s r, ek.call f args K s = some r → ev.call f args K' s = some r
theorem endRoundK_ref {s0 : St} {l : Nat} {K K' : V → St → Option R} (hK : ∀ v s r, K v s = some r → K' v s = some r) {ex : Ex} {s : St} {r : R} (h : endRoundK s0 l K ex s = some r) : endRound s0 l K' ex s = some r := by
  unfold endRoundK at h
  unfold endRound
  split at h
  case h_2 => cases h
  rename_i hg
  simp only [hg]
  split at h
  · exact hK _ _ _ (leaveStK_some h)
  · rename_i hne
    have := hK _ _ _ (leaveStK_some h)
    cases ex with
    | norm => exact (hne rfl).elim
    | exit i => exact this
    | ret => exact this
section
variable {F : EnvK} (hF : F.Fit) {ek : Evt R} {ev : Evs R} (hr : Ref ek ev)
include hr
theorem yieldToK_ref {l : Nat} {args : List V} {K K' : V → St → Option R} (hK : ∀ v s r, K v s = some r → K' v s = some r) {s : St} {r : R} (h : yieldToK ek l args K s = some r) : yieldTo ev l args K' s = some r := by
  unfold yieldToK at h
  unfold yieldTo
  split at h
  case h_2 => cases h
  rename_i hg
  simp only [hg]
  obtain ⟨t', h1, h2, h3⟩ := setAllT_some (Tm.ofL_ok _) h
  rw [Tm.ofL_toL] at h2
  simp only [h2]
  refine hr.code _ _ _ _ (fun ex t1 s1 r ho h => ?_) _ _ _ h1 h3
  split at h
  case h_2 => cases h
  split at h
  case h_2 => cases h
  rename_i hg2
  simp only [hg2]
  exact hr.code _ _ _ _ (fun ex t2 s2 r _ h => endRoundK_ref hK h) _ _ _ ho h
theorem oneOpK_ref {f : FuncId} {ops : Array Oper} {o : Oper} {t : Tm} {s : St} {K K' : V → St → Option R} (hK : ∀ v s r, K v s = some r → K' v s = some r) {r : R} (h : oneOpK F ek f ops o t s K = some r) : oneOp F.E ev f ops o t.toL s K' = some r := by
  unfold oneOpK at h
  unfold oneOp
  rcases guardK_some h with ⟨h0, h⟩ | ⟨h0, h⟩
  · simp only [h0]
    split at h
    · rename_i heq
      simp only [heq]
      rw [opndT_eq, opndsT_eq] at h
      split at h
      · rename_i hg; simp only [hg]; exact hr.call _ _ _ _ hK _ _ h
      · rename_i hg; simp only [hg]; exact yieldToK_ref hr hK h
      · cases h
    · rename_i hx
      obtain ⟨v, s', h1, h⟩ := opT_some h
      split
      · rename_i heq; exact (hx _ _ _ heq).elim
      · simp only [h1]; exact hK _ _ _ h
  · simp only [h0]; exact hK _ _ _ h
theorem runOpsK_ref {f : FuncId} {ops : Array Oper} {K : Tm → St → Option R} {K' : List V → St → Option R} (hK : ∀ t s r, t.ok → K t s = some r → K' t.toL s = some r) : ∀ (l : List Oper) (t : Tm) (s : St) (r : R), t.ok → runOpsK F ek f ops K l t s = some r → runOps F.E ev f ops K' l t.toL s = some r
  | [], t, s, r, ho, h => hK _ _ _ ho h
  | o :: rest, t, s, r, ho, h => by
    simp only [runOpsK] at h
    simp only [runOps]
    refine oneOpK_ref hr (fun v s r h => ?_) h
    rw [putT_eq] at h
    have := runOpsK_ref hK rest _ _ _ (putTm_ok o.dst v ho) h
    rwa [putTm_toL o.dst v ho] at this
theorem runDrawK_ref {f : FuncId} {ops : Array Oper} {K : Tm → St → Option R} {K' : List V → St → Option R} (hK : ∀ t s r, t.ok → K t s = some r → K' t.toL s = some r) {s0 : St} (pre : List Rc) :
    ∀ (l : List Oper) (ms hs : List Nat) (k : Nat) (H : List (Nat × St)) (rs : List Rc) (t : Tm) (s : St) (r : R), t.ok →
    allS (rs.map stat ++ rowsOf F.E (F.E.mutf f) ops l ms) 0 (rs.map stat ++ rowsOf F.E (F.E.mutf f) ops l ms) = true →
    runDrawK F ek f ops K s0 l ms hs k H rs t s = some r → runDraw F.E ev f ops K' s0 l ms hs k H rs t.toL s = some r
  | [], _, _, _, _, rs, t, s, r, ho, hst, h => by
    simp only [runDrawK] at h
    obtain ⟨h1, h⟩ := chk_some h
    simp only [rowsOf, List.append_nil] at hst
    simp only [runDraw, allOk_both hst h1, cond_true]; exact hK _ _ _ ho h
  | o :: rest, m :: ms, hs, k, H, rs, t, s, r, ho, hst, h => by
    simp only [runDrawK] at h
    simp only [runDraw]
    simp only [rowsOf, rowOf] at hst
    split at h
    · rename_i h1
      simp only [h1, cond_true] at hst ⊢
      split at h
      · refine runDrawK_ref hK pre _ _ _ _ _ _ _ _ _ ho ?_ h
        simpa [stat] using hst
      · cases h
    · rename_i h1
      simp only [h1, cond_false] at hst ⊢
      split at h
      · rename_i h2
        simp only [h2, cond_true] at hst ⊢
        refine oneOpK_ref hr (fun v s' r h => ?_) h
        rw [putT_eq] at h
        have := runDrawK_ref hK pre _ _ _ _ _ _ _ _ _ (putTm_ok o.dst v ho) (by simpa [stat] using hst) h
        rwa [putTm_toL o.dst v ho] at this
      · rename_i h2
        simp only [h2, cond_false] at hst ⊢
        obtain ⟨v, rd, h3, h⟩ := stillOpK_some h
        simp only [h3]
        rw [putT_eq] at h
        have := runDrawK_ref hK pre _ _ _ _ _ _ _ _ _ (putTm_ok o.dst v ho) (by simpa [stat] using hst) h
        rwa [putTm_toL o.dst v ho] at this
  | _ :: _, [], _, _, _, _, _, _, _, _, _, h => by simp [runDrawK] at h
omit hr in
theorem hoistT_ref {E : Env} : ∀ {l : List Oper} {t : Tm} {s : St} {K : Tm → St → List Nat → Option R} {r : R}, t.ok → hoistT E l t s K = some r → ∃ t' s' hs, t'.ok ∧ hoist E l t.toL s = some (t'.toL, s', hs) ∧ K t' s' hs = some r
  | [], t, s, K, r, ho, h => ⟨t, s, [], ho, rfl, h⟩
  | o :: l, t, s, K, r, ho, h => by
    simp only [hoistT] at h
    split at h
    · rename_i h1
      obtain ⟨p, h2, h⟩ := optK_some h
      rw [putT_eq] at h
      obtain ⟨t2, s2, hs, h3, h4, h5⟩ := hoistT_ref (K := fun t2 s2 hs => K t2 s2 (s.next :: hs)) (putTm_ok o.dst p.1 ho) h
      rw [putTm_toL o.dst p.1 ho] at h4
      refine ⟨t2, s2, s.next :: hs, h3, ?_, h5⟩
      have hop : op E false o.op t.toL s = op E false o.op [] s := by
        have : ∃ e, o.op = .alloc e := by
          unfold isHoisted at h1
          split at h1
          · rename_i h6 _; exact ⟨_, h6⟩
          · cases h1
        obtain ⟨e, he⟩ := this
        rw [he]; rfl
      simp only [hoist, h1, cond_true, hop, h2, h4]
    · rename_i h1
      obtain ⟨t2, s2, hs, h3, h4, h5⟩ := hoistT_ref ho h
      exact ⟨t2, s2, hs, h3, by simp only [hoist, h1, cond_false, h4], h5⟩
omit hr in
theorem scrubK_some : ∀ {l : List Nat} {t : Tm} {K : Tm → Option R} {r : R}, t.ok → scrubK l t K = some r → ∃ t', t'.ok ∧ t'.toL = scrubL l t.toL ∧ K t' = some r
  | [], t, K, r, ho, h => ⟨t, ho, rfl, h⟩
  | i :: l, t, K, r, ho, h => by
    simp only [scrubK, Tm.set_eq] at h
    obtain ⟨t', h1, h2, h3⟩ := scrubK_some (Tm.put_ok i .undef ho) h
    exact ⟨t', h1, by rw [h2, Tm.put_toL i .undef ho]; rfl, h3⟩
include hF
theorem codeStepK_ref {f : FuncId} {c : Code} {K : Kt R} {K' : Kc R} (hK : ∀ ex t s r, t.ok → K ex t s = some r → K' ex t.toL s = some r) {t : Tm} {s : St} {r : R} (ho : t.ok) (h : codeStepK F ek f c K t s = some r) : codeStep F.E ev f c K' t.toL s = some r := by
  unfold codeStepK at h
  unfold codeStep
  split at h
  · exact hK _ _ _ _ ho h
  · exact hK _ _ _ _ ho h
  · rename_i id ops d
    cases d with
    | false => exact runOpsK_ref hr (fun t s r ho h => hK _ _ _ _ ho h) _ _ _ _ ho h
    | true =>
      simp only at h
      unfold drawK at h
      simp only
      unfold draw
      split at h
      case h_2 => cases h
      rename_i ms hms
      split at h
      case h_2 => cases h
      rename_i hst
      obtain ⟨t', s', hs, h1, h2, h3⟩ := hoistT_ref (K := fun t' s' hs => runDrawK F ek f ops (K .norm) s' ops.toList ms hs 0 [] [] t' s') ho h
      simp only [hms, h2]
      exact runDrawK_ref hr (fun t s r ho h => hK _ _ _ _ ho h) [] _ _ _ _ _ _ _ _ _ h1 (by simpa [statOk] using hst) h3
  · refine hr.code _ _ _ _ (fun ex t s r ho h => ?_) _ _ _ ho h
    split at h
    · exact hr.code _ _ _ _ hK _ _ _ ho h
    · rename_i hne
      split
      · exact (hne rfl).elim
      · exact hK _ _ _ _ ho h
  · rw [opndT_eq] at h
    split at h
    case h_2 => cases h
    rename_i hx
    simp only [hx]
    rcases brK_some h with ⟨rfl, h⟩ | ⟨rfl, h⟩
    · exact hr.code _ _ _ _ hK _ _ _ ho h
    · exact hr.code _ _ _ _ hK _ _ _ ho h
  · refine hr.code _ _ _ _ (fun ex t s r ho h => ?_) _ _ _ ho h
    split at h
    · split at h
      · rename_i hb; simp only [hb, cond_true]; exact hK _ _ _ _ ho h
      · rename_i hb; simp only [hb, cond_false]; exact hK _ _ _ _ ho h
    · rename_i hne
      split
      · exact (hne _ rfl).elim
      · exact hK _ _ _ _ ho h
  · obtain ⟨t', h1, h2, h3⟩ := scrubK_some ho h
    simp only [scrub, ← h2]
    refine hr.code _ _ _ _ (fun ex t s r ho h => ?_) _ _ _ h1 h3
    split at h
    · exact hr.code _ _ _ _ hK _ _ _ ho h
    · rename_i hne
      split
      · exact (hne rfl).elim
      · exact hK _ _ _ _ ho h
  · exact hK _ _ _ _ ho h
  · exact hK _ _ _ _ ho h
  · rw [opndT_eq] at h
    split at h
    case h_2 => cases h
    rename_i hg
    simp only [hg]
    split at h
    case h_2 => cases h
    rename_i hn
    rw [hF]
    simp only [hn, Option.map_none]
    refine hr.call _ _ _ _ (fun v s2 r h => ?_) _ _ h
    split at h
    · rename_i hg2; simp only [hg2]; exact hK _ _ _ _ ho (leaveStK_some h)
    · rename_i hg2; simp only [hg2]; exact hK _ _ _ _ ho (leaveStK_some h)
    · cases h
  · cases h
theorem callStepK_ref {f : FuncId} {args : List V} {K K' : V → St → Option R} (hK : ∀ v s r, K v s = some r → K' v s = some r) {s : St} {r : R} (h : callStepK F ek f args K s = some r) : callStep F.E ev f args K' s = some r := by
  unfold callStepK at h
  unfold callStep
  rw [hF]
  split at h
  · rename_i g hg
    simp only [hg, Option.map_some]
    obtain ⟨v, s', h1, h⟩ := altsK_some h
    rw [h1]
    exact hK _ _ _ h
  · rename_i hn
    simp only [hn, Option.map_none]
    split at h
    case h_2 => cases h
    rename_i hfi
    simp only [hfi]
    split at h
    case h_2 => cases h
    rename_i hle
    rw [Tm.setL_eq] at h
    have e1 := Tm.of_list args _ (ble_iff.1 hle)
    rw [← e1]
    refine hr.code _ _ _ _ (fun ex t s1 r ho h => ?_) _ _ _ (Tm.putL_ok _ _ _ (Tm.empty_ok _)) h
    split at h
    · cases h
    · obtain ⟨v, s', h1, h⟩ := finishK_some h
      simp only [h1]; exact hK _ _ _ h
    · obtain ⟨v, s', h1, h⟩ := finishK_some h
      simp only [h1]; exact hK _ _ _ h
end
theorem evsK_ref {F : EnvK} (hF : F.Fit) : ∀ n : Nat, Ref (evsK R F n) (evs R F.E n)
  | 0 => ⟨fun _ _ _ _ _ _ _ _ _ h => by (have h : (none : Option R) = some _ := h; cases h), fun _ _ _ _ _ _ _ h => by (have h : (none : Option R) = some _ := h; cases h)⟩
  | n + 1 => ⟨fun _ _ _ _ hK _ _ _ ho h => codeStepK_ref hF (evsK_ref hF n) hK ho h, fun _ _ _ _ hK _ _ h => callStepK_ref hF (evsK_ref hF n) hK h⟩
noncomputable def runK (F : EnvK) (n : Nat) (f : FuncId) (args : List V) : Option (V × St) := (evsK (V × St) F n).call f args (fun v s => some (v, s)) St.none
theorem runK_run {F : EnvK} (hF : F.Fit) {n : Nat} {f : FuncId} {args : List V} {v : V} {s' : St} (h : runK F n f args = some (v, s')) : run F.E n f args = some (v, s') :=
  (evsK_ref hF n).call _ _ _ _ (fun _ _ _ h => h) _ _ h
end
end Go.Ev
