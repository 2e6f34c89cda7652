/- The environment of this seat: types, functions, tables, contracts; that it is right. -/
import Derived.Test.YtelhpneeiebeeaaGreatDoorCoI
import Derived.Test.YtelhpneeiebeeaaGreatDoorBw3
import Derived.Test.YtelhpneeiebeeaaGreatDoorEnvA
set_option maxRecDepth 100000
namespace Go.Ev
open Go.Proofs
def tabPow : List D := [.int .u64 1, .int .u64 10, .int .u64 100, .int .u64 1000, .int .u64 10000, .int .u64 100000, .int .u64 1000000, .int .u64 10000000, .int .u64 100000000, .int .u64 1000000000, .int .u64 10000000000, .int .u64 100000000000, .int .u64 1000000000000, .int .u64 10000000000000, .int .u64 100000000000000, .int .u64 1000000000000000, .int .u64 10000000000000000, .int .u64 100000000000000000, .int .u64 1000000000000000000, .int .u64 10000000000000000000]
def tabB32 : List D := [.int .u8 0, .int .u8 1, .int .u8 28, .int .u8 2, .int .u8 29, .int .u8 14, .int .u8 24, .int .u8 3, .int .u8 30, .int .u8 22, .int .u8 20, .int .u8 15, .int .u8 25, .int .u8 17, .int .u8 4, .int .u8 8, .int .u8 31, .int .u8 27, .int .u8 13, .int .u8 23, .int .u8 21, .int .u8 19, .int .u8 16, .int .u8 7, .int .u8 26, .int .u8 12, .int .u8 18, .int .u8 6, .int .u8 11, .int .u8 5, .int .u8 10, .int .u8 9]
def tabB64 : List D := [.int .u8 0, .int .u8 1, .int .u8 56, .int .u8 2, .int .u8 57, .int .u8 49, .int .u8 28, .int .u8 3, .int .u8 61, .int .u8 58, .int .u8 42, .int .u8 50, .int .u8 38, .int .u8 29, .int .u8 17, .int .u8 4, .int .u8 62, .int .u8 47, .int .u8 59, .int .u8 36, .int .u8 45, .int .u8 43, .int .u8 51, .int .u8 22, .int .u8 53, .int .u8 39, .int .u8 33, .int .u8 30, .int .u8 24, .int .u8 18, .int .u8 12, .int .u8 5, .int .u8 63, .int .u8 55, .int .u8 48, .int .u8 27, .int .u8 60, .int .u8 41, .int .u8 37, .int .u8 16, .int .u8 46, .int .u8 35, .int .u8 44, .int .u8 21, .int .u8 52, .int .u8 32, .int .u8 23, .int .u8 11, .int .u8 54, .int .u8 26, .int .u8 40, .int .u8 15, .int .u8 34, .int .u8 20, .int .u8 31, .int .u8 10, .int .u8 25, .int .u8 14, .int .u8 19, .int .u8 9, .int .u8 13, .int .u8 8, .int .u8 7, .int .u8 6]
def glob0 (g : Nat) : Option (List D) := match g with
  | 1 => some tabPow
  | 2 => some tabB32
  | 3 => some tabB64
  | _ => none
def memF (f : FuncId) : List FuncId → Bool
  | [] => false
  | x :: l => Nat.beq x f || memF f l
def keep0 (f : FuncId) : Bool := memF f [66, 67, 180, 288]
def mut0 (f : FuncId) : Bool := memF f [18, 180, 113, 288, 247, 108, 170, 169]
def isWord : List V → Bool
  | [.d (.str _), .d (.bool _)] => true
  | _ => false
noncomputable def envOf (dead : FuncId → Nat → List Nat) (gk : FuncId → Option Alts) : Env :=
  { ti := tiTab.get, fi := fiTab.get, intr := fun f => (gk f).map fun g args s => pick (g args s), glob := glob0, mutf := mut0, keep := keep0, eqc := fun t a => Nat.beq t 128 && isWord a, dead := dead }
noncomputable def envK (dead : FuncId → Nat → List Nat) (gk : FuncId → Option Alts) : EnvK := ⟨envOf dead gk, gk⟩
theorem envK_fit (dead : FuncId → Nat → List Nat) (gk : FuncId → Option Alts) : (envK dead gk).Fit := rfl
/-- Are contracts kept? -/
def AltOK (f : FuncId) (g : Alts) : Prop := ∀ args s v s', pick (g args s) = some (v, s') → InvokeOK Tryz.prog glob0 f args s v s'
def GkOK (gk : FuncId → Option Alts) : Prop := ∀ f g, gk f = some g → AltOK f g
theorem stood128 : Tryz.prog.stoodInHeld 128 = false := by kernel_rfl
theorem word_eq2 (l1 l2 : List UInt8) (b1 b2 : Bool) (w : World) (x y : Operand) (op : BinOp) :
    (Go.eqGuard op 128 x y (.agg ⟨[.string ⟨⟨l1⟩⟩, .bool b1]⟩) (.agg ⟨[.string ⟨⟨l2⟩⟩, .bool b2]⟩)).run Tryz.prog w = .ok () w ∧ (Op.equal 128 (.agg ⟨[.string ⟨⟨l1⟩⟩, .bool b1]⟩) (.agg ⟨[.string ⟨⟨l2⟩⟩, .bool b2]⟩)).run Tryz.prog w = .ok (l1 == l2 && (b1 == b2)) w := by
  have hg : Tryz.prog.eqGuardType Tryz.prog.depth 128 = false := by kernel_rfl
  refine ⟨?_, ?_⟩
  · cases op <;> simp [Go.eqGuard, hg]
  · unfold Op.equal
    obtain ⟨n, hn⟩ : ∃ n, Op.maxDepth = n + 1 + 1 := ⟨9998, rfl⟩
    rw [hn]; unfold Op.equalIn
    have hu := Tryz.underlying128
    have p9 : ∀ (l : List UInt8) (b : Bool) (w : World), (part 9 ⟨[.string ⟨⟨l⟩⟩, .bool b]⟩ 0).run Tryz.prog w = .ok (.string ⟨⟨l⟩⟩) w := by
      intro l b w; simp [part, isAgg, run_underlying Tryz.underlying9]
    have p4 : ∀ (l : List UInt8) (b : Bool) (w : World), (part 4 ⟨[.string ⟨⟨l⟩⟩, .bool b]⟩ 1).run Tryz.prog w = .ok (.bool b) w := by
      intro l b w; simp [part, isAgg, run_underlying Tryz.underlying4]
    have e9 : ∀ (l m : List UInt8) (w : World), (Op.equalIn (n + 1) 9 (.string ⟨⟨l⟩⟩) (.string ⟨⟨m⟩⟩)).run Tryz.prog w = .ok (l == m) w := by
      intro l m w
      unfold Op.equalIn
      simp [run_underlying Tryz.underlying9]
      show ((⟨l⟩ : Array UInt8) == ⟨m⟩) = (l == m)
      simp
    have e4 : ∀ (l m : Bool) (w : World), (Op.equalIn (n + 1) 4 (.bool l) (.bool m)).run Tryz.prog w = .ok (l == m) w := by
      intro l m w; unfold Op.equalIn; simp [run_underlying Tryz.underlying4]
    simp only [Sem.run_bind, run_underlying hu, Result.andThen_ok]
    simp [p9, p4, e9, e4]
    cases h1 : (l1 == l2) <;> cases h2 : (b1 == b2) <;> simp_all
theorem eqCells_nil {ys : List V} {r : Bool} (h : eqCells [] ys = some r) : ys = [] ∧ r = true := by
  cases ys with
  | nil => simp [eqCells] at h; exact ⟨rfl, h⟩
  | cons y ys => simp [eqCells] at h
theorem eqCells_str {a : List UInt8} {x ys : List V} {r : Bool} (h : eqCells (.d (.str a) :: x) ys = some r) : ∃ b y r', ys = .d (.str b) :: y ∧ eqCells x y = some r' ∧ r = ((a == b) && r') := by
  cases ys with
  | nil => simp [eqCells] at h
  | cons y ys =>
    cases y with
    | d d =>
      cases d with
      | str b =>
        simp only [eqCells] at h
        cases hr : eqCells x ys with
        | none => simp [hr] at h
        | some r' => simp [hr] at h; exact ⟨b, ys, r', rfl, hr, h.symm⟩
      | _ => simp [eqCells] at h
    | _ => simp [eqCells] at h
theorem eqCells_bool {a : Bool} {x ys : List V} {r : Bool} (h : eqCells (.d (.bool a) :: x) ys = some r) : ∃ b y r', ys = .d (.bool b) :: y ∧ eqCells x y = some r' ∧ r = ((a == b) && r') := by
  cases ys with
  | nil => simp [eqCells] at h
  | cons y ys =>
    cases y with
    | d d =>
      cases d with
      | bool b =>
        simp only [eqCells] at h
        cases hr : eqCells x ys with
        | none => simp [hr] at h
        | some r' => simp [hr] at h; exact ⟨b, ys, r', rfl, hr, h.symm⟩
      | _ => simp [eqCells] at h
    | _ => simp [eqCells] at h
theorem word_eq {g : G} {a b : List V} {r : Bool} {ca cb : List Value} (h : eqCells a b = some r) (ha : VRL g a ca) (hb : VRL g b cb) (hl : isWord a = true) (w : World) (x y : Operand) (op : BinOp) :
    (Go.eqGuard op 128 x y (.agg ⟨ca⟩) (.agg ⟨cb⟩)).run Tryz.prog w = .ok () w ∧ (Op.equal 128 (.agg ⟨ca⟩) (.agg ⟨cb⟩)).run Tryz.prog w = .ok r w := by
  unfold isWord at hl
  split at hl
  case h_2 => cases hl
  rename_i l1 b1
  obtain ⟨v1, v2, rfl, h1, h2⟩ := vrl2 ha
  simp only [VR] at h1 h2; cases h1; cases h2
  have key : ∃ l2 b2, b = [.d (.str l2), .d (.bool b2)] ∧ r = (l1 == l2 && (b1 == b2)) := by
    obtain ⟨l2, y, r1, rfl, h1, rfl⟩ := eqCells_str h
    obtain ⟨b2, y2, r2, rfl, h2, rfl⟩ := eqCells_bool h1
    obtain ⟨rfl, rfl⟩ := eqCells_nil h2
    exact ⟨l2, b2, rfl, by simp⟩
  obtain ⟨l2, b2, rfl, rfl⟩ := key
  obtain ⟨u1, u2, rfl, k1, k2⟩ := vrl2 hb
  simp only [VR] at k1 k2; cases k1; cases k2
  exact word_eq2 l1 l2 b1 b2 w x y op
theorem envOf_ok {dead : FuncId → Nat → List Nat} {gk : FuncId → Option Alts} (h : GkOK gk) : EnvOK Tryz.prog (envOf dead gk) := by
  refine ⟨by kernel_rfl, fun t i hi => Tab.get_all tiTab_ok hi, fun f i hi => Tab.get_all fiTab_ok hi, fun t a ht b r hr g ca cb ha hb w x y op => ?_, fun f g hg args s v s' hh => ?_⟩
  · simp only [envOf, Bool.and_eq_true] at ht
    obtain ⟨h1, h2⟩ := ht
    obtain rfl := nbeq_iff.1 h1
    exact word_eq hr ha hb h2 w x y op
  · simp only [envOf, Option.map_eq_some_iff] at hg
    obtain ⟨k, hk, rfl⟩ := hg
    exact h f k hk args s v s' hh
noncomputable def tab1 : Tab Alts := (.node 195 (.node 116 (.leaf 64 (strG 106 5)) (.node 117 (.leaf 116 (ccG 106)) (.leaf 117 (growG 106 5)))) (.node 229 (.leaf 195 cmpG) (.node 282 (.leaf 229 idxG) (.leaf 282 cntG))))
theorem tab1_ok : tab1.All AltOK := ⟨⟨(fun _ _ _ _ h => str_ok ent_64 walk_Str_nil walk_Str walk_Str_room walk_Str_noroom h), ⟨(fun _ _ _ _ h => cc_ok ent_116 walk_cc_used walk_cc_fresh h), (fun _ _ _ _ h => grow_ok' ent_117 walk_Grow0 walk_Grow h)⟩⟩, ⟨(fun _ _ _ _ h => cmp_ok ext_195 h), ⟨(fun _ _ _ _ h => idx_ok ext_229 h), (fun _ _ _ _ h => cnt_ok ext_282 h)⟩⟩⟩
theorem gk_of {t : Tab Alts} (h : t.All AltOK) : GkOK t.get := fun _ _ hg => Tab.get_all h hg
noncomputable def F1 : EnvK := envK (fun _ _ => []) tab1.get
theorem F1_ok : EnvOK Tryz.prog F1.E := envOf_ok (gk_of tab1_ok)
theorem clone_tree66 (c : Bool) (x : List D) (els : List (List D)) (s : St) : (evsK (V × St) F1 40).call 66 [.d (.sl c (x :: els))] (fun v s => some (v, s)) s = cloneTree false 9 1 x els s := by kernel_rfl
theorem clone_alt66 : AltOK 66 (cloneG false 9 1) := fun _ _ _ _ h => clone_ok ent_66 walk_clone66 (clone_run F1_ok (envK_fit _ _) rfl (by decide) clone_tree66) h
noncomputable def tab2 : Tab Alts := (.node 117 (.node 66 (.leaf 64 (strG 106 5)) (.node 116 (.leaf 66 (cloneG false 9 1)) (.leaf 116 (ccG 106)))) (.node 229 (.node 195 (.leaf 117 (growG 106 5)) (.leaf 195 cmpG)) (.node 282 (.leaf 229 idxG) (.leaf 282 cntG))))
theorem tab2_ok : tab2.All AltOK := ⟨⟨(fun _ _ _ _ h => str_ok ent_64 walk_Str_nil walk_Str walk_Str_room walk_Str_noroom h), ⟨clone_alt66, (fun _ _ _ _ h => cc_ok ent_116 walk_cc_used walk_cc_fresh h)⟩⟩, ⟨⟨(fun _ _ _ _ h => grow_ok' ent_117 walk_Grow0 walk_Grow h), (fun _ _ _ _ h => cmp_ok ext_195 h)⟩, ⟨(fun _ _ _ _ h => idx_ok ext_229 h), (fun _ _ _ _ h => cnt_ok ext_282 h)⟩⟩⟩
noncomputable def F2 : EnvK := envK (fun _ _ => []) tab2.get
theorem F2_ok : EnvOK Tryz.prog F2.E := envOf_ok (gk_of tab2_ok)
end Go.Ev
