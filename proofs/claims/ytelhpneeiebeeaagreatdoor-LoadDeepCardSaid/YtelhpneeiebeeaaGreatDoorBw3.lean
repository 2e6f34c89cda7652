/- Clone of an empty slice; functions without a body. -/
import Derived.Test.YtelhpneeiebeeaaGreatDoorBw2
import Derived.Test.YtelhpneeiebeeaaGreatDoorCoB
set_option maxRecDepth 1000000
set_option maxHeartbeats 2000000
namespace Go.Ev
open Go.Proofs Go.RowKit
theorem enters_own {P : Program} {f : FuncId} {fn : Func} {c : Code} (hf : P.funcs[f]? = some fn) (hname : (fn.name == "runtime.NumGoroutine") = false) (hb : fn.body = some c) (args : Array Value) (w : World) : (callFunc f args).run P w = .ok (.enter f args) w := by
  have h1 : fn.name ≠ "runtime.NumGoroutine" := by simpa using hname
  simp [callFunc, hf, h1, hb]
theorem run_eqnil {P : Program} {t e : TypeId} (hu : P.underlying t = some (.slice e)) (A : Option Addr) (c : Nat) (w : World) : (Go.binOp .eql t (.slice A 0 c) (.slice none 0 0)).run P w = .ok (.bool A.isNone) w := by
  have h : (Op.equal t (.slice A 0 c) (.slice none 0 0)).run P w = .ok A.isNone w := by
    unfold Op.equal
    obtain ⟨n, hn⟩ : ∃ n, Op.maxDepth = n + 1 := ⟨9999, rfl⟩
    rw [hn]; unfold Op.equalIn
    cases A <;> simp [run_underlying hu]
  have := binOp_eqlV .eql (.inl rfl) t rfl h
  simpa using this
theorem walk_clone66 (A : Option Addr) (c : Nat) (w : World) : Calls Tryz.prog 66 #[.slice A 0 c] w fun e w' => (∃ A', e = .returned (.slice A' 0 0)) ∧ ∃ k : Nat, w' = { w with drawn := w.drawn + k } ∨ ∃ o, w' = { w.alloc o with drawn := (w.alloc o).drawn + k } := by
  cases A with
  | none =>
    go_enter Tryz.func66, Tryz.ntmps66
    go_wp2
    rw [run_eqnil Tryz.underlying24]
    simp only [Result.andThen, Option.isNone]
    rw [Oper.upon_value]
    go_wp2
    go_ret
    exact ⟨⟨_, rfl⟩, 0, .inl rfl⟩
  | some a =>
    go_enter Tryz.func66, Tryz.ntmps66
    go_wp2
    rw [run_eqnil Tryz.underlying24]
    simp only [Result.andThen, Option.isNone]
    rw [Oper.upon_value]
    go_wp2
    go_ret
    exact ⟨⟨_, rfl⟩, 0, .inr ⟨_, rfl⟩⟩
theorem walk_clone180 (A : Option Addr) (c : Nat) (w : World) : Calls Tryz.prog 180 #[.slice A 0 c] w fun e w' => (∃ A', e = .returned (.slice A' 0 0)) ∧ ∃ k : Nat, w' = { w with drawn := w.drawn + k } ∨ ∃ o, w' = { w.alloc o with drawn := (w.alloc o).drawn + k } := by
  cases A with
  | none =>
    go_enter Tryz.func180, Tryz.ntmps180
    go_wp2
    rw [run_eqnil Tryz.underlying22]
    simp only [Result.andThen, Option.isNone]
    rw [Oper.upon_value]
    go_wp2
    go_ret
    exact ⟨⟨_, rfl⟩, 0, .inl rfl⟩
  | some a =>
    go_enter Tryz.func180, Tryz.ntmps180
    go_wp2
    rw [run_eqnil Tryz.underlying22]
    simp only [Result.andThen, Option.isNone]
    rw [Oper.upon_value]
    go_wp2
    go_ret
    exact ⟨⟨_, rfl⟩, 0, .inr ⟨_, rfl⟩⟩
theorem walk_clone288 (A : Option Addr) (c : Nat) (w : World) : Calls Tryz.prog 288 #[.slice A 0 c] w fun e w' => (∃ A', e = .returned (.slice A' 0 0)) ∧ ∃ k : Nat, w' = { w with drawn := w.drawn + k } ∨ ∃ o, w' = { w.alloc o with drawn := (w.alloc o).drawn + k } := by
  cases A with
  | none =>
    go_enter Tryz.func288, Tryz.ntmps288
    go_wp2
    rw [run_eqnil Tryz.underlying58]
    simp only [Result.andThen, Option.isNone]
    rw [Oper.upon_value]
    go_wp2
    go_ret
    exact ⟨⟨_, rfl⟩, 0, .inl rfl⟩
  | some a =>
    go_enter Tryz.func288, Tryz.ntmps288
    go_wp2
    rw [run_eqnil Tryz.underlying58]
    simp only [Result.andThen, Option.isNone]
    rw [Oper.upon_value]
    go_wp2
    go_ret
    exact ⟨⟨_, rfl⟩, 0, .inr ⟨_, rfl⟩⟩
theorem ext_229 (args : Array Value) (w : World) : (callFunc 229 args).run Tryz.prog w = ((Extern.BytealgIndexByte.indexByte args).run Tryz.prog w).andThen fun v w' => .ok (.value v) w' :=
  run_callFunc_extern Tryz.func229 (by kernel_rfl) (by kernel_rfl) (by kernel_rfl) (e := Extern.BytealgIndexByte.indexByte) (by kernel_rfl) args w
theorem ext_282 (args : Array Value) (w : World) : (callFunc 282 args).run Tryz.prog w = ((Extern.BytealgCount.count args).run Tryz.prog w).andThen fun v w' => .ok (.value v) w' :=
  run_callFunc_extern Tryz.func282 (by kernel_rfl) (by kernel_rfl) (by kernel_rfl) (e := Extern.BytealgCount.count) (by kernel_rfl) args w
theorem ext_195 (args : Array Value) (w : World) : (callFunc 195 args).run Tryz.prog w = ((Extern.BytealgCompare.compare args).run Tryz.prog w).andThen fun v w' => .ok (.value v) w' :=
  run_callFunc_extern Tryz.func195 (by kernel_rfl) (by kernel_rfl) (by kernel_rfl) (e := Extern.BytealgCompare.compare) (by kernel_rfl) args w
theorem ext_148 (args : Array Value) (w : World) : (callFunc 148 args).run Tryz.prog w = ((Extern.BytealgCompare.compare args).run Tryz.prog w).andThen fun v w' => .ok (.value v) w' :=
  run_callFunc_extern Tryz.func148 (by kernel_rfl) (by kernel_rfl) (by kernel_rfl) (e := Extern.BytealgCompare.compare) (by kernel_rfl) args w
theorem ent_116 (args : Array Value) (w : World) : (callFunc 116 args).run Tryz.prog w = .ok (.enter 116 args) w := enters_own Tryz.func116 (by kernel_rfl) rfl args w
theorem ent_117 (args : Array Value) (w : World) : (callFunc 117 args).run Tryz.prog w = .ok (.enter 117 args) w := enters_own Tryz.func117 (by kernel_rfl) rfl args w
theorem ent_64 (args : Array Value) (w : World) : (callFunc 64 args).run Tryz.prog w = .ok (.enter 64 args) w := enters_own Tryz.func64 (by kernel_rfl) rfl args w
theorem ent_66 (args : Array Value) (w : World) : (callFunc 66 args).run Tryz.prog w = .ok (.enter 66 args) w := enters_own Tryz.func66 (by kernel_rfl) rfl args w
theorem ent_180 (args : Array Value) (w : World) : (callFunc 180 args).run Tryz.prog w = .ok (.enter 180 args) w := enters_own Tryz.func180 (by kernel_rfl) rfl args w
theorem ent_288 (args : Array Value) (w : World) : (callFunc 288 args).run Tryz.prog w = .ok (.enter 288 args) w := enters_own Tryz.func288 (by kernel_rfl) rfl args w
end Go.Ev
