/- Walks through strings.Builder's methods, slices.Clone, and what has no body. -/
import Derived.Test.YtelhpneeiebeeaaGreatDoorProg
import Derived.WalkKit
import Derived.RegionTactic
import Derived.Laws.Externs
import Derived.Laws.IdiomCopy
import Derived.Deep.Draws
import Derived.Lib.Bytealg
import Derived.Lib.Builder
import Derived.Lib.UnsafeStr
import Derived.Lib.MakeNoZero
set_option maxRecDepth 1000000
set_option maxHeartbeats 2000000
namespace Go.Ev
open Go.Proofs Go.RowKit
theorem walk_cc_used (b : Nat) (w : World) (h0 : w.cell? ⟨b, 0, none⟩ = some (.pointer (some ⟨b, 0, none⟩))) :
    Calls Tryz.prog 116 #[.pointer (some ⟨b, 0, none⟩)] w fun e w' => e = .returned (.tuple #[]) ∧ w' = w := by
  have hj := Tryz.type106
  go_enter Tryz.func116, Tryz.ntmps116
  go_wp2
  rw [Lib.run_neq_ptr_same w _ Tryz.underlying104 hj]
  go_wp2
  go_end0
  exact ⟨rfl, rfl⟩
theorem walk_cc_fresh (b : Nat) (w : World) (h0 : w.cell? ⟨b, 0, none⟩ = some (.pointer none)) (hsh : w.shape? b = some (106, 2)) (hfz : w.frozen? ⟨b, 0, none⟩ = false) :
    Calls Tryz.prog 116 #[.pointer (some ⟨b, 0, none⟩)] w fun e w' => e = .returned (.tuple #[]) ∧ w' = w.setCell ⟨b, 0, none⟩ (.pointer (some ⟨b, 0, none⟩)) := by
  have hj := Tryz.type106
  have hlies : liesAt Tryz.prog Tryz.prog.depth 106 (2 / Tryz.prog.cellsOf 106) 0 106 1 = true := by kernel_rfl
  go_enter Tryz.func116, Tryz.ntmps116
  go_wp2
  rw [Lib.run_to_unsafe w ⟨b, 0, none⟩ Tryz.underlying104 Tryz.underlying240 hj (of_decide_eq_true (by kernel_rfl)) hsh (Nat.zero_lt_succ 1)]
  simp only [Result.andThen]
  rw [Oper.upon_value]
  go_wp2
  rw [run_callFunc_extern Tryz.func182 (by kernel_rfl) (by kernel_rfl) (by kernel_rfl) (e := Extern.AbiNoEscape.same) (by kernel_rfl)]
  rw [Lib.run_noEscape]
  simp only [Result.andThen]
  rw [Oper.upon_value]
  go_wp2
  rw [Lib.run_from_unsafe w ⟨b, 0, none⟩ Tryz.underlying240 Tryz.underlying104 hj hsh hlies]
  simp only [Result.andThen]
  rw [Oper.upon_value]
  go_wp2
  go_end0
  exact ⟨rfl, rfl⟩
theorem walk_grow (b n : Nat) (w : World) (hb : b < w.heap.size) (c1 : w.cell? ⟨b, 1, none⟩ = some (.slice none 0 0)) (f1 : w.frozen? ⟨b, 1, none⟩ = false) (hn : n ≤ 1099511627776) :
    Calls Tryz.prog 183 #[.pointer (some ⟨b, 0, none⟩), .int .i64 n] w fun e w' => e = .returned (.tuple #[]) ∧ ∃ (cs : Array Value) (k : Nat), n ≤ cs.size ∧ w' = ((w.setCell ⟨b, 1, none⟩ (.slice (some ⟨w.heap.size, 0, none⟩) 0 cs.size)).alloc (.cells cs 5)).drewN k := by
  obtain ⟨cs, hrun, hle, hmax⟩ := Lib.run_makeNoZero (P := Tryz.prog) w.drew #[3] 31 5 Tryz.underlying31 n (by omega)
  have hw : IntKind.i64.wrap (IntKind.i64.wrap 0 + (n : Int)) = n := by
    rw [IntKind.wrap_i64, IntKind.wrap_i64]
    omega
  have hcall : (callFunc 220 #[.int .i64 (IntKind.i64.wrap (IntKind.i64.wrap 0 + (n : Int)))]).run Tryz.prog w.drew = .ok (.value (.slice (some ⟨w.drew.heap.size, 0, none⟩) n cs.size)) (w.drew.drew.drew.alloc (.cells cs 5)) := by
    rw [hw, run_callFunc_extern Tryz.func220 (by kernel_rfl) (by kernel_rfl) (by kernel_rfl) (e := Extern.BytealgMakeNoZero.makeNoZero #[3] #[31]) (by kernel_rfl), hrun]
    rfl
  have c1' : w.drew.cell? ⟨b, 1, none⟩ = some (.slice none 0 0) := c1
  have hold : (w.alloc (.cells cs 5)).heap[b]? = w.heap[b]? := Lib.alloc_old w _ b hb
  have c2 : (w.alloc (.cells cs 5)).cell? ⟨b, 1, none⟩ = some (.slice none 0 0) := by rw [World.cell?_of_block (w := w) hold]; exact c1
  have f2 : (w.alloc (.cells cs 5)).frozen? ⟨b, 1, none⟩ = false := by rw [World.frozen?_of_block (w := w) hold]; exact f1
  have hcopy : ∀ W : World, (Builtin.copy_ #[31, 31] 3 #[.slice (some ⟨w.heap.size, 0, none⟩) 0 cs.size, .slice none 0 0]).run Tryz.prog W = .ok (goInt 0) W :=
    fun W => run_copy_none W 31 31 3 5 _ _ 0 cs.size 0 0 Tryz.underlying31 (by kernel_rfl) rfl
  clear hw
  go_enter Tryz.func183, Tryz.ntmps183
  go_wp2
  go_region
  all_goals (go_wp2; go_end0; exact ⟨rfl, cs, 3, hle, rfl⟩)
end Go.Ev
