/- Walks through strings.Builder's methods, slices.Clone, and what has no body. -/
import Derived.Test.YtelhpneeiebeeaaGreatDoorBw
import Derived.WalkKit
import Derived.RegionTactic
import Derived.Laws.Externs
import Derived.Laws.IdiomCopy
import Derived.Deep.Draws
import Derived.Lib.Bytealg
import Derived.Lib.Builder
import Derived.Lib.UnsafeStr
import Derived.Lib.MakeNoZero
set_option maxRecDepth 1000000
set_option maxHeartbeats 2000000
namespace Go.Ev
open Go.Proofs Go.RowKit
theorem walk_Grow0 (b : Nat) (w : World) (h0 : w.cell? ⟨b, 0, none⟩ = some (.pointer none)) (hsh : w.shape? b = some (106, 2)) (hfz : w.frozen? ⟨b, 0, none⟩ = false)
    (c1 : (w.setCell ⟨b, 0, none⟩ (.pointer (some ⟨b, 0, none⟩))).cell? ⟨b, 1, none⟩ = some (.slice none 0 0)) :
    Calls Tryz.prog 117 #[.pointer (some ⟨b, 0, none⟩), .int .i64 0] w fun e w' => e = .returned (.tuple #[]) ∧ ∃ k, w' = (w.setCell ⟨b, 0, none⟩ (.pointer (some ⟨b, 0, none⟩))).drewN k := by
  have c1' : (w.setCell ⟨b, 0, none⟩ (.pointer (some ⟨b, 0, none⟩))).drew.cell? ⟨b, 1, none⟩ = some (.slice none 0 0) := c1
  go_enter Tryz.func117, Tryz.ntmps117
  go_wp2_with (go_at_call 116; refine (walk_cc_fresh b w h0 hsh hfz).mono ?_; rintro e w' ⟨rfl, rfl⟩)
  go_region
  all_goals (go_wp2; go_end0; exact ⟨rfl, 1, rfl⟩)
theorem walk_Grow (b n : Nat) (w : World) (hn0 : 0 < n) (hn : n ≤ 1099511627776) (hb : b < w.heap.size) (h0 : w.cell? ⟨b, 0, none⟩ = some (.pointer none)) (hsh : w.shape? b = some (106, 2)) (hfz : w.frozen? ⟨b, 0, none⟩ = false)
    (c1 : (w.setCell ⟨b, 0, none⟩ (.pointer (some ⟨b, 0, none⟩))).cell? ⟨b, 1, none⟩ = some (.slice none 0 0)) (f1 : (w.setCell ⟨b, 0, none⟩ (.pointer (some ⟨b, 0, none⟩))).frozen? ⟨b, 1, none⟩ = false) :
    Calls Tryz.prog 117 #[.pointer (some ⟨b, 0, none⟩), .int .i64 n] w fun e w' => e = .returned (.tuple #[]) ∧ ∃ (cs : Array Value) (k : Nat), n ≤ cs.size ∧ w' = (((w.setCell ⟨b, 0, none⟩ (.pointer (some ⟨b, 0, none⟩))).setCell ⟨b, 1, none⟩ (.slice (some ⟨w.heap.size, 0, none⟩) 0 cs.size)).alloc (.cells cs 5)).drewN k := by
  have c1' : (w.setCell ⟨b, 0, none⟩ (.pointer (some ⟨b, 0, none⟩))).drew.cell? ⟨b, 1, none⟩ = some (.slice none 0 0) := c1
  have hlt : decide ((0 : Int) < (n : Int)) = true := by simpa using hn0
  have hnn : decide ((n : Int) < 0) = false := by simp
  go_enter Tryz.func117, Tryz.ntmps117
  go_wp2_with (go_at_call 116; refine (walk_cc_fresh b w h0 hsh hfz).mono ?_; rintro e w' ⟨rfl, rfl⟩)
  go_region
  all_goals go_wp2_with (go_at_call 183; refine (walk_grow b n (w.setCell ⟨b, 0, none⟩ (.pointer (some ⟨b, 0, none⟩))).drew (by simpa using hb) c1 f1 hn).mono ?_; rintro e w' ⟨rfl, cs, k, hk, rfl⟩)
  all_goals (go_end0; exact ⟨rfl, cs, 1 + k, hk, rfl⟩)

theorem hUS0 (W : World) (q : Option Addr) : (Builtin.unsafeString_ #[200, 3] 9 #[.pointer q, .int .i64 0]).run Tryz.prog W = .ok (.string .empty) W :=
  Lib.run_unsafeString_none W _ _ _ q
theorem walk_Str (b : Nat) (l : List UInt8) (g cap : Nat) (cur : Array Value) (fz : Nat × Nat) (w : World) (h0 : l ≠ []) (hb : w.cell? ⟨b, 1, none⟩ = some (.slice (some ⟨g, 0, none⟩) l.length cap))
    (hg : w.heap[g]? = some (.cells cur 5 fz)) (hle : l.length ≤ cap) (hcur : cap ≤ cur.size) (hm : l.length ≤ 9223372036854775807) (hcell : ∀ (j : Nat) (x : UInt8), l[j]? = some x → w.cell? ((⟨g, 0, none⟩ : Addr).add j) = some (.int .u8 x.toNat)) :
    Calls Tryz.prog 64 #[.pointer (some ⟨b, 0, none⟩)] w fun e w' => e = .returned (.string ⟨l.toArray⟩) ∧ ∃ k, w' = (w.freeze ⟨g, 0, none⟩ l.length).drewN k := by
  have hl0 : l.length ≠ 0 := by simpa using h0
  have c1 : w.drew.cell? ⟨b, 1, none⟩ = some (.slice (some ⟨g, 0, none⟩) l.length cap) := hb
  have hSD : (Builtin.unsafeSliceData_ #[31] 200 #[.slice (some ⟨g, 0, none⟩) l.length cap]).run Tryz.prog w.drew = .ok (.pointer (some ⟨g, 0, none⟩)) w.drew :=
    Lib.run_unsafeSliceData_row _ _ _ _ _ _ (by omega)
  have hUS : (Builtin.unsafeString_ #[200, 3] 9 #[.pointer (some ⟨g, 0, none⟩), .int .i64 l.length]).run Tryz.prog w.drew = .ok (.string ⟨l.toArray⟩) (w.drew.freeze ⟨g, 0, none⟩ l.length) := by
    refine Lib.run_unsafeString_row w.drew 200 3 9 5 Tryz.underlying200 (by kernel_rfl) g cur.size (by have hg' : w.drew.heap[g]? = some (.cells cur 5 fz) := hg; simp [World.shape?, hg']) l h0 (by omega) (by omega) hcell
  go_enter Tryz.func64, Tryz.ntmps64
  go_wp2
  go_region
  all_goals (go_wp2; go_ret; exact ⟨rfl, 1, by unfold World.freeze; split <;> rfl⟩)
theorem walk_Str_nil (b : Nat) (w : World) (hb : w.cell? ⟨b, 1, none⟩ = some (.slice none 0 0)) :
    Calls Tryz.prog 64 #[.pointer (some ⟨b, 0, none⟩)] w fun e w' => e = .returned (.string ⟨#[]⟩) ∧ ∃ k, w' = w.drewN k := by
  have hUS := hUS0
  have c1 : w.drew.cell? ⟨b, 1, none⟩ = some (.slice none 0 0) := hb
  have hSD : (Builtin.unsafeSliceData_ #[31] 200 #[.slice none 0 0]).run Tryz.prog w.drew = .ok (.pointer none) w.drew := rfl
  go_enter Tryz.func64, Tryz.ntmps64
  go_wp2
  go_region
  all_goals (go_wp2; go_ret; exact ⟨rfl, 1, rfl⟩)
theorem walk_Str_room (b g cap : Nat) (w : World) (hc0 : cap ≠ 0) (hb : w.cell? ⟨b, 1, none⟩ = some (.slice (some ⟨g, 0, none⟩) 0 cap)) :
    Calls Tryz.prog 64 #[.pointer (some ⟨b, 0, none⟩)] w fun e w' => e = .returned (.string ⟨#[]⟩) ∧ ∃ k, w' = w.drewN k := by
  have hUS := hUS0
  have c1 : w.drew.cell? ⟨b, 1, none⟩ = some (.slice (some ⟨g, 0, none⟩) 0 cap) := hb
  have hSD : (Builtin.unsafeSliceData_ #[31] 200 #[.slice (some ⟨g, 0, none⟩) 0 cap]).run Tryz.prog w.drew = .ok (.pointer (some ⟨g, 0, none⟩)) w.drew :=
    Lib.run_unsafeSliceData_row _ _ _ _ _ _ hc0
  clear hc0
  go_enter Tryz.func64, Tryz.ntmps64
  go_wp2
  go_region
  all_goals (go_wp2; go_ret; exact ⟨rfl, 1, rfl⟩)
theorem walk_Str_noroom (b g : Nat) (cur : Array Value) (fz : Nat × Nat) (w : World) (hlt : b < w.heap.size) (hb : w.cell? ⟨b, 1, none⟩ = some (.slice (some ⟨g, 0, none⟩) 0 0)) (hg : w.heap[g]? = some (.cells cur 5 fz)) :
    Calls Tryz.prog 64 #[.pointer (some ⟨b, 0, none⟩)] w fun e w' => e = .returned (.string ⟨#[]⟩) ∧ ∃ k, w' = (w.alloc (.view ⟨g, 0, none⟩ 5)).drewN k := by
  have hUS := hUS0
  have c1 : w.drew.cell? ⟨b, 1, none⟩ = some (.slice (some ⟨g, 0, none⟩) 0 0) := hb
  have hSD : (Builtin.unsafeSliceData_ #[31] 200 #[.slice (some ⟨g, 0, none⟩) 0 0]).run Tryz.prog w.drew = .ok (.pointer (some ⟨w.drew.heap.size, 0, none⟩)) (w.drew.alloc (.view ⟨g, 0, none⟩ 5)) :=
    Lib.run_unsafeSliceData_zero w.drew _ _ 5 Tryz.underlying200 ⟨g, 0, none⟩ 0 (5, cur.size) (by have hg' : w.drew.heap[g]? = some (.cells cur 5 fz) := hg; simp [World.shape?, hg'])
  have c2 : (w.drew.alloc (.view ⟨g, 0, none⟩ 5)).cell? ⟨b, 1, none⟩ = some (.slice (some ⟨g, 0, none⟩) 0 0) := by
    rw [World.cell?_of_block (w := w) (Lib.alloc_old w.drew _ b hlt)]; exact hb
  have c3 : (w.alloc (.view ⟨g, 0, none⟩ 5)).drew.cell? ⟨b, 1, none⟩ = some (.slice (some ⟨g, 0, none⟩) 0 0) := c2
  go_enter Tryz.func64, Tryz.ntmps64
  go_wp2
  go_region
  all_goals (go_wp2; go_ret; exact ⟨rfl, 1, rfl⟩)
end Go.Ev
