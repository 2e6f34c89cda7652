/- LoadDeep: whatever the arguments, the call gives true and leaves them as they were. No condition. -/
import Derived.Test.YtelhpneeiebeeaaGreatDoorCards
import Derived.Test.YtelhpneeiebeeaaGreatDoorTie
import Derived.Test.YtelhpneeiebeeaaGreatDoorCoG
import Derived.Test.YtelhpneeiebeeaaGreatDoorEvRunLD
import Derived.Deep.DeepHandedRow
import Derived.Shelf.Lay
import Derived.Lay
import Derived.ProofKit
import Derived.SevenTiedAt
import Derived.Test.YtelhpneeiebeeaaGreatDoorJ0
import Derived.Test.YtelhpneeiebeeaaGreatDoorJ1
import Derived.Test.YtelhpneeiebeeaaGreatDoorJ2
import Derived.Test.YtelhpneeiebeeaaGreatDoorJ3
set_option maxRecDepth 1000000
namespace Go.Proofs.YtelhpneeiebeeaaGreatDoor.loadDeep
open Go.ChangeShapes Go.WideShapes Go.ChangeAt Go.RowKit Go.Ev
theorem own : ownKnob Tryz.prog.godebug = none := by kernel_rfl
theorem laidOut : laidOutB Tryz.prog = true := by kernel_rfl
theorem rows_ok (W : World) (h : laidMetH Tryz.prog Rows.loadDeepRow.laid W) (x : Nat) (cs : List D) (hx : glob0 x = some cs) : SRow (cellsOfW W) x 0 cs := by
  rw [MakeChecks.laidMetH_plain _ _ _ (by kernel_rfl)] at h
  unfold glob0 at hx
  split at hx
  · simp only [Option.some.injEq] at hx
    subst hx
    exact tab_row (t := 283) (e := 114) (n := 20) (k := .u64) (zs := [1, 10, 100, 1000, 10000, 100000, 1000000, 10000000, 100000000, 1000000000, 10000000000, 100000000000, 1000000000000, 10000000000000, 100000000000000, 1000000000000000, 10000000000000000, 100000000000000000, 1000000000000000000, 10000000000000000000]) h (show ("internal/strconv.uint64pow10", Rows.laid_internal_strconv_uint64pow10) ∈ Rows.loadDeepRow.laid by simp [Rows.loadDeepRow]) (by kernel_rfl) (by kernel_rfl) Tryz.underlying283 Tryz.underlying114 (by kernel_rfl) (by kernel_rfl)
  · simp only [Option.some.injEq] at hx
    subst hx
    exact tab_row (t := 345) (e := 5) (n := 32) (k := .u8) (zs := [0, 1, 28, 2, 29, 14, 24, 3, 30, 22, 20, 15, 25, 17, 4, 8, 31, 27, 13, 23, 21, 19, 16, 7, 26, 12, 18, 6, 11, 5, 10, 9]) h (show ("math/bits.deBruijn32tab", Rows.laid_math_bits_deBruijn32tab) ∈ Rows.loadDeepRow.laid by simp [Rows.loadDeepRow]) (by kernel_rfl) (by kernel_rfl) Tryz.underlying345 Tryz.underlying5 (by kernel_rfl) (by kernel_rfl)
  · simp only [Option.some.injEq] at hx
    subst hx
    exact tab_row (t := 346) (e := 5) (n := 64) (k := .u8) (zs := [0, 1, 56, 2, 57, 49, 28, 3, 61, 58, 42, 50, 38, 29, 17, 4, 62, 47, 59, 36, 45, 43, 51, 22, 53, 39, 33, 30, 24, 18, 12, 5, 63, 55, 48, 27, 60, 41, 37, 16, 46, 35, 44, 21, 52, 32, 23, 11, 54, 26, 40, 15, 34, 20, 31, 10, 25, 14, 19, 9, 13, 8, 7, 6]) h (show ("math/bits.deBruijn64tab", Rows.laid_math_bits_deBruijn64tab) ∈ Rows.loadDeepRow.laid by simp [Rows.loadDeepRow]) (by kernel_rfl) (by kernel_rfl) Tryz.underlying346 Tryz.underlying5 (by kernel_rfl) (by kernel_rfl)
  · cases hx
theorem lifted (os : Os) (started : os.Started) (H : Type) (enc : TypeId × Value → H) :
    ReturnsInHanded {} Tryz.checked os 13 .any (fun w args => (Rows.loadDeepSpec.pre enc Tryz.prog Tryz.f13 [] false w args ∧ laidMetH Tryz.prog Rows.loadDeepRow.laid w) ∧ sizedMet enc Tryz.prog Tryz.f13 (OpenSpec.ofChange Rows.loadDeepSpec) false w args)
      (Rows.loadDeepSpec.post enc Tryz.prog Tryz.f13 false true false false) := by
  refine returnsInHanded_of_change_and (C := Tryz.checked) (X := fun w _ => laidMetH Tryz.prog Rows.loadDeepRow.laid w) (fun _ _ _ hh h => h.of_heap hh) own started (by kernel_rfl) Tryz.func13
    (ChangeSpec.witness_shaped (enc := enc) (C := Tryz.checked) (os := os) (X := fun w _ => laidMetH Tryz.prog Rows.loadDeepRow.laid w) false (World.laidAll Tryz.prog os Rows.loadDeepRow.laid) #[.int .u8 0, .bool false] 8 (World.laidAll_os _ _ _)
      (World.shaped_of_ZipB (by kernel_rfl) (by kernel_rfl)) (by kernel_rfl) (by kernel_rfl) (by kernel_rfl)
      (by rw [MakeChecks.laidMetH_plain _ _ _ (by kernel_rfl)]; exact laidMet_laidAll _ (by kernel_rfl) (by kernel_rfl))) ?_
  intro W base args dd gs before hval hW _ _ hL _
  refine law_contract (E := F7.E) (n := 8) (tb := 4) (X := fun W => laidMetH Tryz.prog Rows.loadDeepRow.laid W) F7_ok laidOut (by kernel_rfl) ?_ rfl Tryz.underlying4 rfl ?_ (fun W h x cs hx => rows_ok W h x cs hx) (by kernel_rfl) ?_ H enc W base args dd gs before hval hW hL
  · intro t ht
    have hall : (Tryz.f13.params.toList.all fun t => Tryz.prog.readableRec t && decide (t < Tryz.prog.types.size)) = true := by kernel_rfl
    have := List.all_eq_true.1 hall t ht
    simp only [Bool.and_eq_true, decide_eq_true_eq] at this
    exact this
  · intro H dd hd
    have hd : dd.length = 2 := hd
    match dd, hd with
    | [d0, d1], _ => rfl
  · exact law_run
theorem closed : joinedFacts Tryz.prog 13 Tryz.f13 Rows.loadDeepSpec Rows.loadDeepRow = true := by
  unfold joinedFacts
  simp only [Bool.and_eq_true]
  exact ⟨⟨⟨⟨⟨⟨⟨⟨⟨⟨⟨⟨⟨⟨⟨⟨⟨⟨⟨⟨⟨⟨⟨⟨⟨⟨⟨⟨⟨⟨⟨j0, j1⟩, j2⟩, j3⟩, j4⟩, j5⟩, j6⟩, j7⟩, j8⟩, j9⟩, j10⟩, j11⟩, j12⟩, j13⟩, j14⟩, j15⟩, j16⟩, j17⟩, j18⟩, j19⟩, j20⟩, j21⟩, j22⟩, j23⟩, j24⟩, j25⟩, j26⟩, j27⟩, j28⟩, j29⟩, j30⟩, j31⟩
theorem said : Rows.LoadDeepSaid :=
  OpenClaim.holds_of_wide 13 Tryz.f13 rfl rfl rfl rfl rfl rfl rfl ⟨rfl, rfl, rfl, rfl, rfl⟩ rfl rfl rfl rfl rfl (by kernel_rfl) Tryz.func13 closed
    (of_decide_eq_true (by kernel_rfl)) (by unfold Func.isWrapper; first | (rw [if_pos (by decide +kernel)]; kernel_rfl) | (rw [if_neg (by decide +kernel)]; exact ⟨rfl, rfl⟩))
    (fun os started H enc _ => lifted os started H enc)
theorem plain (f : FuncId) (fn : Func) (hf : Tryz.pinned.checked.prog.funcNamed "toponym/toponymlaw9.LoadDeep" = some f) (hfn : Tryz.pinned.checked.prog.funcs[f]? = some fn) :
    true = Tryz.pinned.checked.prog.looks [] ∧ ∀ (j : Nat) t, fn.params[j]? = some t → Tryz.pinned.checked.prog.wantsStandIn t = false := by
  obtain rfl : f = 13 := Option.some.inj ((show Tryz.prog.funcNamed "toponym/toponymlaw9.LoadDeep" = some 13 by kernel_rfl).symm.trans hf) |>.symm
  obtain rfl : fn = Tryz.f13 := (Option.some.inj (Tryz.func13.symm.trans hfn)).symm
  refine ⟨by kernel_rfl, fun j t ht => ?_⟩
  have hall : (Tryz.f13.params.toList.all fun t => !Tryz.prog.wantsStandIn t) = true := by kernel_rfl
  have := List.all_eq_true.1 hall t (List.mem_of_getElem? (show Tryz.f13.params.toList[j]? = some t by simpa using ht))
  have h2 : Tryz.prog.wantsStandIn t = false := by simpa using this
  exact h2
theorem card : Rows.LoadDeepCardSaid :=
  Claim7.holds_tied_plain_at .later [] _ _ _ _ said (fun _ h => by cases h) (by kernel_rfl) (fun _ h => by cases h) loadDeep_row_tie rfl ⟨rfl, rfl⟩ (by kernel_rfl) rfl plain (by kernel_rfl)
#print axioms card
end Go.Proofs.YtelhpneeiebeeaaGreatDoor.loadDeep
