/- LoadDeep gives true. -/
import Derived.Test.YtelhpneeiebeeaaGreatDoorEvLd1
import Derived.Test.YtelhpneeiebeeaaGreatDoorEvLd2
import Derived.Test.YtelhpneeiebeeaaGreatDoorEvLd3
import Derived.Test.YtelhpneeiebeeaaGreatDoorEvLd4
import Derived.Test.YtelhpneeiebeeaaGreatDoorEvLd5
import Derived.Test.YtelhpneeiebeeaaGreatDoorCoG
namespace Go.Ev
open Go.Proofs
theorem ld_all (n : Int) (b : Bool) (r : Nat) (h : r < 14) : isTrue (run13 n b (r : Int)) = true := by
  match r, h with
  | 0, _ => cases b; exact ld_0_false n; exact ld_0_true n
  | 1, _ => cases b; exact ld_1_false n; exact ld_1_true n
  | 2, _ => cases b; exact ld_2_false n; exact ld_2_true n
  | 3, _ => cases b; exact ld_3_false n; exact ld_3_true n
  | 4, _ => cases b; exact ld_4_false n; exact ld_4_true n
  | 5, _ => cases b; exact ld_5_false n; exact ld_5_true n
  | 6, _ => cases b; exact ld_6_false n; exact ld_6_true n
  | 7, _ => cases b; exact ld_7_false n; exact ld_7_true n
  | 8, _ => cases b; exact ld_8_false n; exact ld_8_true n
  | 9, _ => cases b; exact ld_9_false n; exact ld_9_true n
  | 10, _ => cases b; exact ld_10_false n; exact ld_10_true n
  | 11, _ => cases b; exact ld_11_false n; exact ld_11_true n
  | 12, _ => cases b; exact ld_12_false n; exact ld_12_true n
  | 13, _ => cases b; exact ld_13_false n; exact ld_13_true n
  | n + 14, h => omega
theorem law_run (xss : List (List D)) (h : fitsAll F7.E.ti 8 Tryz.f13.params.toList xss = true) : ∃ m s', run F7.E m 13 (argsOf F7.E.ti Tryz.f13.params.toList xss) = some (.d (.bool true), s') := by
  have hp : Tryz.f13.params.toList = [5, 4] := rfl
  rw [hp] at h ⊢
  match xss, h with
  | [a, c], h =>
    simp only [fitsAll, Bool.and_eq_true] at h
    obtain ⟨h1, h2, _⟩ := h
    have t5 : F7.E.ti 5 = some ⟨Tryz.t5.desc, 1, 1, [.d (.int .u8 0)]⟩ := by kernel_rfl
    have t4 : F7.E.ti 4 = some ⟨Tryz.t4.desc, 1, 1, [.d (.bool false)]⟩ := by kernel_rfl
    have d5 : Tryz.t5.desc = .int .u8 := rfl
    have d4 : Tryz.t4.desc = .bool := rfl
    simp only [fits, t5, d5] at h1
    simp only [fits, t4, d4] at h2
    split at h1
    case h_2 => cases h1
    rename_i k' n
    split at h2
    case h_2 => cases h2
    rename_i b
    simp only [Bool.and_eq_true, decide_eq_true_eq] at h1
    obtain ⟨rfl, hw⟩ := h1
    have hn : 0 ≤ n ∧ n ≤ 255 := by simpa [Lit.wf, IntKind.min, IntKind.max, IntKind.signed, IntKind.bits] using hw
    obtain ⟨m, rfl⟩ := Int.eq_ofNat_of_zero_le hn.1
    have e1 : argsOf F7.E.ti [5, 4] [[.int .u8 (m : Int)], [.bool b]] = [.d (.int .u8 (m : Int)), .d (.bool b)] := by
      simp only [argsOf, argOf, t5, t4, d5, d4]
    rw [e1]
    have e2 : IntKind.i64.wrap ((m : Int).tmod 14) = ((m % 14 : Nat) : Int) := by
      rw [IntKind.wrap_i64, Int.tmod_eq_emod_of_nonneg (by omega)]
      omega
    have h3 := ld_all (m : Int) b (m % 14) (Nat.mod_lt _ (by omega))
    obtain ⟨s', h4⟩ := of_isTrue h3
    refine ⟨100024, s', runK_run (envK_fit _ _) ?_⟩
    have := a13 100000 (m : Int) b
    rw [e2] at this
    exact this.trans h4
  | [], h => simp [fitsAll] at h
  | [_], h => simp [fitsAll] at h
  | _ :: _ :: _ :: _, h => simp [fitsAll] at h
end Go.Ev
