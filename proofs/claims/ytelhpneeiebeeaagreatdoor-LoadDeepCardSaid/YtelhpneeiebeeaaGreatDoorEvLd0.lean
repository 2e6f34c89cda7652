/- LoadDeep's code behind the remainder; the calls up to there. -/
import Derived.Test.YtelhpneeiebeeaaGreatDoorEvMm5
import Derived.Test.YtelhpneeiebeeaaGreatDoorCoI
set_option maxRecDepth 1000000
namespace Go.Ev
open Go.Proofs
noncomputable def rest13 : Code := sndC (sndC (sndC (fiOf Tryz.f13).body))
noncomputable def kont13 : Kt (V × St) := kont F7 13 (fiOf Tryz.f13) St.none (fun v s => some (v, s))
noncomputable def tm0 (n : Int) (b : Bool) : Tm := Tm.putL [.d (.int .u8 n), .d (.bool b)] 0 (Tm.empty 106)
noncomputable def tm1 (n : Int) (b : Bool) : Tm := (tm0 n b).put 4 (.d (.bool false))
noncomputable def tm2 (n : Int) (b : Bool) : Tm := ((tm1 n b).put 11 (.d (.bool true))).put 12 (.d (.bool false))
noncomputable def tm13 (n : Int) (b : Bool) (k : Int) : Tm := ((((tm2 n b).put 13 (.d (.int .u8 n))).put 14 (.d (.int .u8 (n.tmod 14)))).put 15 (.d (.int .i64 k))).put 5 (.d (.int .i64 k))
noncomputable def body13 : Code := (fiOf Tryz.f13).body
theorem body13_eq : body13 = .seq (fstC body13) (.seq (fstC (sndC body13)) (.seq (fstC (sndC (sndC body13))) rest13)) := by kernel_rfl
theorem l1 (m : Nat) (K : Kt (V × St)) (n : Int) (b : Bool) : (evsK (V × St) F7 (m + 20)).code 13 (fstC body13) K (tm0 n b) St.none = K .norm (tm1 n b) St.none := by kernel_rfl
theorem l2 (m : Nat) (K : Kt (V × St)) (n : Int) (b : Bool) : (evsK (V × St) F7 (m + 20)).code 13 (fstC (sndC body13)) K (tm1 n b) St.none = K .norm (tm2 n b) St.none := by kernel_rfl
theorem l3 (m : Nat) (K : Kt (V × St)) (n : Int) (b : Bool) : (evsK (V × St) F7 (m + 20)).code 13 (fstC (sndC (sndC body13))) K (tm2 n b) St.none = K .norm (tm13 n b (IntKind.i64.wrap (n.tmod 14))) St.none := by kernel_rfl
theorem a13 (m : Nat) (n : Int) (b : Bool) : runK F7 (m + 24) 13 [.d (.int .u8 n), .d (.bool b)] = (evsK (V × St) F7 (m + 20)).code 13 rest13 kont13 (tm13 n b (IntKind.i64.wrap (n.tmod 14))) St.none := by
  unfold runK
  rw [call_eq (n := m + 23) (fi := fiOf Tryz.f13) (by kernel_rfl) (by kernel_rfl) (by kernel_rfl)]
  show (evsK (V × St) F7 (m + 22 + 1)).code 13 body13 kont13 (tm0 n b) St.none = _
  rw [body13_eq, seq_eq]
  rw [show m + 22 = (m + 2) + 20 by omega, l1]
  show (evsK (V × St) F7 (m + 21 + 1)).code 13 (.seq (fstC (sndC body13)) (.seq (fstC (sndC (sndC body13))) rest13)) kont13 (tm1 n b) St.none = _
  rw [seq_eq, show m + 21 = (m + 1) + 20 by omega, l2]
  show (evsK (V × St) F7 (m + 20 + 1)).code 13 (.seq (fstC (sndC (sndC body13))) rest13) kont13 (tm2 n b) St.none = _
  rw [seq_eq, l3]
noncomputable def run13 (n : Int) (b : Bool) (k : Int) : Option (V × St) := (evsK (V × St) F7 100020).code 13 rest13 kont13 (tm13 n b k) St.none
def isTrue : Option (V × St) → Bool
  | some (.d (.bool true), _) => true
  | _ => false
theorem of_isTrue {o : Option (V × St)} (h : isTrue o = true) : ∃ s', o = some (.d (.bool true), s') := by
  unfold isTrue at h
  split at h
  · exact ⟨_, rfl⟩
  · cases h
end Go.Ev
