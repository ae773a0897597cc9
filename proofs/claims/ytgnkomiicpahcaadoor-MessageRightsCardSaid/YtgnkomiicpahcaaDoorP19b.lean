import Derived.Test.YtgnkomiicpahcaaDoorP19a
set_option linter.unusedVariables false
set_option linter.unusedSimpArgs false
namespace Go.G
set_option maxRecDepth 100000
set_option maxHeartbeats 4000000
theorem cNand (p q : Bool) : (bif p then false else q) = (!p && q) := by cases p <;> rfl
/-- The component that answers a call. -/
def srvN (a : Int) : Int := bif decide (0 ≤ a) && decide (a < 20) then (bif decide (a ≤ 5) then 3 else bif decide (a = 6) then 4 else bif decide (a = 18) || decide (a = 19) then 10 else 5) else 0
def srvB (a : Int) : Bool := decide (0 ≤ a) && decide (a < 20)
theorem srv_cases (a : Int) : a < 0 ∨ 20 ≤ a ∨ a = 0 ∨ a = 1 ∨ a = 2 ∨ a = 3 ∨ a = 4 ∨ a = 5 ∨ a = 6 ∨ a = 7 ∨ a = 8 ∨ a = 9 ∨ a = 10 ∨ a = 11 ∨ a = 12 ∨ a = 13 ∨ a = 14 ∨ a = 15 ∨ a = 16 ∨ a = 17 ∨ a = 18 ∨ a = 19 := by omega
theorem s12_eq (fu : Nat) (a : Int) : s12 fu a = some (srvN a, srvB a, ()) := by
  rcases srv_cases a with h | h | h | h | h | h | h | h | h | h | h | h | h | h | h | h | h | h | h | h | h | h
  · unfold s12 srvN srvB
    simp [ilt_iff.2 h, show ¬ 0 ≤ a by omega]
  · unfold s12 srvN srvB
    simp [ilt_f.2 (show 0 ≤ a by omega), ile_iff.2 h, show ¬ a < 20 by omega]
  all_goals subst h; rfl
theorem s11_eq (fu : Nat) (a : Int) : s11 fu a = some (srvN a, srvB a, ()) := by
  have ne : ∀ k : Int, a ≠ k → ieq a k = false := fun k h => ieq_f.2 h
  rcases srv_cases a with h | h | h | h | h | h | h | h | h | h | h | h | h | h | h | h | h | h | h | h | h | h
  · unfold s11 srvN srvB
    simp [ne 0 (by omega), ne 1 (by omega), ne 2 (by omega), ne 3 (by omega), ne 4 (by omega), ne 5 (by omega), ne 6 (by omega), ne 18 (by omega), ne 19 (by omega), ilt_iff.2 h, show ¬ 0 ≤ a by omega]
  · unfold s11 srvN srvB
    simp [ne 0 (by omega), ne 1 (by omega), ne 2 (by omega), ne 3 (by omega), ne 4 (by omega), ne 5 (by omega), ne 6 (by omega), ne 18 (by omega), ne 19 (by omega), ilt_f.2 (show 0 ≤ a by omega), ile_iff.2 h, show ¬ a < 20 by omega]
  all_goals subst h; rfl
/-- The driver of a device. -/
def drvN (a : Int) : Int := bif decide (a = 1) then 7 else bif decide (a = 2) then 8 else bif decide (a = 3) then 9 else bif decide (a = 4) then 10 else 0
theorem s37_eq (fu : Nat) (a : Int) : s37 fu a = some (drvN a, ()) := by
  have : a = 1 ∨ a = 2 ∨ a = 3 ∨ a = 4 ∨ ¬ (1 ≤ a ∧ a ≤ 4) := by omega
  rcases this with h | h | h | h | h
  · subst h; rfl
  · subst h; rfl
  · subst h; rfl
  · subst h; rfl
  · have hc : clsB 100 a = false := by rw [b100]; simp; omega
    unfold s37 drvN
    simp [s35_eq, hc, show a ≠ 1 by omega, show a ≠ 2 by omega, show a ≠ 3 by omega, show a ≠ 4 by omega]
theorem s49_eq (fu : Nat) (a : Int) : s49 fu a = some (drvN a, (decide (1 ≤ a) && decide (a ≤ 4)), ()) := by
  have : a = 1 ∨ a = 2 ∨ a = 3 ∨ a = 4 ∨ ¬ (1 ≤ a ∧ a ≤ 4) := by omega
  rcases this with h | h | h | h | h
  · subst h; rfl
  · subst h; rfl
  · subst h; rfl
  · subst h; rfl
  · unfold s49 drvN
    have h2 : (decide (1 ≤ a) && decide (a ≤ 4)) = false := by simp; omega
    simp [ieq, show a ≠ 1 by omega, show a ≠ 2 by omega, show a ≠ 3 by omega, show a ≠ 4 by omega, h2]
end Go.G
