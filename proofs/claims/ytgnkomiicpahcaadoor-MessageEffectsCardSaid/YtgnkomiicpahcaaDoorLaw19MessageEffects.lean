import Derived.Test.YtgnkomiicpahcaaDoorP19g
import Derived.Test.YtgnkomiicpahcaaDoorOn19L6
set_option linter.unusedVariables false
set_option linter.unusedSimpArgs false
namespace Go.G
set_option maxRecDepth 100000
theorem room19 {a0 : Int} {l : List Effect19} (h : WfA A6 (a0, l, ())) : l.length * 152 ≤ 140737488351232 := by
  have hw : WfC (T := C19) (.d (.sl .effect l)) := h (.one (.d (.sl .effect l))) (by simp [A6, embPs, embP, embC])
  have := WfD.room hw
  exact this
theorem law6 (a0 : Int) (a1 : List Effect19) (h : WfA A6 (a0, a1, ())) : s6 FU a0 a1 = some (true, ()) := by
  have hr := room19 h
  unfold s6
  rw [aw19]
  obtain ⟨b, f1, f2⟩ := few19 (fu := FU) (l := a1) (by unfold FU; omega) (by omega)
  cases b with
  | false => simp only [f1, aw19, cond_true, cond_false]
  | true =>
    obtain ⟨g1, g2⟩ := f2 rfl
    have e2 : beqb (effsB FU a0 a1) (effsB FU a0 a1) = true := by cases effsB FU a0 a1 <;> rfl
    simp only [f1, s17_eq (fu := FU) a0 (l := a1) (by unfold FU; omega) (by omega) g2, s18_eq (fu := FU) a0 (l := a1) (by unfold FU; omega) (by omega) g2, e2, cond_true, cond_false]
end Go.G
