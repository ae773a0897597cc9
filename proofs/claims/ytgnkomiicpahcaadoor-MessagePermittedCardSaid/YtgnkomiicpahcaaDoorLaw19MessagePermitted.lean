import Derived.Test.YtgnkomiicpahcaaDoorP19c
import Derived.Test.YtgnkomiicpahcaaDoorOn19L3
set_option linter.unusedVariables false
set_option linter.unusedSimpArgs false
namespace Go.G
set_option maxRecDepth 100000
theorem law3 (a0_Src : Int) (a0_Dst : Int) (a0_Kind : Int) (a0_Seq : Int) (a0_Args_0 : Int) (a0_Args_1 : Int) (a0_Args_2 : Int) (a0_Args_3 : Int) (a0_Data : List Int) (a1 : Int) (h : WfA A3 ((a0_Src, a0_Dst, a0_Kind, a0_Seq, a0_Args_0, a0_Args_1, a0_Args_2, a0_Args_3, a0_Data, ()), a1, ())) : s3 FU a0_Src a0_Dst a0_Kind a0_Seq a0_Args_0 a0_Args_1 a0_Args_2 a0_Args_3 a0_Data a1 = some (true, ()) := by
  have _ := h
  unfold s3
  rw [aw19]
  cases hl : ilt 2000 (dlen a0_Data) with
  | true => rfl
  | false =>
    obtain ⟨b, h1, h2⟩ := perm_all FU a0_Src a0_Dst a0_Kind a0_Seq a0_Args_0 a0_Args_1 a0_Args_2 a0_Args_3 a0_Data
    have e1 : beqb b b = true := by cases b <;> rfl
    have e2 : ieq (srvN a1) (srvN a1) = true := ieq_iff.2 rfl
    have e3 : beqb (srvB a1) (srvB a1) = true := by cases srvB a1 <;> rfl
    simp only [h1, h2, s11_eq, s12_eq, e1, e2, e3, cond_true, cond_false]
end Go.G
