import Derived.Test.YtffmffcnfhcgbaaP22d
set_option linter.unusedVariables false
set_option linter.unusedSimpArgs false
namespace Go.G
theorem law5_at (fu : Nat) (hf : 1000 < fu) (ha : s10 fu = some (true, ())) (t : List Timer22) (now own tag ticks : Int) : s5 fu t now own tag ticks = some (true, ()) := by
  unfold s5
  rw [ha]
  simp only
  cases h : ilt 150 (dlen t) with
  | true => rfl
  | false =>
    rw [ilt_f, dlen_def] at h
    have hlen := setF_len t now own tag ticks
    simp only
    rw [to22 fu t (by omega) (by omega)]
    simp only
    rw [set22' fu t _ _ _ _ (by omega) (by omega), setR22 fu t _ _ _ _ (by omega) (by omega)]
    simp only [ieq_iff.2 rfl]
    rw [from22 fu _ (by omega) (by omega)]
    simp only
    rw [same22 fu _ _ (by omega) (by omega)]
    simp only [decide_true]
    rw [valid22 fu t (by omega) (by omega), validR22 fu t (by omega) (by omega), valid22 fu _ (by omega) (by omega), setF_valid]
    cases validB t <;> rfl
/-- TimersSet is true. -/
theorem law5 (a0 : List Timer22) (a1_Now : Int) (a1_Owner : Int) (a1_Tag : Int) (a1_Ticks : Int) (_ : WfA A5 (a0, (a1_Now, a1_Owner, a1_Tag, a1_Ticks, ()), ())) : s5 FU a0 a1_Now a1_Owner a1_Tag a1_Ticks = some (true, ()) := law5_at FU (by decide) aw22 _ _ _ _ _
end Go.G
