import Derived.Test.YtmbblacaodapcaaP10i
set_option linter.unusedVariables false
set_option linter.unusedSimpArgs false
namespace Go.G
theorem law7_at (fu : Nat) (hf : 1000 < fu) (ha : s9 fu = some (true, ())) (l : List Window10) (w : Window10) (qd qf : Int) (qw : Bool) : s7 fu l w.Device w.Tag w.Frame w.Write qd qf qw = some (true, ()) := by
  unfold s7
  rw [ha]
  simp only
  cases h : ilt 40 (dlen l) with
  | true => rfl
  | false =>
    rw [ilt_f, dlen_def] at h
    have hl1 := openF_len l w
    simp only
    rw [to10 fu l (by omega) (by omega)]
    simp only
    rw [open10 fu hf l w (by omega) (by omega)]
    rcases openF_cases l w with ⟨q1, q2⟩ | ⟨hV, hp, hk, hc, hq⟩
    · simp only [ieq_f.2 q1, q2]
      rfl
    · have hqa : openF l w = (insW l w, 0, ()) := hq
      have hVa : Val (insW l w) := val_insert hV hp hk hc
      have n1 := ins_len l w
      rw [hqa]
      simp only [ieq_iff.2 rfl]
      rw [close10 fu hf (insW l w) _ _ (by omega) (by omega)]
      have hcl : closeF (insW l w) w.Device w.Tag = (l, 0, ()) := by
        unfold closeF
        rw [(valid_iff _).2 hVa, ins_any, key_self, ins_filter l w _ (by simp [key_self]) (fun x hx => by
          have := List.any_eq_false.1 hk x hx
          simpa using this)]
        rfl
      rw [hcl]
      simp only [ieq_iff.2 rfl]
      rw [from10 fu l (by omega) (by omega)]
      simp only
      rw [same10 fu l l (by omega) (by omega)]
      have hself : chkB w.Device w.Frame w.Write w = true := by simp [chkB, ieq, beqb]
      have hbus : busB w.Frame w = true := by simp [busB, ieq]
      simp only [decide_true]
      rw [check10 fu _ _ _ _ (by omega) (by omega), ins_any, hself, busy10 fu _ _ (by omega) (by omega), ins_any, hbus, valid10 fu hf _ (by omega) (by omega), (valid_iff _).2 hVa, check10 fu _ _ _ _ (by omega) (by omega), ins_any, check10 fu l _ _ _ (by omega) (by omega)]
      simp only [Bool.true_or, chkB]
      rw [ieq_comm w.Device qd, ieq_comm w.Frame qf]
      have hbc : beqb w.Write qw = beqb qw w.Write := by cases w.Write <;> cases qw <;> rfl
      rw [hbc]
      cases ieq qd w.Device <;> cases ieq qf w.Frame <;> cases beqb qw w.Write <;> simp [beqb]
/-- IommuAccess is true. -/
theorem law7 (a0 : List Window10) (a1_Device : Int) (a1_Tag : Int) (a1_Frame : Int) (a1_Write : Bool) (a2_Device : Int) (a2_Frame : Int) (a2_Write : Bool) (_ : WfA A7 (a0, (a1_Device, a1_Tag, a1_Frame, a1_Write, ()), (a2_Device, a2_Frame, a2_Write, ()), ())) : s7 FU a0 a1_Device a1_Tag a1_Frame a1_Write a2_Device a2_Frame a2_Write = some (true, ()) :=
  law7_at FU (by decide) aw10 a0 ⟨a1_Device, a1_Tag, a1_Frame, a1_Write⟩ _ _ _
end Go.G
