import Derived.Test.YtiifmafolmmelaaP20d
set_option linter.unusedVariables false
set_option linter.unusedSimpArgs false
namespace Go.G
set_option maxRecDepth 100000
theorem aw20 : s9 FU = some (true, ()) := by kernel_rfl
theorem fewB_pairs {q : List Msg20} {p : List Pair20} (h : fewB q p = true) : p.length ≤ 300 := by
  unfold fewB at h
  rw [Bool.and_eq_true, ile_iff, ile_iff, dlen_def] at h
  omega
theorem law8_at (fu : Nat) (hf : 10000000000000000000 < fu) (ha : s9 fu = some (true, ())) (q : List Msg20) (p : List Pair20) (m : Msg20) (hq : q.length ≤ 9223372036854775807) :
    s8 fu q p m.Src m.Dst m.Kind m.Seq m.Args_0 m.Args_1 m.Args_2 m.Args_3 m.Data = some (true, ()) := by
  unfold s8
  rw [ha]
  simp only
  rw [few20 fu q p (by omega) hq]
  cases hfew : fewB q p with
  | false => rfl
  | true =>
    have hp := fewB_pairs hfew
    cases hd : ilt 2000 (dlen m.Data) with
    | true => rfl
    | false =>
      rw [ilt_f, dlen_def] at hd
      obtain ⟨l1, l2⟩ := sendF_len q p m
      simp only [to20 fu q p (show p.length < fu by omega) (by omega), send20 fu q p m (by omega) (by omega) (by omega) hq (by omega), sendR20 fu q p m (by omega) (by omega) (by omega) hq (by omega), ieq_iff.2 rfl,
        from20 fu (sendF q p m).1.1 (sendF q p m).1.2.1 (by omega) (by omega), eqR20 fu (sendF q p m).1.1 (sendF q p m).1.1 (sendF q p m).1.2.1 (sendF q p m).1.2.1 (by omega) (by omega) (by omega) (by omega), eqS_self,
        valid20 fu q p (by omega) (by omega) (by omega) hq, validR20 fu q p (by omega) (by omega) (by omega) hq, valid20 fu (sendF q p m).1.1 (sendF q p m).1.2.1 (by omega) (by omega) (by omega) (by omega), sendF_valid,
        eq20 fu q (sendF q p m).1.1 p (sendF q p m).1.2.1 (by omega) (by omega) (by omega) hq, eqR20 fu q (sendF q p m).1.1 p (sendF q p m).1.2.1 (by omega) (by omega) (by omega) hq]
      have hb : ∀ b : Bool, beqb b b = true := fun b => by cases b <;> rfl
      simp only [hb]
/-- PortsSend is true. -/
theorem law8 (a0_Queue : List Msg20) (a0_Pairs : List Pair20) (a1_Src : Int) (a1_Dst : Int) (a1_Kind : Int) (a1_Seq : Int) (a1_Args_0 : Int) (a1_Args_1 : Int) (a1_Args_2 : Int) (a1_Args_3 : Int) (a1_Data : List Int) (h : WfA A8 ((a0_Queue, a0_Pairs, ()), (a1_Src, a1_Dst, a1_Kind, a1_Seq, a1_Args_0, a1_Args_1, a1_Args_2, a1_Args_3, a1_Data, ()), ())) : s8 FU a0_Queue a0_Pairs a1_Src a1_Dst a1_Kind a1_Seq a1_Args_0 a1_Args_1 a1_Args_2 a1_Args_3 a1_Data = some (true, ()) :=
  law8_at FU (by decide) aw20 a0_Queue a0_Pairs ⟨a1_Src, a1_Dst, a1_Kind, a1_Seq, a1_Args_0, a1_Args_1, a1_Args_2, a1_Args_3, a1_Data⟩ (rgq_of ((h _ (.head _)) (.d (.sl U20.msg a0_Queue)) (.head _)))
end Go.G
