import Derived.Test.YtgnkomiicpahcaaDoorP19r0
import Derived.Test.YtgnkomiicpahcaaDoorP19r1
import Derived.Test.YtgnkomiicpahcaaDoorP19r2
import Derived.Test.YtgnkomiicpahcaaDoorOn19L5
set_option linter.unusedVariables false
set_option linter.unusedSimpArgs false
namespace Go.G
set_option maxRecDepth 100000
theorem recv_all (fu : Nat) (src dst dst' kind seq a0 a1 a2 a3 : Int) (d : List Int) (h1 : s13 fu src dst kind seq a0 a1 a2 a3 d = some (true, ())) (h2 : s13 fu src dst' kind seq a0 a1 a2 a3 d = some (true, ())) : dst = dst' ∨ kind = 4 ∨ kind = 6 ∨ kind = 27 ∨ kind = 21 := by
  rcases kinds19 kind with h | h | h | h | h | h | h | h | h | h | h | h | h | h | h | h | h | h | h | h | h | h | h | h | h | h | h | h
  · rw [(perm_out fu h src dst seq a0 a1 a2 a3 d).1] at h1
    cases h1
  · subst h; exact .inl (recv1 fu src dst dst' seq a0 a1 a2 a3 d h1 h2)
  · subst h; exact .inl (recv2 fu src dst dst' seq a0 a1 a2 a3 d h1 h2)
  · subst h; exact .inl (recv3 fu src dst dst' seq a0 a1 a2 a3 d h1 h2)
  · exact .inr (by omega)
  · subst h; exact .inl (recv5 fu src dst dst' seq a0 a1 a2 a3 d h1 h2)
  · exact .inr (by omega)
  · subst h; exact .inl (recv7 fu src dst dst' seq a0 a1 a2 a3 d h1 h2)
  · subst h; exact .inl (recv8 fu src dst dst' seq a0 a1 a2 a3 d h1 h2)
  · subst h; exact .inl (recv9 fu src dst dst' seq a0 a1 a2 a3 d h1 h2)
  · subst h; exact .inl (recv10 fu src dst dst' seq a0 a1 a2 a3 d h1 h2)
  · subst h; exact .inl (recv11 fu src dst dst' seq a0 a1 a2 a3 d h1 h2)
  · subst h; exact .inl (recv12 fu src dst dst' seq a0 a1 a2 a3 d h1 h2)
  · subst h; exact .inl (recv13 fu src dst dst' seq a0 a1 a2 a3 d h1 h2)
  · subst h; exact .inl (recv14 fu src dst dst' seq a0 a1 a2 a3 d h1 h2)
  · subst h; exact .inl (recv15 fu src dst dst' seq a0 a1 a2 a3 d h1 h2)
  · subst h; exact .inl (recv16 fu src dst dst' seq a0 a1 a2 a3 d h1 h2)
  · subst h; exact .inl (recv17 fu src dst dst' seq a0 a1 a2 a3 d h1 h2)
  · subst h; exact .inl (recv18 fu src dst dst' seq a0 a1 a2 a3 d h1 h2)
  · subst h; exact .inl (recv19 fu src dst dst' seq a0 a1 a2 a3 d h1 h2)
  · subst h; exact .inl (recv20 fu src dst dst' seq a0 a1 a2 a3 d h1 h2)
  · exact .inr (by omega)
  · subst h; exact .inl (recv22 fu src dst dst' seq a0 a1 a2 a3 d h1 h2)
  · subst h; exact .inl (recv23 fu src dst dst' seq a0 a1 a2 a3 d h1 h2)
  · subst h; exact .inl (recv24 fu src dst dst' seq a0 a1 a2 a3 d h1 h2)
  · subst h; exact .inl (recv25 fu src dst dst' seq a0 a1 a2 a3 d h1 h2)
  · subst h; exact .inl (recv26 fu src dst dst' seq a0 a1 a2 a3 d h1 h2)
  · exact .inr (by omega)
theorem law5 (a0_Src : Int) (a0_Dst : Int) (a0_Kind : Int) (a0_Seq : Int) (a0_Args_0 : Int) (a0_Args_1 : Int) (a0_Args_2 : Int) (a0_Args_3 : Int) (a0_Data : List Int) (a1 : Int) (h : WfA A5 ((a0_Src, a0_Dst, a0_Kind, a0_Seq, a0_Args_0, a0_Args_1, a0_Args_2, a0_Args_3, a0_Data, ()), a1, ())) : s5 FU a0_Src a0_Dst a0_Kind a0_Seq a0_Args_0 a0_Args_1 a0_Args_2 a0_Args_3 a0_Data a1 = some (true, ()) := by
  have _ := h
  unfold s5
  rw [aw19]
  cases hl : ilt 2000 (dlen a0_Data) with
  | true => rfl
  | false =>
    cases hd : ieq a1 a0_Dst with
    | true => rfl
    | false =>
      obtain ⟨b, h1, _⟩ := perm_all FU a0_Src a0_Dst a0_Kind a0_Seq a0_Args_0 a0_Args_1 a0_Args_2 a0_Args_3 a0_Data
      obtain ⟨c, h2, _⟩ := perm_all FU a0_Src a1 a0_Kind a0_Seq a0_Args_0 a0_Args_1 a0_Args_2 a0_Args_3 a0_Data
      cases b with
      | false => simp only [h1, cond_true, cond_false]
      | true =>
        cases c with
        | false => simp only [h1, h2, cond_true, cond_false]
        | true =>
          have hne := ieq_f.1 hd
          rcases recv_all FU a0_Src a0_Dst a1 a0_Kind a0_Seq a0_Args_0 a0_Args_1 a0_Args_2 a0_Args_3 a0_Data h1 h2 with e | e | e | e | e
          · exact absurd e.symm hne
          all_goals
            subst e
            simp only [h1, h2, cond_true, cond_false]
            rfl
end Go.G
