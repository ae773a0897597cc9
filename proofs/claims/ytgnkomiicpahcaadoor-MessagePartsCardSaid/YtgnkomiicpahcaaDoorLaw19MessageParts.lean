import Derived.Test.YtgnkomiicpahcaaDoorP19g
import Derived.Test.YtgnkomiicpahcaaDoorOn19L7
set_option linter.unusedVariables false
set_option linter.unusedSimpArgs false
namespace Go.G
set_option maxRecDepth 100000
theorem room7 {a0 : Int} {l : List Effect19} {k : Int} (h : WfA A7 (a0, l, k, ())) : l.length * 152 ≤ 140737488351232 := by
  have hw : WfC (T := C19) (.d (.sl .effect l)) := h (.one (.d (.sl .effect l))) (by simp [A7, embPs, embP, embC])
  have := WfD.room hw
  exact this
theorem law7 (a0 : Int) (a1 : List Effect19) (a2 : Int) (h : WfA A7 (a0, a1, a2, ())) : s7 FU a0 a1 a2 = some (true, ()) := by
  have hr := room7 h
  have hw : WfC (T := C19) (.d (.int .u8 a2)) := h (.one (.d (.int .u8 a2))) (by simp [A7, embPs, embP, embC])
  obtain ⟨w1, w2⟩ := wfd_u8 hw
  unfold s7
  rw [aw19]
  obtain ⟨b, f1, f2⟩ := few19 (fu := FU) (l := a1) (by unfold FU; omega) (by omega)
  cases b with
  | false => simp only [f1, aw19, cond_true, cond_false]
  | true =>
    obtain ⟨g1, g2⟩ := f2 rfl
    have i1 : iadd .i64 (dlen a1) 1 = ((a1.length + 1 : Nat) : Int) := iadd1 (by omega)
    have i2 : iwrap .i64 a2 = a2 := wrap64 (by omega)
    obtain ⟨n, hn, hn2⟩ : ∃ n : Nat, irem .i64 a2 ((a1.length + 1 : Nat) : Int) = (n : Int) ∧ n ≤ a1.length := by
      have e1 : irem .i64 a2 ((a1.length + 1 : Nat) : Int) = a2 % ((a1.length + 1 : Nat) : Int) := by unfold irem; exact Int.tmod_eq_emod_of_nonneg w1
      have e2 := Int.emod_nonneg a2 (show ((a1.length + 1 : Nat) : Int) ≠ 0 by omega)
      have e3 := Int.emod_lt_of_pos a2 (show (0 : Int) < ((a1.length + 1 : Nat) : Int) by omega)
      exact ⟨(a2 % ((a1.length + 1 : Nat) : Int)).toNat, by rw [e1]; omega, by omega⟩
    have i3 : ieq ((a1.length + 1 : Nat) : Int) 0 = false := ieq_f.2 (by omega)
    have d1 : dsub a1 0 (n : Int) = some (a1.take n) := dsub0 hn2
    have d2 : dsub a1 (n : Int) (dlen a1) = some (a1.drop n) := by
      have := dsub_ok (l := a1) (lo := n) (hi := a1.length) hn2 (Nat.le_refl _)
      rw [List.take_length] at this
      exact this
    have lt : (a1.take n).length = n := by rw [List.length_take]; omega
    have ld : (a1.drop n).length = a1.length - n := List.length_drop
    have k1 := s17_eq (fu := FU) a0 (l := a1.take n) (by unfold FU; omega) (by omega) (fun x hx => g2 x (List.mem_of_mem_take hx))
    have k2 := s17_eq (fu := FU) a0 (l := a1.drop n) (by unfold FU; omega) (by omega) (fun x hx => g2 x (List.mem_of_mem_drop hx))
    have k3 := s17_eq (fu := FU) a0 (l := a1) (by unfold FU; omega) (by omega) g2
    have hany : a1.any (fun x => !effB FU a0 x) = ((a1.take n).any (fun x => !effB FU a0 x) || (a1.drop n).any (fun x => !effB FU a0 x)) := by
      rw [← List.any_append, List.take_append_drop]
    simp only [f1, i1, i2, hn, i3, d1, d2, k1, k2, k3, cond_true, cond_false]
    unfold effsB
    rw [hany]
    cases (a1.take n).any (fun x => !effB FU a0 x) <;> cases (a1.drop n).any (fun x => !effB FU a0 x) <;> simp only [Bool.or_true, Bool.or_false, Bool.true_or, cond_true, cond_false]
    · by_cases h1 : a1.length ≤ 160
      · have e1 : ile (dlen (a1.take n)) 160 = true := ile_iff.2 (by rw [dlen_def]; omega)
        have e2 : ile (dlen (a1.drop n)) 160 = true := ile_iff.2 (by rw [dlen_def]; omega)
        have e3 : ile (dlen a1) 160 = true := ile_iff.2 (by rw [dlen_def]; omega)
        rw [e1, e2, e3]; rfl
      · have e3 : ile (dlen a1) 160 = false := ile_f.2 (by rw [dlen_def]; omega)
        rw [e3]
        cases ile (dlen (a1.take n)) 160 <;> cases ile (dlen (a1.drop n)) 160 <;> rfl
    all_goals
      cases ile (dlen (a1.take n)) 160 <;> cases ile (dlen (a1.drop n)) 160 <;> cases ile (dlen a1) 160 <;> rfl
end Go.G
