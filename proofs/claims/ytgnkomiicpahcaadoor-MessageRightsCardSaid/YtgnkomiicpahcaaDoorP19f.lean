import Derived.Test.YtgnkomiicpahcaaDoorP19e0
import Derived.Test.YtgnkomiicpahcaaDoorP19e1
import Derived.Test.YtgnkomiicpahcaaDoorP19e2
import Derived.Test.YtgnkomiicpahcaaDoorP19e3
set_option linter.unusedVariables false
set_option linter.unusedSimpArgs false
namespace Go.G
set_option maxRecDepth 100000
set_option maxHeartbeats 4000000
theorem s24_eq : s24 = s23 := rfl
theorem s42_eq : s42 = s36 := rfl
theorem s20_eq : s20 = s19 := rfl
theorem eff1 (fu : Nat) (task a0 a1 a2 a3 ms md mk mq m0 m1 m2 m3 : Int) (mm d : List Int) (hmm : dapp 1 [] mm = some mm) : ∃ b b' : Bool, s15 fu task 1 a0 a1 a2 a3 ms md mk mq m0 m1 m2 m3 mm d = some (b, ()) ∧ s21 fu task 1 a0 a1 a2 a3 ms md mk mq m0 m1 m2 m3 mm d = some (b', ()) ∧ b = b' := by
  obtain ⟨p, h1, h2⟩ := perm_all fu task md mk 0 m0 m1 m2 m3 mm
  refine ⟨_, _, by
    simp only [s15, s35_eq, s23, hmm, h1, ieq, ilt, ile, Int.reduceLT, Int.reduceLE, Int.reduceEq, Int.reduceNeg, decide_true, decide_false, cond_true, cond_false, Int.reduceToNat, if_true, List.getElem?_cons_succ, List.getElem?_cons_zero, dat, cSome, cPair, cAnd, cNot, cOr, cNand, Bool.true_and, Bool.and_true, Bool.false_and, Bool.and_false, b99]
    rfl, by
    simp only [s21, s39, s40, s41, s32_eq, s24, s34, hmm, h2, ieq, ilt, ile, Int.reduceLT, Int.reduceLE, Int.reduceEq, Int.reduceNeg, decide_true, decide_false, cond_true, cond_false, Int.reduceToNat, if_true, List.getElem?_cons_succ, List.getElem?_cons_zero, dat, cSome, cPair, cAnd, cNot, cOr, cNand, Bool.true_and, Bool.and_true, Bool.false_and, Bool.and_false, r48, ch_e_0, ch_e_1, ch_e_2, ch_e_3]
    rfl, ?_⟩
  have hd : 0 ≤ dlen d := Int.natCast_nonneg _
  revert hd
  generalize dlen d = nd
  intro hd
  rw [Bool.eq_iff_iff]
  cases p <;> simp only [cGen, Bool.and_eq_true, Bool.or_eq_true, Bool.not_eq_true', Bool.not_eq_true, decide_eq_true_eq, decide_eq_false_iff_not, Bool.false_eq_true, Bool.true_eq_false, beqb, beq_iff_eq, decide_eq_decide, Bool.not_not, Bool.and_eq_false_iff, Bool.or_eq_false_iff, Bool.not_eq_false', true_and, and_true, false_and, and_false, false_or, or_false] <;> omega
theorem eff_out (fu : Nat) {kind : Int} (h : kind < 1 ∨ 17 ≤ kind) (task a0 a1 a2 a3 ms md mk mq m0 m1 m2 m3 : Int) (mm d : List Int) : s15 fu task kind a0 a1 a2 a3 ms md mk mq m0 m1 m2 m3 mm d = some (false, ()) ∧ s21 fu task kind a0 a1 a2 a3 ms md mk mq m0 m1 m2 m3 mm d = some (false, ()) := by
  have ne : ∀ k : Int, 1 ≤ k → k < 17 → ieq kind k = false := fun k h1 h2 => ieq_f.2 (by omega)
  refine ⟨?_, ?_⟩
  · unfold s15
    rw [s35_eq]
    cases clsB 99 task with
    | false => rfl
    | true =>
      rcases h with h | h
      · rw [ilt_iff.2 h]; rfl
      · rw [ilt_f.2 (show (1 : Int) ≤ kind by omega), ile_iff.2 h]; rfl
  · simp only [s21, s39, s40, s41, ne 1 (by decide) (by decide), ne 2 (by decide) (by decide), ne 3 (by decide) (by decide), ne 4 (by decide) (by decide), ne 5 (by decide) (by decide), ne 6 (by decide) (by decide), ne 7 (by decide) (by decide), ne 8 (by decide) (by decide), ne 9 (by decide) (by decide), ne 10 (by decide) (by decide), ne 11 (by decide) (by decide), ne 12 (by decide) (by decide), ne 13 (by decide) (by decide), ne 14 (by decide) (by decide), ne 15 (by decide) (by decide), ne 16 (by decide) (by decide), cond_false, cSome, cPair, cAnd, cNot, Bool.not_false, cond_true]
    cases (ile 1 task && ile task 10) <;> rfl
theorem effk (kind : Int) : (kind < 1 ∨ 17 ≤ kind) ∨ kind = 1 ∨ kind = 2 ∨ kind = 3 ∨ kind = 4 ∨ kind = 5 ∨ kind = 6 ∨ kind = 7 ∨ kind = 8 ∨ kind = 9 ∨ kind = 10 ∨ kind = 11 ∨ kind = 12 ∨ kind = 13 ∨ kind = 14 ∨ kind = 15 ∨ kind = 16 := by omega
theorem eff_all (fu : Nat) (kind : Int) (task a0 a1 a2 a3 ms md mk mq m0 m1 m2 m3 : Int) (mm d : List Int) (hmm : dapp 1 [] mm = some mm) : ∃ b, s15 fu task kind a0 a1 a2 a3 ms md mk mq m0 m1 m2 m3 mm d = some (b, ()) ∧ s21 fu task kind a0 a1 a2 a3 ms md mk mq m0 m1 m2 m3 mm d = some (b, ()) := by
  rcases effk kind with h | h | h | h | h | h | h | h | h | h | h | h | h | h | h | h | h
  · obtain ⟨h1, h2⟩ := eff_out fu h task a0 a1 a2 a3 ms md mk mq m0 m1 m2 m3 mm d
    exact ⟨false, h1, h2⟩
  · subst h
    obtain ⟨b, b', h1, h2, rfl⟩ := eff1 fu task a0 a1 a2 a3 ms md mk mq m0 m1 m2 m3 mm d hmm
    exact ⟨b, h1, h2⟩
  · subst h
    obtain ⟨b, b', h1, h2, rfl⟩ := eff2 fu task a0 a1 a2 a3 ms md mk mq m0 m1 m2 m3 mm d
    exact ⟨b, h1, h2⟩
  · subst h
    obtain ⟨b, b', h1, h2, rfl⟩ := eff3 fu task a0 a1 a2 a3 ms md mk mq m0 m1 m2 m3 mm d
    exact ⟨b, h1, h2⟩
  · subst h
    obtain ⟨b, b', h1, h2, rfl⟩ := eff4 fu task a0 a1 a2 a3 ms md mk mq m0 m1 m2 m3 mm d
    exact ⟨b, h1, h2⟩
  · subst h
    obtain ⟨b, b', h1, h2, rfl⟩ := eff5 fu task a0 a1 a2 a3 ms md mk mq m0 m1 m2 m3 mm d
    exact ⟨b, h1, h2⟩
  · subst h
    obtain ⟨b, b', h1, h2, rfl⟩ := eff6 fu task a0 a1 a2 a3 ms md mk mq m0 m1 m2 m3 mm d
    exact ⟨b, h1, h2⟩
  · subst h
    obtain ⟨b, b', h1, h2, rfl⟩ := eff7 fu task a0 a1 a2 a3 ms md mk mq m0 m1 m2 m3 mm d
    exact ⟨b, h1, h2⟩
  · subst h
    obtain ⟨b, b', h1, h2, rfl⟩ := eff8 fu task a0 a1 a2 a3 ms md mk mq m0 m1 m2 m3 mm d
    exact ⟨b, h1, h2⟩
  · subst h
    obtain ⟨b, b', h1, h2, rfl⟩ := eff9 fu task a0 a1 a2 a3 ms md mk mq m0 m1 m2 m3 mm d
    exact ⟨b, h1, h2⟩
  · subst h
    obtain ⟨b, b', h1, h2, rfl⟩ := eff10 fu task a0 a1 a2 a3 ms md mk mq m0 m1 m2 m3 mm d
    exact ⟨b, h1, h2⟩
  · subst h
    obtain ⟨b, b', h1, h2, rfl⟩ := eff11 fu task a0 a1 a2 a3 ms md mk mq m0 m1 m2 m3 mm d
    exact ⟨b, h1, h2⟩
  · subst h
    obtain ⟨b, b', h1, h2, rfl⟩ := eff12 fu task a0 a1 a2 a3 ms md mk mq m0 m1 m2 m3 mm d
    exact ⟨b, h1, h2⟩
  · subst h
    obtain ⟨b, b', h1, h2, rfl⟩ := eff13 fu task a0 a1 a2 a3 ms md mk mq m0 m1 m2 m3 mm d
    exact ⟨b, h1, h2⟩
  · subst h
    obtain ⟨b, b', h1, h2, rfl⟩ := eff14 fu task a0 a1 a2 a3 ms md mk mq m0 m1 m2 m3 mm d
    exact ⟨b, h1, h2⟩
  · subst h
    obtain ⟨b, b', h1, h2, rfl⟩ := eff15 fu task a0 a1 a2 a3 ms md mk mq m0 m1 m2 m3 mm d
    exact ⟨b, h1, h2⟩
  · subst h
    obtain ⟨b, b', h1, h2, rfl⟩ := eff16 fu task a0 a1 a2 a3 ms md mk mq m0 m1 m2 m3 mm d
    exact ⟨b, h1, h2⟩
end Go.G
