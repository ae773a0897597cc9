import Derived.Test.YtgnkomiicpahcaaDoorP19c
set_option linter.unusedVariables false
set_option linter.unusedSimpArgs false
namespace Go.G
set_option maxRecDepth 100000
set_option maxHeartbeats 4000000
theorem eff2 (fu : Nat) (task a0 a1 a2 a3 ms md mk mq m0 m1 m2 m3 : Int) (mm d : List Int) : ∃ b b' : Bool, s15 fu task 2 a0 a1 a2 a3 ms md mk mq m0 m1 m2 m3 mm d = some (b, ()) ∧ s21 fu task 2 a0 a1 a2 a3 ms md mk mq m0 m1 m2 m3 mm d = some (b', ()) ∧ b = b' := by
  refine ⟨_, _, by
    simp only [s15, s27_eq, s35_eq, s36, s37_eq, s38, ieq, ilt, ile, Int.reduceLT, Int.reduceLE, Int.reduceEq, Int.reduceNeg, decide_true, decide_false, cond_true, cond_false, Int.reduceToNat, if_true, List.getElem?_cons_succ, List.getElem?_cons_zero, dat, cSome, cPair, cAnd, cNot, cOr, cNand, Bool.true_and, Bool.and_true, Bool.false_and, Bool.and_false, b117, b42, b48, ch_117_42_0, ch_117_42_1, ch_117_42_2, ch_117_42_3, b99]
    rfl, by
    simp only [s21, s39, s40, s41, s32_eq, s42, s34, s49_eq, ieq, ilt, ile, Int.reduceLT, Int.reduceLE, Int.reduceEq, Int.reduceNeg, decide_true, decide_false, cond_true, cond_false, Int.reduceToNat, if_true, List.getElem?_cons_succ, List.getElem?_cons_zero, dat, cSome, cPair, cAnd, cNot, cOr, cNand, Bool.true_and, Bool.and_true, Bool.false_and, Bool.and_false, r85, r97, r48, ch_85_97_0, ch_85_97_1, ch_85_97_2, ch_85_97_3]
    rfl, ?_⟩
  have hd : 0 ≤ dlen d := Int.natCast_nonneg _
  have hm : 0 ≤ dlen mm := Int.natCast_nonneg _
  revert hd hm
  generalize dlen d = nd
  generalize dlen mm = nm
  intro hd hm
  rw [Bool.eq_iff_iff]
  simp only [cGen, Bool.and_eq_true, Bool.or_eq_true, Bool.not_eq_true', Bool.not_eq_true, decide_eq_true_eq, decide_eq_false_iff_not, Bool.false_eq_true, Bool.true_eq_false, beqb, beq_iff_eq, decide_eq_decide, Bool.not_not, Bool.and_eq_false_iff, Bool.or_eq_false_iff, Bool.not_eq_false', true_and, and_true, false_and, and_false, false_or, or_false]
  omega
theorem eff3 (fu : Nat) (task a0 a1 a2 a3 ms md mk mq m0 m1 m2 m3 : Int) (mm d : List Int) : ∃ b b' : Bool, s15 fu task 3 a0 a1 a2 a3 ms md mk mq m0 m1 m2 m3 mm d = some (b, ()) ∧ s21 fu task 3 a0 a1 a2 a3 ms md mk mq m0 m1 m2 m3 mm d = some (b', ()) ∧ b = b' := by
  refine ⟨_, _, by
    simp only [s15, s27_eq, s35_eq, s36, s37_eq, s38, ieq, ilt, ile, Int.reduceLT, Int.reduceLE, Int.reduceEq, Int.reduceNeg, decide_true, decide_false, cond_true, cond_false, Int.reduceToNat, if_true, List.getElem?_cons_succ, List.getElem?_cons_zero, dat, cSome, cPair, cAnd, cNot, cOr, cNand, Bool.true_and, Bool.and_true, Bool.false_and, Bool.and_false, b100, b116, b42, ch_100_116_42_42_0, ch_100_116_42_42_1, ch_100_116_42_42_2, ch_100_116_42_42_3, b99]
    rfl, by
    simp only [s21, s39, s40, s41, s32_eq, s42, s34, s49_eq, ieq, ilt, ile, Int.reduceLT, Int.reduceLE, Int.reduceEq, Int.reduceNeg, decide_true, decide_false, cond_true, cond_false, Int.reduceToNat, if_true, List.getElem?_cons_succ, List.getElem?_cons_zero, dat, cSome, cPair, cAnd, cNot, cOr, cNand, Bool.true_and, Bool.and_true, Bool.false_and, Bool.and_false, r100, r116, r97, ch_100_116_97_97_0, ch_100_116_97_97_1, ch_100_116_97_97_2, ch_100_116_97_97_3]
    rfl, ?_⟩
  have hd : 0 ≤ dlen d := Int.natCast_nonneg _
  have hm : 0 ≤ dlen mm := Int.natCast_nonneg _
  revert hd hm
  generalize dlen d = nd
  generalize dlen mm = nm
  intro hd hm
  generalize drvN a0 = q
  rw [Bool.eq_iff_iff]
  simp only [cGen, Bool.and_eq_true, Bool.or_eq_true, Bool.not_eq_true', Bool.not_eq_true, decide_eq_true_eq, decide_eq_false_iff_not, Bool.false_eq_true, Bool.true_eq_false, beqb, beq_iff_eq, decide_eq_decide, Bool.not_not, Bool.and_eq_false_iff, Bool.or_eq_false_iff, Bool.not_eq_false', true_and, and_true, false_and, and_false, false_or, or_false]
  omega
theorem eff4 (fu : Nat) (task a0 a1 a2 a3 ms md mk mq m0 m1 m2 m3 : Int) (mm d : List Int) : ∃ b b' : Bool, s15 fu task 4 a0 a1 a2 a3 ms md mk mq m0 m1 m2 m3 mm d = some (b, ()) ∧ s21 fu task 4 a0 a1 a2 a3 ms md mk mq m0 m1 m2 m3 mm d = some (b', ()) ∧ b = b' := by
  refine ⟨_, _, by
    simp only [s15, s27_eq, s35_eq, s36, s37_eq, s38, ieq, ilt, ile, Int.reduceLT, Int.reduceLE, Int.reduceEq, Int.reduceNeg, decide_true, decide_false, cond_true, cond_false, Int.reduceToNat, if_true, List.getElem?_cons_succ, List.getElem?_cons_zero, dat, cSome, cPair, cAnd, cNot, cOr, cNand, Bool.true_and, Bool.and_true, Bool.false_and, Bool.and_false, b42, b48, ch_42_42_0, ch_42_42_1, ch_42_42_2, ch_42_42_3, b99]
    rfl, by
    simp only [s21, s39, s40, s41, s32_eq, s42, s34, s49_eq, ieq, ilt, ile, Int.reduceLT, Int.reduceLE, Int.reduceEq, Int.reduceNeg, decide_true, decide_false, cond_true, cond_false, Int.reduceToNat, if_true, List.getElem?_cons_succ, List.getElem?_cons_zero, dat, cSome, cPair, cAnd, cNot, cOr, cNand, Bool.true_and, Bool.and_true, Bool.false_and, Bool.and_false, r97, r48, ch_97_97_0, ch_97_97_1, ch_97_97_2, ch_97_97_3]
    rfl, ?_⟩
  have hd : 0 ≤ dlen d := Int.natCast_nonneg _
  have hm : 0 ≤ dlen mm := Int.natCast_nonneg _
  revert hd hm
  generalize dlen d = nd
  generalize dlen mm = nm
  intro hd hm
  rw [Bool.eq_iff_iff]
  simp only [cGen, Bool.and_eq_true, Bool.or_eq_true, Bool.not_eq_true', Bool.not_eq_true, decide_eq_true_eq, decide_eq_false_iff_not, Bool.false_eq_true, Bool.true_eq_false, beqb, beq_iff_eq, decide_eq_decide, Bool.not_not, Bool.and_eq_false_iff, Bool.or_eq_false_iff, Bool.not_eq_false', true_and, and_true, false_and, and_false, false_or, or_false]
  omega
theorem eff5 (fu : Nat) (task a0 a1 a2 a3 ms md mk mq m0 m1 m2 m3 : Int) (mm d : List Int) : ∃ b b' : Bool, s15 fu task 5 a0 a1 a2 a3 ms md mk mq m0 m1 m2 m3 mm d = some (b, ()) ∧ s21 fu task 5 a0 a1 a2 a3 ms md mk mq m0 m1 m2 m3 mm d = some (b', ()) ∧ b = b' := by
  by_cases h1 : a0 = 1
  · subst h1
    refine ⟨_, _, by
      simp only [s15, s27_eq, s35_eq, s36, s37_eq, s38, ieq, ilt, ile, Int.reduceLT, Int.reduceLE, Int.reduceEq, Int.reduceNeg, decide_true, decide_false, cond_true, cond_false, Int.reduceToNat, if_true, List.getElem?_cons_succ, List.getElem?_cons_zero, dat, cSome, cPair, cAnd, cNot, cOr, cNand, Bool.true_and, Bool.and_true, Bool.false_and, Bool.and_false, b48, b102, ch_48_102_0, ch_48_102_1, ch_48_102_2, ch_48_102_3, b42, ch_42_102_102_0, ch_42_102_102_1, ch_42_102_102_2, ch_42_102_102_3, ch_42_102_0, ch_42_102_1, ch_42_102_2, ch_42_102_3, b99]
      rfl, by
      simp only [s21, s39, s40, s41, s32_eq, s42, s34, s49_eq, ieq, ilt, ile, Int.reduceLT, Int.reduceLE, Int.reduceEq, Int.reduceNeg, decide_true, decide_false, cond_true, cond_false, Int.reduceToNat, if_true, List.getElem?_cons_succ, List.getElem?_cons_zero, dat, cSome, cPair, cAnd, cNot, cOr, cNand, Bool.true_and, Bool.and_true, Bool.false_and, Bool.and_false, r49, r102, r48, ch_49_102_102_0, ch_49_102_102_1, ch_49_102_102_2, ch_49_102_102_3, r50, ch_50_102_0, ch_50_102_1, ch_50_102_2, ch_50_102_3, ch_48_102_0, ch_48_102_1, ch_48_102_2, ch_48_102_3]
      rfl, ?_⟩
    have hd : 0 ≤ dlen d := Int.natCast_nonneg _
    have hm : 0 ≤ dlen mm := Int.natCast_nonneg _
    revert hd hm
    generalize dlen d = nd
    generalize dlen mm = nm
    intro hd hm
    rw [Bool.eq_iff_iff]
    simp only [cGen, Bool.and_eq_true, Bool.or_eq_true, Bool.not_eq_true', Bool.not_eq_true, decide_eq_true_eq, decide_eq_false_iff_not, Bool.false_eq_true, Bool.true_eq_false, beqb, beq_iff_eq, decide_eq_decide, Bool.not_not, Bool.and_eq_false_iff, Bool.or_eq_false_iff, Bool.not_eq_false', true_and, and_true, false_and, and_false, false_or, or_false]
    omega
  by_cases h2 : a0 = 2
  · subst h2
    refine ⟨_, _, by
      simp only [s15, s27_eq, s35_eq, s36, s37_eq, s38, ieq, ilt, ile, Int.reduceLT, Int.reduceLE, Int.reduceEq, Int.reduceNeg, decide_true, decide_false, cond_true, cond_false, Int.reduceToNat, if_true, List.getElem?_cons_succ, List.getElem?_cons_zero, dat, cSome, cPair, cAnd, cNot, cOr, cNand, Bool.true_and, Bool.and_true, Bool.false_and, Bool.and_false, b48, b102, ch_48_102_0, ch_48_102_1, ch_48_102_2, ch_48_102_3, b42, ch_42_102_102_0, ch_42_102_102_1, ch_42_102_102_2, ch_42_102_102_3, ch_42_102_0, ch_42_102_1, ch_42_102_2, ch_42_102_3, b99]
      rfl, by
      simp only [s21, s39, s40, s41, s32_eq, s42, s34, s49_eq, ieq, ilt, ile, Int.reduceLT, Int.reduceLE, Int.reduceEq, Int.reduceNeg, decide_true, decide_false, cond_true, cond_false, Int.reduceToNat, if_true, List.getElem?_cons_succ, List.getElem?_cons_zero, dat, cSome, cPair, cAnd, cNot, cOr, cNand, Bool.true_and, Bool.and_true, Bool.false_and, Bool.and_false, r49, r102, r48, ch_49_102_102_0, ch_49_102_102_1, ch_49_102_102_2, ch_49_102_102_3, r50, ch_50_102_0, ch_50_102_1, ch_50_102_2, ch_50_102_3, ch_48_102_0, ch_48_102_1, ch_48_102_2, ch_48_102_3]
      rfl, ?_⟩
    have hd : 0 ≤ dlen d := Int.natCast_nonneg _
    have hm : 0 ≤ dlen mm := Int.natCast_nonneg _
    revert hd hm
    generalize dlen d = nd
    generalize dlen mm = nm
    intro hd hm
    rw [Bool.eq_iff_iff]
    simp only [cGen, Bool.and_eq_true, Bool.or_eq_true, Bool.not_eq_true', Bool.not_eq_true, decide_eq_true_eq, decide_eq_false_iff_not, Bool.false_eq_true, Bool.true_eq_false, beqb, beq_iff_eq, decide_eq_decide, Bool.not_not, Bool.and_eq_false_iff, Bool.or_eq_false_iff, Bool.not_eq_false', true_and, and_true, false_and, and_false, false_or, or_false]
    omega
  have e1 : decide (a0 = 1) = false := by simp [h1]
  have e2 : decide (a0 = 2) = false := by simp [h2]
  refine ⟨_, _, by
    simp only [e1, e2, s15, s27_eq, s35_eq, s36, s37_eq, s38, ieq, ilt, ile, e1, e2, Int.reduceLT, Int.reduceLE, Int.reduceEq, Int.reduceNeg, decide_true, decide_false, cond_true, cond_false, Int.reduceToNat, if_true, List.getElem?_cons_succ, List.getElem?_cons_zero, dat, cSome, cPair, cAnd, cNot, cOr, cNand, Bool.true_and, Bool.and_true, Bool.false_and, Bool.and_false, b48, b102, ch_48_102_0, ch_48_102_1, ch_48_102_2, ch_48_102_3, b42, ch_42_102_102_0, ch_42_102_102_1, ch_42_102_102_2, ch_42_102_102_3, ch_42_102_0, ch_42_102_1, ch_42_102_2, ch_42_102_3, b99]
    rfl, by
    simp only [e1, e2, s21, s39, s40, s41, s32_eq, s42, s34, s49_eq, ieq, ilt, ile, e1, e2, Int.reduceLT, Int.reduceLE, Int.reduceEq, Int.reduceNeg, decide_true, decide_false, cond_true, cond_false, Int.reduceToNat, if_true, List.getElem?_cons_succ, List.getElem?_cons_zero, dat, cSome, cPair, cAnd, cNot, cOr, cNand, Bool.true_and, Bool.and_true, Bool.false_and, Bool.and_false, r49, r102, r48, ch_49_102_102_0, ch_49_102_102_1, ch_49_102_102_2, ch_49_102_102_3, r50, ch_50_102_0, ch_50_102_1, ch_50_102_2, ch_50_102_3, ch_48_102_0, ch_48_102_1, ch_48_102_2, ch_48_102_3]
    rfl, ?_⟩
  have hd : 0 ≤ dlen d := Int.natCast_nonneg _
  have hm : 0 ≤ dlen mm := Int.natCast_nonneg _
  revert hd hm
  generalize dlen d = nd
  generalize dlen mm = nm
  intro hd hm
  rw [Bool.eq_iff_iff]
  simp only [cGen, Bool.and_eq_true, Bool.or_eq_true, Bool.not_eq_true', Bool.not_eq_true, decide_eq_true_eq, decide_eq_false_iff_not, Bool.false_eq_true, Bool.true_eq_false, beqb, beq_iff_eq, decide_eq_decide, Bool.not_not, Bool.and_eq_false_iff, Bool.or_eq_false_iff, Bool.not_eq_false', true_and, and_true, false_and, and_false, false_or, or_false]
  omega
end Go.G
