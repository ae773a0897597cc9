import Derived.Test.YtgnkomiicpahcaaDoorP19c
set_option linter.unusedVariables false
set_option linter.unusedSimpArgs false
namespace Go.G
set_option maxRecDepth 100000
set_option maxHeartbeats 4000000
theorem eff10 (fu : Nat) (task a0 a1 a2 a3 ms md mk mq m0 m1 m2 m3 : Int) (mm d : List Int) : ∃ b b' : Bool, s15 fu task 10 a0 a1 a2 a3 ms md mk mq m0 m1 m2 m3 mm d = some (b, ()) ∧ s21 fu task 10 a0 a1 a2 a3 ms md mk mq m0 m1 m2 m3 mm d = some (b', ()) ∧ b = b' := by
  refine ⟨_, _, by
    simp only [s15, s27_eq, s35_eq, s36, s37_eq, s38, ieq, ilt, ile, Int.reduceLT, Int.reduceLE, Int.reduceEq, Int.reduceNeg, decide_true, decide_false, cond_true, cond_false, Int.reduceToNat, if_true, List.getElem?_cons_succ, List.getElem?_cons_zero, dat, cSome, cPair, cAnd, cNot, cOr, cNand, Bool.true_and, Bool.and_true, Bool.false_and, Bool.and_false, b117, b48, ch_117_0, ch_117_1, ch_117_2, ch_117_3, b99]
    rfl, by
    simp only [s21, s39, s40, s41, s32_eq, s42, s34, s49_eq, ieq, ilt, ile, Int.reduceLT, Int.reduceLE, Int.reduceEq, Int.reduceNeg, decide_true, decide_false, cond_true, cond_false, Int.reduceToNat, if_true, List.getElem?_cons_succ, List.getElem?_cons_zero, dat, cSome, cPair, cAnd, cNot, cOr, cNand, Bool.true_and, Bool.and_true, Bool.false_and, Bool.and_false, r85, r48, ch_85_0, ch_85_1, ch_85_2, ch_85_3]
    rfl, ?_⟩
  have hd : 0 ≤ dlen d := Int.natCast_nonneg _
  have hm : 0 ≤ dlen mm := Int.natCast_nonneg _
  revert hd hm
  generalize dlen d = nd
  generalize dlen mm = nm
  intro hd hm
  rw [Bool.eq_iff_iff]
  simp only [cGen, Bool.and_eq_true, Bool.or_eq_true, Bool.not_eq_true', Bool.not_eq_true, decide_eq_true_eq, decide_eq_false_iff_not, Bool.false_eq_true, Bool.true_eq_false, beqb, beq_iff_eq, decide_eq_decide, Bool.not_not, Bool.and_eq_false_iff, Bool.or_eq_false_iff, Bool.not_eq_false', true_and, and_true, false_and, and_false, false_or, or_false]
  omega
theorem eff11 (fu : Nat) (task a0 a1 a2 a3 ms md mk mq m0 m1 m2 m3 : Int) (mm d : List Int) : ∃ b b' : Bool, s15 fu task 11 a0 a1 a2 a3 ms md mk mq m0 m1 m2 m3 mm d = some (b, ()) ∧ s21 fu task 11 a0 a1 a2 a3 ms md mk mq m0 m1 m2 m3 mm d = some (b', ()) ∧ b = b' := by
  refine ⟨_, _, by
    simp only [s15, s27_eq, s35_eq, s36, s37_eq, s38, ieq, ilt, ile, Int.reduceLT, Int.reduceLE, Int.reduceEq, Int.reduceNeg, decide_true, decide_false, cond_true, cond_false, Int.reduceToNat, if_true, List.getElem?_cons_succ, List.getElem?_cons_zero, dat, cSome, cPair, cAnd, cNot, cOr, cNand, Bool.true_and, Bool.and_true, Bool.false_and, Bool.and_false, b117, b48, ch_117_117_0, ch_117_117_1, ch_117_117_2, ch_117_117_3, b99]
    rfl, by
    simp only [s21, s39, s40, s41, s32_eq, s42, s34, s49_eq, ieq, ilt, ile, Int.reduceLT, Int.reduceLE, Int.reduceEq, Int.reduceNeg, decide_true, decide_false, cond_true, cond_false, Int.reduceToNat, if_true, List.getElem?_cons_succ, List.getElem?_cons_zero, dat, cSome, cPair, cAnd, cNot, cOr, cNand, Bool.true_and, Bool.and_true, Bool.false_and, Bool.and_false, r85, r48, ch_85_85_0, ch_85_85_1, ch_85_85_2, ch_85_85_3]
    rfl, ?_⟩
  have hd : 0 ≤ dlen d := Int.natCast_nonneg _
  have hm : 0 ≤ dlen mm := Int.natCast_nonneg _
  revert hd hm
  generalize dlen d = nd
  generalize dlen mm = nm
  intro hd hm
  rw [Bool.eq_iff_iff]
  simp only [cGen, Bool.and_eq_true, Bool.or_eq_true, Bool.not_eq_true', Bool.not_eq_true, decide_eq_true_eq, decide_eq_false_iff_not, Bool.false_eq_true, Bool.true_eq_false, beqb, beq_iff_eq, decide_eq_decide, Bool.not_not, Bool.and_eq_false_iff, Bool.or_eq_false_iff, Bool.not_eq_false', true_and, and_true, false_and, and_false, false_or, or_false]
  omega
theorem eff12 (fu : Nat) (task a0 a1 a2 a3 ms md mk mq m0 m1 m2 m3 : Int) (mm d : List Int) : ∃ b b' : Bool, s15 fu task 12 a0 a1 a2 a3 ms md mk mq m0 m1 m2 m3 mm d = some (b, ()) ∧ s21 fu task 12 a0 a1 a2 a3 ms md mk mq m0 m1 m2 m3 mm d = some (b', ()) ∧ b = b' := by
  refine ⟨_, _, by
    simp only [s15, s27_eq, s35_eq, s36, s37_eq, s38, ieq, ilt, ile, Int.reduceLT, Int.reduceLE, Int.reduceEq, Int.reduceNeg, decide_true, decide_false, cond_true, cond_false, Int.reduceToNat, if_true, List.getElem?_cons_succ, List.getElem?_cons_zero, dat, cSome, cPair, cAnd, cNot, cOr, cNand, Bool.true_and, Bool.and_true, Bool.false_and, Bool.and_false, b117, b110, b48, ch_117_110_0, ch_117_110_1, ch_117_110_2, ch_117_110_3, b99]
    rfl, by
    simp only [s21, s39, s40, s41, s32_eq, s42, s34, s49_eq, ieq, ilt, ile, Int.reduceLT, Int.reduceLE, Int.reduceEq, Int.reduceNeg, decide_true, decide_false, cond_true, cond_false, Int.reduceToNat, if_true, List.getElem?_cons_succ, List.getElem?_cons_zero, dat, cSome, cPair, cAnd, cNot, cOr, cNand, Bool.true_and, Bool.and_true, Bool.false_and, Bool.and_false, r85, r110, r48, ch_85_110_0, ch_85_110_1, ch_85_110_2, ch_85_110_3]
    rfl, ?_⟩
  have hd : 0 ≤ dlen d := Int.natCast_nonneg _
  have hm : 0 ≤ dlen mm := Int.natCast_nonneg _
  revert hd hm
  generalize dlen d = nd
  generalize dlen mm = nm
  intro hd hm
  rw [Bool.eq_iff_iff]
  simp only [cGen, Bool.and_eq_true, Bool.or_eq_true, Bool.not_eq_true', Bool.not_eq_true, decide_eq_true_eq, decide_eq_false_iff_not, Bool.false_eq_true, Bool.true_eq_false, beqb, beq_iff_eq, decide_eq_decide, Bool.not_not, Bool.and_eq_false_iff, Bool.or_eq_false_iff, Bool.not_eq_false', true_and, and_true, false_and, and_false, false_or, or_false]
  omega
theorem eff13 (fu : Nat) (task a0 a1 a2 a3 ms md mk mq m0 m1 m2 m3 : Int) (mm d : List Int) : ∃ b b' : Bool, s15 fu task 13 a0 a1 a2 a3 ms md mk mq m0 m1 m2 m3 mm d = some (b, ()) ∧ s21 fu task 13 a0 a1 a2 a3 ms md mk mq m0 m1 m2 m3 mm d = some (b', ()) ∧ b = b' := by
  refine ⟨_, _, by
    simp only [s15, s27_eq, s35_eq, s36, s37_eq, s38, ieq, ilt, ile, Int.reduceLT, Int.reduceLE, Int.reduceEq, Int.reduceNeg, decide_true, decide_false, cond_true, cond_false, Int.reduceToNat, if_true, List.getElem?_cons_succ, List.getElem?_cons_zero, dat, cSome, cPair, cAnd, cNot, cOr, cNand, Bool.true_and, Bool.and_true, Bool.false_and, Bool.and_false, b117, b48, ch_117_0, ch_117_1, ch_117_2, ch_117_3, b99]
    rfl, by
    simp only [s21, s39, s40, s41, s32_eq, s42, s34, s49_eq, ieq, ilt, ile, Int.reduceLT, Int.reduceLE, Int.reduceEq, Int.reduceNeg, decide_true, decide_false, cond_true, cond_false, Int.reduceToNat, if_true, List.getElem?_cons_succ, List.getElem?_cons_zero, dat, cSome, cPair, cAnd, cNot, cOr, cNand, Bool.true_and, Bool.and_true, Bool.false_and, Bool.and_false, r85, r48, ch_85_0, ch_85_1, ch_85_2, ch_85_3]
    rfl, ?_⟩
  have hd : 0 ≤ dlen d := Int.natCast_nonneg _
  have hm : 0 ≤ dlen mm := Int.natCast_nonneg _
  revert hd hm
  generalize dlen d = nd
  generalize dlen mm = nm
  intro hd hm
  rw [Bool.eq_iff_iff]
  simp only [cGen, Bool.and_eq_true, Bool.or_eq_true, Bool.not_eq_true', Bool.not_eq_true, decide_eq_true_eq, decide_eq_false_iff_not, Bool.false_eq_true, Bool.true_eq_false, beqb, beq_iff_eq, decide_eq_decide, Bool.not_not, Bool.and_eq_false_iff, Bool.or_eq_false_iff, Bool.not_eq_false', true_and, and_true, false_and, and_false, false_or, or_false]
  omega
end Go.G
