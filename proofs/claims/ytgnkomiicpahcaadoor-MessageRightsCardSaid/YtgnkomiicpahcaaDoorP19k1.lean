import Derived.Test.YtgnkomiicpahcaaDoorP19b
set_option linter.unusedVariables false
set_option linter.unusedSimpArgs false
namespace Go.G
set_option maxRecDepth 100000
set_option maxHeartbeats 4000000
theorem perm8 (fu : Nat) (src dst seq a0 a1 a2 a3 : Int) (d : List Int) : ∃ b b' : Bool, s13 fu src dst 8 seq a0 a1 a2 a3 d = some (b, ()) ∧ s14 fu src dst 8 seq a0 a1 a2 a3 d = some (b', ()) ∧ b = b' := by
  refine ⟨_, _, by
    simp only [s13, s27_eq, s28, s29, s35_eq, s37_eq, s11_eq, ieq, ilt, ile, Int.reduceLT, Int.reduceLE, Int.reduceEq, Int.reduceNeg, decide_true, decide_false, cond_true, cond_false, Int.reduceToNat, if_true, List.getElem?_cons_succ, List.getElem?_cons_zero, dat, cSome, cPair, cAnd, cNot, cOr, cNand, Bool.true_and, Bool.and_true, Bool.false_and, Bool.and_false, b117, b48, ch_117_117_0, ch_117_117_1, ch_117_117_2, ch_117_117_3, b99, b100]
    rfl, by
    simp only [s14, s30, s31, s32_eq, s33, s34, s40, s49_eq, s12_eq, ieq, ilt, ile, Int.reduceLT, Int.reduceLE, Int.reduceEq, Int.reduceNeg, decide_true, decide_false, cond_true, cond_false, Int.reduceToNat, if_true, List.getElem?_cons_succ, List.getElem?_cons_zero, dat, cSome, cPair, cAnd, cNot, cOr, cNand, Bool.true_and, Bool.and_true, Bool.false_and, Bool.and_false, r85, r48, ch_85_85_0, ch_85_85_1, ch_85_85_2, ch_85_85_3]
    rfl, ?_⟩
  rw [Bool.eq_iff_iff]
  simp only [cGen, Bool.and_eq_true, Bool.or_eq_true, Bool.not_eq_true', Bool.not_eq_true, decide_eq_true_eq, decide_eq_false_iff_not, Bool.false_eq_true, Bool.true_eq_false, beqb, beq_iff_eq, decide_eq_decide, Bool.not_not, Bool.and_eq_false_iff, Bool.or_eq_false_iff, Bool.not_eq_false']
  omega
theorem perm9 (fu : Nat) (src dst seq a0 a1 a2 a3 : Int) (d : List Int) : ∃ b b' : Bool, s13 fu src dst 9 seq a0 a1 a2 a3 d = some (b, ()) ∧ s14 fu src dst 9 seq a0 a1 a2 a3 d = some (b', ()) ∧ b = b' := by
  refine ⟨_, _, by
    simp only [s13, s27_eq, s28, s29, s35_eq, s37_eq, s11_eq, ieq, ilt, ile, Int.reduceLT, Int.reduceLE, Int.reduceEq, Int.reduceNeg, decide_true, decide_false, cond_true, cond_false, Int.reduceToNat, if_true, List.getElem?_cons_succ, List.getElem?_cons_zero, dat, cSome, cPair, cAnd, cNot, cOr, cNand, Bool.true_and, Bool.and_true, Bool.false_and, Bool.and_false, b117, b48, ch_117_0, ch_117_1, ch_117_2, ch_117_3, b99, b100]
    rfl, by
    simp only [s14, s30, s31, s32_eq, s33, s34, s40, s49_eq, s12_eq, ieq, ilt, ile, Int.reduceLT, Int.reduceLE, Int.reduceEq, Int.reduceNeg, decide_true, decide_false, cond_true, cond_false, Int.reduceToNat, if_true, List.getElem?_cons_succ, List.getElem?_cons_zero, dat, cSome, cPair, cAnd, cNot, cOr, cNand, Bool.true_and, Bool.and_true, Bool.false_and, Bool.and_false, r85, r48, ch_85_0, ch_85_1, ch_85_2, ch_85_3]
    rfl, ?_⟩
  rw [Bool.eq_iff_iff]
  simp only [cGen, Bool.and_eq_true, Bool.or_eq_true, Bool.not_eq_true', Bool.not_eq_true, decide_eq_true_eq, decide_eq_false_iff_not, Bool.false_eq_true, Bool.true_eq_false, beqb, beq_iff_eq, decide_eq_decide, Bool.not_not, Bool.and_eq_false_iff, Bool.or_eq_false_iff, Bool.not_eq_false']
  omega
theorem perm10 (fu : Nat) (src dst seq a0 a1 a2 a3 : Int) (d : List Int) : ∃ b b' : Bool, s13 fu src dst 10 seq a0 a1 a2 a3 d = some (b, ()) ∧ s14 fu src dst 10 seq a0 a1 a2 a3 d = some (b', ()) ∧ b = b' := by
  refine ⟨_, _, by
    simp only [s13, s27_eq, s28, s29, s35_eq, s37_eq, s11_eq, ieq, ilt, ile, Int.reduceLT, Int.reduceLE, Int.reduceEq, Int.reduceNeg, decide_true, decide_false, cond_true, cond_false, Int.reduceToNat, if_true, List.getElem?_cons_succ, List.getElem?_cons_zero, dat, cSome, cPair, cAnd, cNot, cOr, cNand, Bool.true_and, Bool.and_true, Bool.false_and, Bool.and_false, b117, b48, ch_117_0, ch_117_1, ch_117_2, ch_117_3, b99, b100]
    rfl, by
    simp only [s14, s30, s31, s32_eq, s33, s34, s40, s49_eq, s12_eq, ieq, ilt, ile, Int.reduceLT, Int.reduceLE, Int.reduceEq, Int.reduceNeg, decide_true, decide_false, cond_true, cond_false, Int.reduceToNat, if_true, List.getElem?_cons_succ, List.getElem?_cons_zero, dat, cSome, cPair, cAnd, cNot, cOr, cNand, Bool.true_and, Bool.and_true, Bool.false_and, Bool.and_false, r85, r48, ch_85_0, ch_85_1, ch_85_2, ch_85_3]
    rfl, ?_⟩
  rw [Bool.eq_iff_iff]
  simp only [cGen, Bool.and_eq_true, Bool.or_eq_true, Bool.not_eq_true', Bool.not_eq_true, decide_eq_true_eq, decide_eq_false_iff_not, Bool.false_eq_true, Bool.true_eq_false, beqb, beq_iff_eq, decide_eq_decide, Bool.not_not, Bool.and_eq_false_iff, Bool.or_eq_false_iff, Bool.not_eq_false']
  omega
theorem perm11 (fu : Nat) (src dst seq a0 a1 a2 a3 : Int) (d : List Int) : ∃ b b' : Bool, s13 fu src dst 11 seq a0 a1 a2 a3 d = some (b, ()) ∧ s14 fu src dst 11 seq a0 a1 a2 a3 d = some (b', ()) ∧ b = b' := by
  refine ⟨_, _, by
    simp only [s13, s27_eq, s28, s29, s35_eq, s37_eq, s11_eq, ieq, ilt, ile, Int.reduceLT, Int.reduceLE, Int.reduceEq, Int.reduceNeg, decide_true, decide_false, cond_true, cond_false, Int.reduceToNat, if_true, List.getElem?_cons_succ, List.getElem?_cons_zero, dat, cSome, cPair, cAnd, cNot, cOr, cNand, Bool.true_and, Bool.and_true, Bool.false_and, Bool.and_false, b117, b101, b110, b48, ch_117_101_110_0, ch_117_101_110_1, ch_117_101_110_2, ch_117_101_110_3, b99, b100]
    rfl, by
    simp only [s14, s30, s31, s32_eq, s33, s34, s40, s49_eq, s12_eq, ieq, ilt, ile, Int.reduceLT, Int.reduceLE, Int.reduceEq, Int.reduceNeg, decide_true, decide_false, cond_true, cond_false, Int.reduceToNat, if_true, List.getElem?_cons_succ, List.getElem?_cons_zero, dat, cSome, cPair, cAnd, cNot, cOr, cNand, Bool.true_and, Bool.and_true, Bool.false_and, Bool.and_false, r85, r101, r110, r48, ch_85_101_110_0, ch_85_101_110_1, ch_85_101_110_2, ch_85_101_110_3]
    rfl, ?_⟩
  rw [Bool.eq_iff_iff]
  simp only [cGen, Bool.and_eq_true, Bool.or_eq_true, Bool.not_eq_true', Bool.not_eq_true, decide_eq_true_eq, decide_eq_false_iff_not, Bool.false_eq_true, Bool.true_eq_false, beqb, beq_iff_eq, decide_eq_decide, Bool.not_not, Bool.and_eq_false_iff, Bool.or_eq_false_iff, Bool.not_eq_false']
  omega
theorem perm12 (fu : Nat) (src dst seq a0 a1 a2 a3 : Int) (d : List Int) : ∃ b b' : Bool, s13 fu src dst 12 seq a0 a1 a2 a3 d = some (b, ()) ∧ s14 fu src dst 12 seq a0 a1 a2 a3 d = some (b', ()) ∧ b = b' := by
  refine ⟨_, _, by
    simp only [s13, s27_eq, s28, s29, s35_eq, s37_eq, s11_eq, ieq, ilt, ile, Int.reduceLT, Int.reduceLE, Int.reduceEq, Int.reduceNeg, decide_true, decide_false, cond_true, cond_false, Int.reduceToNat, if_true, List.getElem?_cons_succ, List.getElem?_cons_zero, dat, cSome, cPair, cAnd, cNot, cOr, cNand, Bool.true_and, Bool.and_true, Bool.false_and, Bool.and_false, b117, b48, ch_117_117_0, ch_117_117_1, ch_117_117_2, ch_117_117_3, b99, b100]
    rfl, by
    simp only [s14, s30, s31, s32_eq, s33, s34, s40, s49_eq, s12_eq, ieq, ilt, ile, Int.reduceLT, Int.reduceLE, Int.reduceEq, Int.reduceNeg, decide_true, decide_false, cond_true, cond_false, Int.reduceToNat, if_true, List.getElem?_cons_succ, List.getElem?_cons_zero, dat, cSome, cPair, cAnd, cNot, cOr, cNand, Bool.true_and, Bool.and_true, Bool.false_and, Bool.and_false, r85, r48, ch_85_85_0, ch_85_85_1, ch_85_85_2, ch_85_85_3]
    rfl, ?_⟩
  rw [Bool.eq_iff_iff]
  simp only [cGen, Bool.and_eq_true, Bool.or_eq_true, Bool.not_eq_true', Bool.not_eq_true, decide_eq_true_eq, decide_eq_false_iff_not, Bool.false_eq_true, Bool.true_eq_false, beqb, beq_iff_eq, decide_eq_decide, Bool.not_not, Bool.and_eq_false_iff, Bool.or_eq_false_iff, Bool.not_eq_false']
  omega
theorem perm13 (fu : Nat) (src dst seq a0 a1 a2 a3 : Int) (d : List Int) : ∃ b b' : Bool, s13 fu src dst 13 seq a0 a1 a2 a3 d = some (b, ()) ∧ s14 fu src dst 13 seq a0 a1 a2 a3 d = some (b', ()) ∧ b = b' := by
  refine ⟨_, _, by
    simp only [s13, s27_eq, s28, s29, s35_eq, s37_eq, s11_eq, ieq, ilt, ile, Int.reduceLT, Int.reduceLE, Int.reduceEq, Int.reduceNeg, decide_true, decide_false, cond_true, cond_false, Int.reduceToNat, if_true, List.getElem?_cons_succ, List.getElem?_cons_zero, dat, cSome, cPair, cAnd, cNot, cOr, cNand, Bool.true_and, Bool.and_true, Bool.false_and, Bool.and_false, b117, b48, ch_117_0, ch_117_1, ch_117_2, ch_117_3, b99, b100]
    rfl, by
    simp only [s14, s30, s31, s32_eq, s33, s34, s40, s49_eq, s12_eq, ieq, ilt, ile, Int.reduceLT, Int.reduceLE, Int.reduceEq, Int.reduceNeg, decide_true, decide_false, cond_true, cond_false, Int.reduceToNat, if_true, List.getElem?_cons_succ, List.getElem?_cons_zero, dat, cSome, cPair, cAnd, cNot, cOr, cNand, Bool.true_and, Bool.and_true, Bool.false_and, Bool.and_false, r85, r48, ch_85_0, ch_85_1, ch_85_2, ch_85_3]
    rfl, ?_⟩
  rw [Bool.eq_iff_iff]
  simp only [cGen, Bool.and_eq_true, Bool.or_eq_true, Bool.not_eq_true', Bool.not_eq_true, decide_eq_true_eq, decide_eq_false_iff_not, Bool.false_eq_true, Bool.true_eq_false, beqb, beq_iff_eq, decide_eq_decide, Bool.not_not, Bool.and_eq_false_iff, Bool.or_eq_false_iff, Bool.not_eq_false']
  omega
theorem perm14 (fu : Nat) (src dst seq a0 a1 a2 a3 : Int) (d : List Int) : ∃ b b' : Bool, s13 fu src dst 14 seq a0 a1 a2 a3 d = some (b, ()) ∧ s14 fu src dst 14 seq a0 a1 a2 a3 d = some (b', ()) ∧ b = b' := by
  refine ⟨_, _, by
    simp only [s13, s27_eq, s28, s29, s35_eq, s37_eq, s11_eq, ieq, ilt, ile, Int.reduceLT, Int.reduceLE, Int.reduceEq, Int.reduceNeg, decide_true, decide_false, cond_true, cond_false, Int.reduceToNat, if_true, List.getElem?_cons_succ, List.getElem?_cons_zero, dat, cSome, cPair, cAnd, cNot, cOr, cNand, Bool.true_and, Bool.and_true, Bool.false_and, Bool.and_false, b117, b48, ch_117_0, ch_117_1, ch_117_2, ch_117_3, b99, b100]
    rfl, by
    simp only [s14, s30, s31, s32_eq, s33, s34, s40, s49_eq, s12_eq, ieq, ilt, ile, Int.reduceLT, Int.reduceLE, Int.reduceEq, Int.reduceNeg, decide_true, decide_false, cond_true, cond_false, Int.reduceToNat, if_true, List.getElem?_cons_succ, List.getElem?_cons_zero, dat, cSome, cPair, cAnd, cNot, cOr, cNand, Bool.true_and, Bool.and_true, Bool.false_and, Bool.and_false, r85, r48, ch_85_0, ch_85_1, ch_85_2, ch_85_3]
    rfl, ?_⟩
  rw [Bool.eq_iff_iff]
  simp only [cGen, Bool.and_eq_true, Bool.or_eq_true, Bool.not_eq_true', Bool.not_eq_true, decide_eq_true_eq, decide_eq_false_iff_not, Bool.false_eq_true, Bool.true_eq_false, beqb, beq_iff_eq, decide_eq_decide, Bool.not_not, Bool.and_eq_false_iff, Bool.or_eq_false_iff, Bool.not_eq_false']
  omega
end Go.G
