import Derived.Test.YtgnkomiicpahcaaDoorP19b
set_option linter.unusedVariables false
set_option linter.unusedSimpArgs false
namespace Go.G
set_option maxRecDepth 100000
set_option maxHeartbeats 4000000
theorem perm22 (fu : Nat) (src dst seq a0 a1 a2 a3 : Int) (d : List Int) : ∃ b b' : Bool, s13 fu src dst 22 seq a0 a1 a2 a3 d = some (b, ()) ∧ s14 fu src dst 22 seq a0 a1 a2 a3 d = some (b', ()) ∧ b = b' := by
  refine ⟨_, _, by
    simp only [s13, s27_eq, s28, s29, s35_eq, s37_eq, s11_eq, ieq, ilt, ile, Int.reduceLT, Int.reduceLE, Int.reduceEq, Int.reduceNeg, decide_true, decide_false, cond_true, cond_false, Int.reduceToNat, if_true, List.getElem?_cons_succ, List.getElem?_cons_zero, dat, cSome, cPair, cAnd, cNot, cOr, cNand, Bool.true_and, Bool.and_true, Bool.false_and, Bool.and_false, b109, b117, b110, b48, ch_109_117_110_0, ch_109_117_110_1, ch_109_117_110_2, ch_109_117_110_3, b99, b100]
    rfl, by
    simp only [s14, s30, s31, s32_eq, s33, s34, s40, s49_eq, s12_eq, ieq, ilt, ile, Int.reduceLT, Int.reduceLE, Int.reduceEq, Int.reduceNeg, decide_true, decide_false, cond_true, cond_false, Int.reduceToNat, if_true, List.getElem?_cons_succ, List.getElem?_cons_zero, dat, cSome, cPair, cAnd, cNot, cOr, cNand, Bool.true_and, Bool.and_true, Bool.false_and, Bool.and_false, r50, r85, r110, r48, ch_50_85_110_0, ch_50_85_110_1, ch_50_85_110_2, ch_50_85_110_3]
    rfl, ?_⟩
  rw [Bool.eq_iff_iff]
  simp only [cGen, Bool.and_eq_true, Bool.or_eq_true, Bool.not_eq_true', Bool.not_eq_true, decide_eq_true_eq, decide_eq_false_iff_not, Bool.false_eq_true, Bool.true_eq_false, beqb, beq_iff_eq, decide_eq_decide, Bool.not_not, Bool.and_eq_false_iff, Bool.or_eq_false_iff, Bool.not_eq_false']
  omega
theorem perm23 (fu : Nat) (src dst seq a0 a1 a2 a3 : Int) (d : List Int) : ∃ b b' : Bool, s13 fu src dst 23 seq a0 a1 a2 a3 d = some (b, ()) ∧ s14 fu src dst 23 seq a0 a1 a2 a3 d = some (b', ()) ∧ b = b' := by
  refine ⟨_, _, by
    simp only [s13, s27_eq, s28, s29, s35_eq, s37_eq, s11_eq, ieq, ilt, ile, Int.reduceLT, Int.reduceLE, Int.reduceEq, Int.reduceNeg, decide_true, decide_false, cond_true, cond_false, Int.reduceToNat, if_true, List.getElem?_cons_succ, List.getElem?_cons_zero, dat, cSome, cPair, cAnd, cNot, cOr, cNand, Bool.true_and, Bool.and_true, Bool.false_and, Bool.and_false, b117, b101, b48, ch_117_101_0, ch_117_101_1, ch_117_101_2, ch_117_101_3, b99, b100]
    rfl, by
    simp only [s14, s30, s31, s32_eq, s33, s34, s40, s49_eq, s12_eq, ieq, ilt, ile, Int.reduceLT, Int.reduceLE, Int.reduceEq, Int.reduceNeg, decide_true, decide_false, cond_true, cond_false, Int.reduceToNat, if_true, List.getElem?_cons_succ, List.getElem?_cons_zero, dat, cSome, cPair, cAnd, cNot, cOr, cNand, Bool.true_and, Bool.and_true, Bool.false_and, Bool.and_false, r85, r101, r48, ch_85_101_0, ch_85_101_1, ch_85_101_2, ch_85_101_3]
    rfl, ?_⟩
  rw [Bool.eq_iff_iff]
  simp only [cGen, Bool.and_eq_true, Bool.or_eq_true, Bool.not_eq_true', Bool.not_eq_true, decide_eq_true_eq, decide_eq_false_iff_not, Bool.false_eq_true, Bool.true_eq_false, beqb, beq_iff_eq, decide_eq_decide, Bool.not_not, Bool.and_eq_false_iff, Bool.or_eq_false_iff, Bool.not_eq_false']
  omega
theorem perm24 (fu : Nat) (src dst seq a0 a1 a2 a3 : Int) (d : List Int) : ∃ b b' : Bool, s13 fu src dst 24 seq a0 a1 a2 a3 d = some (b, ()) ∧ s14 fu src dst 24 seq a0 a1 a2 a3 d = some (b', ()) ∧ b = b' := by
  refine ⟨_, _, by
    simp only [s13, s27_eq, s28, s29, s35_eq, s37_eq, s11_eq, ieq, ilt, ile, Int.reduceLT, Int.reduceLE, Int.reduceEq, Int.reduceNeg, decide_true, decide_false, cond_true, cond_false, Int.reduceToNat, if_true, List.getElem?_cons_succ, List.getElem?_cons_zero, dat, cSome, cPair, cAnd, cNot, cOr, cNand, Bool.true_and, Bool.and_true, Bool.false_and, Bool.and_false, b113, b42, ch_113_42_42_42_0, ch_113_42_42_42_1, ch_113_42_42_42_2, ch_113_42_42_42_3, b99, b117, b100]
    rfl, by
    simp only [s14, s30, s31, s32_eq, s33, s34, s40, s49_eq, s12_eq, ieq, ilt, ile, Int.reduceLT, Int.reduceLE, Int.reduceEq, Int.reduceNeg, decide_true, decide_false, cond_true, cond_false, Int.reduceToNat, if_true, List.getElem?_cons_succ, List.getElem?_cons_zero, dat, cSome, cPair, cAnd, cNot, cOr, cNand, Bool.true_and, Bool.and_true, Bool.false_and, Bool.and_false, r119, r97, ch_119_97_97_97_0, ch_119_97_97_97_1, ch_119_97_97_97_2, ch_119_97_97_97_3]
    rfl, ?_⟩
  rw [Bool.eq_iff_iff]
  simp only [cGen, Bool.and_eq_true, Bool.or_eq_true, Bool.not_eq_true', Bool.not_eq_true, decide_eq_true_eq, decide_eq_false_iff_not, Bool.false_eq_true, Bool.true_eq_false, beqb, beq_iff_eq, decide_eq_decide, Bool.not_not, Bool.and_eq_false_iff, Bool.or_eq_false_iff, Bool.not_eq_false']
  omega
theorem perm25 (fu : Nat) (src dst seq a0 a1 a2 a3 : Int) (d : List Int) : ∃ b b' : Bool, s13 fu src dst 25 seq a0 a1 a2 a3 d = some (b, ()) ∧ s14 fu src dst 25 seq a0 a1 a2 a3 d = some (b', ()) ∧ b = b' := by
  refine ⟨_, _, by
    simp only [s13, s27_eq, s28, s29, s35_eq, s37_eq, s11_eq, ieq, ilt, ile, Int.reduceLT, Int.reduceLE, Int.reduceEq, Int.reduceNeg, decide_true, decide_false, cond_true, cond_false, Int.reduceToNat, if_true, List.getElem?_cons_succ, List.getElem?_cons_zero, dat, cSome, cPair, cAnd, cNot, cOr, cNand, Bool.true_and, Bool.and_true, Bool.false_and, Bool.and_false, b117, b101, b42, b48, ch_117_101_42_0, ch_117_101_42_1, ch_117_101_42_2, ch_117_101_42_3, b99, b100]
    rfl, by
    simp only [s14, s30, s31, s32_eq, s33, s34, s40, s49_eq, s12_eq, ieq, ilt, ile, Int.reduceLT, Int.reduceLE, Int.reduceEq, Int.reduceNeg, decide_true, decide_false, cond_true, cond_false, Int.reduceToNat, if_true, List.getElem?_cons_succ, List.getElem?_cons_zero, dat, cSome, cPair, cAnd, cNot, cOr, cNand, Bool.true_and, Bool.and_true, Bool.false_and, Bool.and_false, r85, r101, r97, r48, ch_85_101_97_0, ch_85_101_97_1, ch_85_101_97_2, ch_85_101_97_3]
    rfl, ?_⟩
  rw [Bool.eq_iff_iff]
  simp only [cGen, Bool.and_eq_true, Bool.or_eq_true, Bool.not_eq_true', Bool.not_eq_true, decide_eq_true_eq, decide_eq_false_iff_not, Bool.false_eq_true, Bool.true_eq_false, beqb, beq_iff_eq, decide_eq_decide, Bool.not_not, Bool.and_eq_false_iff, Bool.or_eq_false_iff, Bool.not_eq_false']
  omega
theorem perm26 (fu : Nat) (src dst seq a0 a1 a2 a3 : Int) (d : List Int) : ∃ b b' : Bool, s13 fu src dst 26 seq a0 a1 a2 a3 d = some (b, ()) ∧ s14 fu src dst 26 seq a0 a1 a2 a3 d = some (b', ()) ∧ b = b' := by
  refine ⟨_, _, by
    simp only [s13, s27_eq, s28, s29, s35_eq, s37_eq, s11_eq, ieq, ilt, ile, Int.reduceLT, Int.reduceLE, Int.reduceEq, Int.reduceNeg, decide_true, decide_false, cond_true, cond_false, Int.reduceToNat, if_true, List.getElem?_cons_succ, List.getElem?_cons_zero, dat, cSome, cPair, cAnd, cNot, cOr, cNand, Bool.true_and, Bool.and_true, Bool.false_and, Bool.and_false, b122, b42, b48, ch_122_42_0, ch_122_42_1, ch_122_42_2, ch_122_42_3, b99, b117, b100]
    rfl, by
    simp only [s14, s30, s31, s32_eq, s33, s34, s40, s49_eq, s12_eq, ieq, ilt, ile, Int.reduceLT, Int.reduceLE, Int.reduceEq, Int.reduceNeg, decide_true, decide_false, cond_true, cond_false, Int.reduceToNat, if_true, List.getElem?_cons_succ, List.getElem?_cons_zero, dat, cSome, cPair, cAnd, cNot, cOr, cNand, Bool.true_and, Bool.and_true, Bool.false_and, Bool.and_false, r57, r97, r48, ch_57_97_0, ch_57_97_1, ch_57_97_2, ch_57_97_3]
    rfl, ?_⟩
  rw [Bool.eq_iff_iff]
  simp only [cGen, Bool.and_eq_true, Bool.or_eq_true, Bool.not_eq_true', Bool.not_eq_true, decide_eq_true_eq, decide_eq_false_iff_not, Bool.false_eq_true, Bool.true_eq_false, beqb, beq_iff_eq, decide_eq_decide, Bool.not_not, Bool.and_eq_false_iff, Bool.or_eq_false_iff, Bool.not_eq_false']
  omega
theorem perm27 (fu : Nat) (src dst seq a0 a1 a2 a3 : Int) (d : List Int) : ∃ b b' : Bool, s13 fu src dst 27 seq a0 a1 a2 a3 d = some (b, ()) ∧ s14 fu src dst 27 seq a0 a1 a2 a3 d = some (b', ()) ∧ b = b' := by
  refine ⟨_, _, by
    simp only [s13, s27_eq, s28, s29, s35_eq, s37_eq, s11_eq, ieq, ilt, ile, Int.reduceLT, Int.reduceLE, Int.reduceEq, Int.reduceNeg, decide_true, decide_false, cond_true, cond_false, Int.reduceToNat, if_true, List.getElem?_cons_succ, List.getElem?_cons_zero, dat, cSome, cPair, cAnd, cNot, cOr, cNand, Bool.true_and, Bool.and_true, Bool.false_and, Bool.and_false, b101, b42, b48, ch_101_42_0, ch_101_42_1, ch_101_42_2, ch_101_42_3, b99, b117, b100]
    rfl, by
    simp only [s14, s30, s31, s32_eq, s33, s34, s40, s49_eq, s12_eq, ieq, ilt, ile, Int.reduceLT, Int.reduceLE, Int.reduceEq, Int.reduceNeg, decide_true, decide_false, cond_true, cond_false, Int.reduceToNat, if_true, List.getElem?_cons_succ, List.getElem?_cons_zero, dat, cSome, cPair, cAnd, cNot, cOr, cNand, Bool.true_and, Bool.and_true, Bool.false_and, Bool.and_false, r101, r97, r48, ch_101_97_0, ch_101_97_1, ch_101_97_2, ch_101_97_3]
    rfl, ?_⟩
  rw [Bool.eq_iff_iff]
  simp only [cGen, Bool.and_eq_true, Bool.or_eq_true, Bool.not_eq_true', Bool.not_eq_true, decide_eq_true_eq, decide_eq_false_iff_not, Bool.false_eq_true, Bool.true_eq_false, beqb, beq_iff_eq, decide_eq_decide, Bool.not_not, Bool.and_eq_false_iff, Bool.or_eq_false_iff, Bool.not_eq_false']
  omega
end Go.G
