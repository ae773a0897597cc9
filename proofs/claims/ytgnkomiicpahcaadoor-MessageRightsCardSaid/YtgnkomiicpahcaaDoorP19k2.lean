import Derived.Test.YtgnkomiicpahcaaDoorP19b
set_option linter.unusedVariables false
set_option linter.unusedSimpArgs false
namespace Go.G
set_option maxRecDepth 100000
set_option maxHeartbeats 4000000
theorem perm15 (fu : Nat) (src dst seq a0 a1 a2 a3 : Int) (d : List Int) : ∃ b b' : Bool, s13 fu src dst 15 seq a0 a1 a2 a3 d = some (b, ()) ∧ s14 fu src dst 15 seq a0 a1 a2 a3 d = some (b', ()) ∧ b = b' := by
  refine ⟨_, _, by
    simp only [s13, s27_eq, s28, s29, s35_eq, s37_eq, s11_eq, ieq, ilt, ile, Int.reduceLT, Int.reduceLE, Int.reduceEq, Int.reduceNeg, decide_true, decide_false, cond_true, cond_false, Int.reduceToNat, if_true, List.getElem?_cons_succ, List.getElem?_cons_zero, dat, cSome, cPair, cAnd, cNot, cOr, cNand, Bool.true_and, Bool.and_true, Bool.false_and, Bool.and_false, b117, b101, b48, ch_117_101_0, ch_117_101_1, ch_117_101_2, ch_117_101_3, b99, b100]
    rfl, by
    simp only [s14, s30, s31, s32_eq, s33, s34, s40, s49_eq, s12_eq, ieq, ilt, ile, Int.reduceLT, Int.reduceLE, Int.reduceEq, Int.reduceNeg, decide_true, decide_false, cond_true, cond_false, Int.reduceToNat, if_true, List.getElem?_cons_succ, List.getElem?_cons_zero, dat, cSome, cPair, cAnd, cNot, cOr, cNand, Bool.true_and, Bool.and_true, Bool.false_and, Bool.and_false, r85, r101, r48, ch_85_101_0, ch_85_101_1, ch_85_101_2, ch_85_101_3]
    rfl, ?_⟩
  rw [Bool.eq_iff_iff]
  simp only [cGen, Bool.and_eq_true, Bool.or_eq_true, Bool.not_eq_true', Bool.not_eq_true, decide_eq_true_eq, decide_eq_false_iff_not, Bool.false_eq_true, Bool.true_eq_false, beqb, beq_iff_eq, decide_eq_decide, Bool.not_not, Bool.and_eq_false_iff, Bool.or_eq_false_iff, Bool.not_eq_false']
  omega
theorem perm16 (fu : Nat) (src dst seq a0 a1 a2 a3 : Int) (d : List Int) : ∃ b b' : Bool, s13 fu src dst 16 seq a0 a1 a2 a3 d = some (b, ()) ∧ s14 fu src dst 16 seq a0 a1 a2 a3 d = some (b', ()) ∧ b = b' := by
  refine ⟨_, _, by
    simp only [s13, s27_eq, s28, s29, s35_eq, s37_eq, s11_eq, ieq, ilt, ile, Int.reduceLT, Int.reduceLE, Int.reduceEq, Int.reduceNeg, decide_true, decide_false, cond_true, cond_false, Int.reduceToNat, if_true, List.getElem?_cons_succ, List.getElem?_cons_zero, dat, cSome, cPair, cAnd, cNot, cOr, cNand, Bool.true_and, Bool.and_true, Bool.false_and, Bool.and_false, b117, b48, ch_117_0, ch_117_1, ch_117_2, ch_117_3, b99, b100]
    rfl, by
    simp only [s14, s30, s31, s32_eq, s33, s34, s40, s49_eq, s12_eq, ieq, ilt, ile, Int.reduceLT, Int.reduceLE, Int.reduceEq, Int.reduceNeg, decide_true, decide_false, cond_true, cond_false, Int.reduceToNat, if_true, List.getElem?_cons_succ, List.getElem?_cons_zero, dat, cSome, cPair, cAnd, cNot, cOr, cNand, Bool.true_and, Bool.and_true, Bool.false_and, Bool.and_false, r85, r48, ch_85_0, ch_85_1, ch_85_2, ch_85_3]
    rfl, ?_⟩
  rw [Bool.eq_iff_iff]
  simp only [cGen, Bool.and_eq_true, Bool.or_eq_true, Bool.not_eq_true', Bool.not_eq_true, decide_eq_true_eq, decide_eq_false_iff_not, Bool.false_eq_true, Bool.true_eq_false, beqb, beq_iff_eq, decide_eq_decide, Bool.not_not, Bool.and_eq_false_iff, Bool.or_eq_false_iff, Bool.not_eq_false']
  omega
theorem perm17 (fu : Nat) (src dst seq a0 a1 a2 a3 : Int) (d : List Int) : ∃ b b' : Bool, s13 fu src dst 17 seq a0 a1 a2 a3 d = some (b, ()) ∧ s14 fu src dst 17 seq a0 a1 a2 a3 d = some (b', ()) ∧ b = b' := by
  refine ⟨_, _, by
    simp only [s13, s27_eq, s28, s29, s35_eq, s37_eq, s11_eq, ieq, ilt, ile, Int.reduceLT, Int.reduceLE, Int.reduceEq, Int.reduceNeg, decide_true, decide_false, cond_true, cond_false, Int.reduceToNat, if_true, List.getElem?_cons_succ, List.getElem?_cons_zero, dat, cSome, cPair, cAnd, cNot, cOr, cNand, Bool.true_and, Bool.and_true, Bool.false_and, Bool.and_false, b117, b48, ch_117_0, ch_117_1, ch_117_2, ch_117_3, b99, b100]
    rfl, by
    simp only [s14, s30, s31, s32_eq, s33, s34, s40, s49_eq, s12_eq, ieq, ilt, ile, Int.reduceLT, Int.reduceLE, Int.reduceEq, Int.reduceNeg, decide_true, decide_false, cond_true, cond_false, Int.reduceToNat, if_true, List.getElem?_cons_succ, List.getElem?_cons_zero, dat, cSome, cPair, cAnd, cNot, cOr, cNand, Bool.true_and, Bool.and_true, Bool.false_and, Bool.and_false, r85, r48, ch_85_0, ch_85_1, ch_85_2, ch_85_3]
    rfl, ?_⟩
  rw [Bool.eq_iff_iff]
  simp only [cGen, Bool.and_eq_true, Bool.or_eq_true, Bool.not_eq_true', Bool.not_eq_true, decide_eq_true_eq, decide_eq_false_iff_not, Bool.false_eq_true, Bool.true_eq_false, beqb, beq_iff_eq, decide_eq_decide, Bool.not_not, Bool.and_eq_false_iff, Bool.or_eq_false_iff, Bool.not_eq_false']
  omega
theorem perm18 (fu : Nat) (src dst seq a0 a1 a2 a3 : Int) (d : List Int) : ∃ b b' : Bool, s13 fu src dst 18 seq a0 a1 a2 a3 d = some (b, ()) ∧ s14 fu src dst 18 seq a0 a1 a2 a3 d = some (b', ()) ∧ b = b' := by
  refine ⟨_, _, by
    simp only [s13, s27_eq, s28, s29, s35_eq, s37_eq, s11_eq, ieq, ilt, ile, Int.reduceLT, Int.reduceLE, Int.reduceEq, Int.reduceNeg, decide_true, decide_false, cond_true, cond_false, Int.reduceToNat, if_true, List.getElem?_cons_succ, List.getElem?_cons_zero, dat, cSome, cPair, cAnd, cNot, cOr, cNand, Bool.true_and, Bool.and_true, Bool.false_and, Bool.and_false, b111, b42, ch_111_42_42_42_0, ch_111_42_42_42_1, ch_111_42_42_42_2, ch_111_42_42_42_3, b99, b117, b100]
    rfl, by
    simp only [s14, s30, s31, s32_eq, s33, s34, s40, s49_eq, s12_eq, ieq, ilt, ile, Int.reduceLT, Int.reduceLE, Int.reduceEq, Int.reduceNeg, decide_true, decide_false, cond_true, cond_false, Int.reduceToNat, if_true, List.getElem?_cons_succ, List.getElem?_cons_zero, dat, cSome, cPair, cAnd, cNot, cOr, cNand, Bool.true_and, Bool.and_true, Bool.false_and, Bool.and_false, r111, r97, ch_111_97_97_97_0, ch_111_97_97_97_1, ch_111_97_97_97_2, ch_111_97_97_97_3]
    rfl, ?_⟩
  rw [Bool.eq_iff_iff]
  simp only [cGen, Bool.and_eq_true, Bool.or_eq_true, Bool.not_eq_true', Bool.not_eq_true, decide_eq_true_eq, decide_eq_false_iff_not, Bool.false_eq_true, Bool.true_eq_false, beqb, beq_iff_eq, decide_eq_decide, Bool.not_not, Bool.and_eq_false_iff, Bool.or_eq_false_iff, Bool.not_eq_false']
  omega
theorem perm19 (fu : Nat) (src dst seq a0 a1 a2 a3 : Int) (d : List Int) : ∃ b b' : Bool, s13 fu src dst 19 seq a0 a1 a2 a3 d = some (b, ()) ∧ s14 fu src dst 19 seq a0 a1 a2 a3 d = some (b', ()) ∧ b = b' := by
  refine ⟨_, _, by
    simp only [s13, s27_eq, s28, s29, s35_eq, s37_eq, s11_eq, ieq, ilt, ile, Int.reduceLT, Int.reduceLE, Int.reduceEq, Int.reduceNeg, decide_true, decide_false, cond_true, cond_false, Int.reduceToNat, if_true, List.getElem?_cons_succ, List.getElem?_cons_zero, dat, cSome, cPair, cAnd, cNot, cOr, cNand, Bool.true_and, Bool.and_true, Bool.false_and, Bool.and_false, b101, b42, b121, b48, ch_101_42_121_0, ch_101_42_121_1, ch_101_42_121_2, ch_101_42_121_3, b99, b117, b100]
    rfl, by
    simp only [s14, s30, s31, s32_eq, s33, s34, s40, s49_eq, s12_eq, ieq, ilt, ile, Int.reduceLT, Int.reduceLE, Int.reduceEq, Int.reduceNeg, decide_true, decide_false, cond_true, cond_false, Int.reduceToNat, if_true, List.getElem?_cons_succ, List.getElem?_cons_zero, dat, cSome, cPair, cAnd, cNot, cOr, cNand, Bool.true_and, Bool.and_true, Bool.false_and, Bool.and_false, r101, r97, r53, r48, ch_101_97_53_0, ch_101_97_53_1, ch_101_97_53_2, ch_101_97_53_3]
    rfl, ?_⟩
  rw [Bool.eq_iff_iff]
  simp only [cGen, Bool.and_eq_true, Bool.or_eq_true, Bool.not_eq_true', Bool.not_eq_true, decide_eq_true_eq, decide_eq_false_iff_not, Bool.false_eq_true, Bool.true_eq_false, beqb, beq_iff_eq, decide_eq_decide, Bool.not_not, Bool.and_eq_false_iff, Bool.or_eq_false_iff, Bool.not_eq_false']
  omega
theorem perm20 (fu : Nat) (src dst seq a0 a1 a2 a3 : Int) (d : List Int) : ∃ b b' : Bool, s13 fu src dst 20 seq a0 a1 a2 a3 d = some (b, ()) ∧ s14 fu src dst 20 seq a0 a1 a2 a3 d = some (b', ()) ∧ b = b' := by
  refine ⟨_, _, by
    simp only [s13, s27_eq, s28, s29, s35_eq, s37_eq, s11_eq, ieq, ilt, ile, Int.reduceLT, Int.reduceLE, Int.reduceEq, Int.reduceNeg, decide_true, decide_false, cond_true, cond_false, Int.reduceToNat, if_true, List.getElem?_cons_succ, List.getElem?_cons_zero, dat, cSome, cPair, cAnd, cNot, cOr, cNand, Bool.true_and, Bool.and_true, Bool.false_and, Bool.and_false, b98, b107, b103, b48, ch_98_107_103_0, ch_98_107_103_1, ch_98_107_103_2, ch_98_107_103_3, b99, b117, b100]
    rfl, by
    simp only [s14, s30, s31, s32_eq, s33, s34, s40, s49_eq, s12_eq, ieq, ilt, ile, Int.reduceLT, Int.reduceLE, Int.reduceEq, Int.reduceNeg, decide_true, decide_false, cond_true, cond_false, Int.reduceToNat, if_true, List.getElem?_cons_succ, List.getElem?_cons_zero, dat, cSome, cPair, cAnd, cNot, cOr, cNand, Bool.true_and, Bool.and_true, Bool.false_and, Bool.and_false, r49, r98, r70, r48, ch_49_98_70_0, ch_49_98_70_1, ch_49_98_70_2, ch_49_98_70_3]
    rfl, ?_⟩
  rw [Bool.eq_iff_iff]
  simp only [cGen, Bool.and_eq_true, Bool.or_eq_true, Bool.not_eq_true', Bool.not_eq_true, decide_eq_true_eq, decide_eq_false_iff_not, Bool.false_eq_true, Bool.true_eq_false, beqb, beq_iff_eq, decide_eq_decide, Bool.not_not, Bool.and_eq_false_iff, Bool.or_eq_false_iff, Bool.not_eq_false']
  omega
theorem perm21 (fu : Nat) (src dst seq a0 a1 a2 a3 : Int) (d : List Int) : ∃ b b' : Bool, s13 fu src dst 21 seq a0 a1 a2 a3 d = some (b, ()) ∧ s14 fu src dst 21 seq a0 a1 a2 a3 d = some (b', ()) ∧ b = b' := by
  refine ⟨_, _, by
    simp only [s13, s27_eq, s28, s29, s35_eq, s37_eq, s11_eq, ieq, ilt, ile, Int.reduceLT, Int.reduceLE, Int.reduceEq, Int.reduceNeg, decide_true, decide_false, cond_true, cond_false, Int.reduceToNat, if_true, List.getElem?_cons_succ, List.getElem?_cons_zero, dat, cSome, cPair, cAnd, cNot, cOr, cNand, Bool.true_and, Bool.and_true, Bool.false_and, Bool.and_false, b101, b107, b48, ch_101_107_0, ch_101_107_1, ch_101_107_2, ch_101_107_3, b99, b117, b100]
    rfl, by
    simp only [s14, s30, s31, s32_eq, s33, s34, s40, s49_eq, s12_eq, ieq, ilt, ile, Int.reduceLT, Int.reduceLE, Int.reduceEq, Int.reduceNeg, decide_true, decide_false, cond_true, cond_false, Int.reduceToNat, if_true, List.getElem?_cons_succ, List.getElem?_cons_zero, dat, cSome, cPair, cAnd, cNot, cOr, cNand, Bool.true_and, Bool.and_true, Bool.false_and, Bool.and_false, r101, r98, r48, ch_101_98_0, ch_101_98_1, ch_101_98_2, ch_101_98_3]
    rfl, ?_⟩
  rw [Bool.eq_iff_iff]
  simp only [cGen, Bool.and_eq_true, Bool.or_eq_true, Bool.not_eq_true', Bool.not_eq_true, decide_eq_true_eq, decide_eq_false_iff_not, Bool.false_eq_true, Bool.true_eq_false, beqb, beq_iff_eq, decide_eq_decide, Bool.not_not, Bool.and_eq_false_iff, Bool.or_eq_false_iff, Bool.not_eq_false']
  omega
end Go.G
