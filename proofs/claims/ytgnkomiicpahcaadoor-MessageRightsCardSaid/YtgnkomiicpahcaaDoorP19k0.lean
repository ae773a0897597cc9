import Derived.Test.YtgnkomiicpahcaaDoorP19b
set_option linter.unusedVariables false
set_option linter.unusedSimpArgs false
namespace Go.G
set_option maxRecDepth 100000
set_option maxHeartbeats 4000000
theorem perm1 (fu : Nat) (src dst seq a0 a1 a2 a3 : Int) (d : List Int) : ∃ b b' : Bool, s13 fu src dst 1 seq a0 a1 a2 a3 d = some (b, ()) ∧ s14 fu src dst 1 seq a0 a1 a2 a3 d = some (b', ()) ∧ b = b' := by
  refine ⟨_, _, by
    simp only [s13, s27_eq, s28, s29, s35_eq, s37_eq, s11_eq, ieq, ilt, ile, Int.reduceLT, Int.reduceLE, Int.reduceEq, Int.reduceNeg, decide_true, decide_false, cond_true, cond_false, Int.reduceToNat, if_true, List.getElem?_cons_succ, List.getElem?_cons_zero, dat, cSome, cPair, cAnd, cNot, cOr, cNand, Bool.true_and, Bool.and_true, Bool.false_and, Bool.and_false, b115, b42, ch_115_42_42_42_0, ch_115_42_42_42_1, ch_115_42_42_42_2, ch_115_42_42_42_3, b99, b117, b100]
    rfl, by
    simp only [s14, s30, s31, s32_eq, s33, s34, s40, s49_eq, s12_eq, ieq, ilt, ile, Int.reduceLT, Int.reduceLE, Int.reduceEq, Int.reduceNeg, decide_true, decide_false, cond_true, cond_false, Int.reduceToNat, if_true, List.getElem?_cons_succ, List.getElem?_cons_zero, dat, cSome, cPair, cAnd, cNot, cOr, cNand, Bool.true_and, Bool.and_true, Bool.false_and, Bool.and_false, r115, r97, ch_115_97_97_97_0, ch_115_97_97_97_1, ch_115_97_97_97_2, ch_115_97_97_97_3]
    rfl, ?_⟩
  generalize hq : srvN a0 = q
  simp only [srvB]
  rw [Bool.eq_iff_iff]
  simp only [cGen, Bool.and_eq_true, Bool.or_eq_true, Bool.not_eq_true', Bool.not_eq_true, decide_eq_true_eq, decide_eq_false_iff_not, Bool.false_eq_true, Bool.true_eq_false, beqb, beq_iff_eq, decide_eq_decide, Bool.not_not, Bool.and_eq_false_iff, Bool.or_eq_false_iff, Bool.not_eq_false']
  omega
theorem perm2 (fu : Nat) (src dst seq a0 a1 a2 a3 : Int) (d : List Int) : ∃ b b' : Bool, s13 fu src dst 2 seq a0 a1 a2 a3 d = some (b, ()) ∧ s14 fu src dst 2 seq a0 a1 a2 a3 d = some (b', ()) ∧ b = b' := by
  refine ⟨_, _, by
    simp only [s13, s27_eq, s28, s29, s35_eq, s37_eq, s11_eq, ieq, ilt, ile, Int.reduceLT, Int.reduceLE, Int.reduceEq, Int.reduceNeg, decide_true, decide_false, cond_true, cond_false, Int.reduceToNat, if_true, List.getElem?_cons_succ, List.getElem?_cons_zero, dat, cSome, cPair, cAnd, cNot, cOr, cNand, Bool.true_and, Bool.and_true, Bool.false_and, Bool.and_false, b112, b98, b48, ch_112_98_0, ch_112_98_1, ch_112_98_2, ch_112_98_3, b99, b117, b100]
    rfl, by
    simp only [s14, s30, s31, s32_eq, s33, s34, s40, s49_eq, s12_eq, ieq, ilt, ile, Int.reduceLT, Int.reduceLE, Int.reduceEq, Int.reduceNeg, decide_true, decide_false, cond_true, cond_false, Int.reduceToNat, if_true, List.getElem?_cons_succ, List.getElem?_cons_zero, dat, cSome, cPair, cAnd, cNot, cOr, cNand, Bool.true_and, Bool.and_true, Bool.false_and, Bool.and_false, r112, r49, r48, ch_112_49_0, ch_112_49_1, ch_112_49_2, ch_112_49_3]
    rfl, ?_⟩
  rw [Bool.eq_iff_iff]
  simp only [cGen, Bool.and_eq_true, Bool.or_eq_true, Bool.not_eq_true', Bool.not_eq_true, decide_eq_true_eq, decide_eq_false_iff_not, Bool.false_eq_true, Bool.true_eq_false, beqb, beq_iff_eq, decide_eq_decide, Bool.not_not, Bool.and_eq_false_iff, Bool.or_eq_false_iff, Bool.not_eq_false']
  omega
theorem perm3 (fu : Nat) (src dst seq a0 a1 a2 a3 : Int) (d : List Int) : ∃ b b' : Bool, s13 fu src dst 3 seq a0 a1 a2 a3 d = some (b, ()) ∧ s14 fu src dst 3 seq a0 a1 a2 a3 d = some (b', ()) ∧ b = b' := by
  refine ⟨_, _, by
    simp only [s13, s27_eq, s28, s29, s35_eq, s37_eq, s11_eq, ieq, ilt, ile, Int.reduceLT, Int.reduceLE, Int.reduceEq, Int.reduceNeg, decide_true, decide_false, cond_true, cond_false, Int.reduceToNat, if_true, List.getElem?_cons_succ, List.getElem?_cons_zero, dat, cSome, cPair, cAnd, cNot, cOr, cNand, Bool.true_and, Bool.and_true, Bool.false_and, Bool.and_false, b100, b110, b42, ch_100_110_42_42_0, ch_100_110_42_42_1, ch_100_110_42_42_2, ch_100_110_42_42_3, b99, b117]
    rfl, by
    simp only [s14, s30, s31, s32_eq, s33, s34, s40, s49_eq, s12_eq, ieq, ilt, ile, Int.reduceLT, Int.reduceLE, Int.reduceEq, Int.reduceNeg, decide_true, decide_false, cond_true, cond_false, Int.reduceToNat, if_true, List.getElem?_cons_succ, List.getElem?_cons_zero, dat, cSome, cPair, cAnd, cNot, cOr, cNand, Bool.true_and, Bool.and_true, Bool.false_and, Bool.and_false, r100, r110, r97, ch_100_110_97_97_0, ch_100_110_97_97_1, ch_100_110_97_97_2, ch_100_110_97_97_3]
    rfl, ?_⟩
  generalize drvN a0 = q
  rw [Bool.eq_iff_iff]
  simp only [cGen, Bool.and_eq_true, Bool.or_eq_true, Bool.not_eq_true', Bool.not_eq_true, decide_eq_true_eq, decide_eq_false_iff_not, Bool.false_eq_true, Bool.true_eq_false, beqb, beq_iff_eq, decide_eq_decide, Bool.not_not, Bool.and_eq_false_iff, Bool.or_eq_false_iff, Bool.not_eq_false']
  omega
theorem perm4 (fu : Nat) (src dst seq a0 a1 a2 a3 : Int) (d : List Int) : ∃ b b' : Bool, s13 fu src dst 4 seq a0 a1 a2 a3 d = some (b, ()) ∧ s14 fu src dst 4 seq a0 a1 a2 a3 d = some (b', ()) ∧ b = b' := by
  refine ⟨_, _, by
    simp only [s13, s27_eq, s28, s29, s35_eq, s37_eq, s11_eq, ieq, ilt, ile, Int.reduceLT, Int.reduceLE, Int.reduceEq, Int.reduceNeg, decide_true, decide_false, cond_true, cond_false, Int.reduceToNat, if_true, List.getElem?_cons_succ, List.getElem?_cons_zero, dat, cSome, cPair, cAnd, cNot, cOr, cNand, Bool.true_and, Bool.and_true, Bool.false_and, Bool.and_false, b42, b110, b48, ch_42_110_0, ch_42_110_1, ch_42_110_2, ch_42_110_3, b99, b117, b100]
    rfl, by
    simp only [s14, s30, s31, s32_eq, s33, s34, s40, s49_eq, s12_eq, ieq, ilt, ile, Int.reduceLT, Int.reduceLE, Int.reduceEq, Int.reduceNeg, decide_true, decide_false, cond_true, cond_false, Int.reduceToNat, if_true, List.getElem?_cons_succ, List.getElem?_cons_zero, dat, cSome, cPair, cAnd, cNot, cOr, cNand, Bool.true_and, Bool.and_true, Bool.false_and, Bool.and_false, r97, r110, r48, ch_97_110_0, ch_97_110_1, ch_97_110_2, ch_97_110_3]
    rfl, ?_⟩
  rw [Bool.eq_iff_iff]
  simp only [cGen, Bool.and_eq_true, Bool.or_eq_true, Bool.not_eq_true', Bool.not_eq_true, decide_eq_true_eq, decide_eq_false_iff_not, Bool.false_eq_true, Bool.true_eq_false, beqb, beq_iff_eq, decide_eq_decide, Bool.not_not, Bool.and_eq_false_iff, Bool.or_eq_false_iff, Bool.not_eq_false']
  omega
theorem perm5 (fu : Nat) (src dst seq a0 a1 a2 a3 : Int) (d : List Int) : ∃ b b' : Bool, s13 fu src dst 5 seq a0 a1 a2 a3 d = some (b, ()) ∧ s14 fu src dst 5 seq a0 a1 a2 a3 d = some (b', ()) ∧ b = b' := by
  refine ⟨_, _, by
    simp only [s13, s27_eq, s28, s29, s35_eq, s37_eq, s11_eq, ieq, ilt, ile, Int.reduceLT, Int.reduceLE, Int.reduceEq, Int.reduceNeg, decide_true, decide_false, cond_true, cond_false, Int.reduceToNat, if_true, List.getElem?_cons_succ, List.getElem?_cons_zero, dat, cSome, cPair, cAnd, cNot, cOr, cNand, Bool.true_and, Bool.and_true, Bool.false_and, Bool.and_false, b99, b120, b48, ch_99_120_0, ch_99_120_1, ch_99_120_2, ch_99_120_3, b117, b100]
    rfl, by
    simp only [s14, s30, s31, s32_eq, s33, s34, s40, s49_eq, s12_eq, ieq, ilt, ile, Int.reduceLT, Int.reduceLE, Int.reduceEq, Int.reduceNeg, decide_true, decide_false, cond_true, cond_false, Int.reduceToNat, if_true, List.getElem?_cons_succ, List.getElem?_cons_zero, dat, cSome, cPair, cAnd, cNot, cOr, cNand, Bool.true_and, Bool.and_true, Bool.false_and, Bool.and_false, r67, r120, r48, ch_67_120_0, ch_67_120_1, ch_67_120_2, ch_67_120_3]
    rfl, ?_⟩
  rw [Bool.eq_iff_iff]
  simp only [cGen, Bool.and_eq_true, Bool.or_eq_true, Bool.not_eq_true', Bool.not_eq_true, decide_eq_true_eq, decide_eq_false_iff_not, Bool.false_eq_true, Bool.true_eq_false, beqb, beq_iff_eq, decide_eq_decide, Bool.not_not, Bool.and_eq_false_iff, Bool.or_eq_false_iff, Bool.not_eq_false']
  omega
theorem perm6 (fu : Nat) (src dst seq a0 a1 a2 a3 : Int) (d : List Int) : ∃ b b' : Bool, s13 fu src dst 6 seq a0 a1 a2 a3 d = some (b, ()) ∧ s14 fu src dst 6 seq a0 a1 a2 a3 d = some (b', ()) ∧ b = b' := by
  refine ⟨_, _, by
    simp only [s13, s27_eq, s28, s29, s35_eq, s37_eq, s11_eq, ieq, ilt, ile, Int.reduceLT, Int.reduceLE, Int.reduceEq, Int.reduceNeg, decide_true, decide_false, cond_true, cond_false, Int.reduceToNat, if_true, List.getElem?_cons_succ, List.getElem?_cons_zero, dat, cSome, cPair, cAnd, cNot, cOr, cNand, Bool.true_and, Bool.and_true, Bool.false_and, Bool.and_false, b110, b48, ch_110_0, ch_110_1, ch_110_2, ch_110_3, b99, b117, b100]
    rfl, by
    simp only [s14, s30, s31, s32_eq, s33, s34, s40, s49_eq, s12_eq, ieq, ilt, ile, Int.reduceLT, Int.reduceLE, Int.reduceEq, Int.reduceNeg, decide_true, decide_false, cond_true, cond_false, Int.reduceToNat, if_true, List.getElem?_cons_succ, List.getElem?_cons_zero, dat, cSome, cPair, cAnd, cNot, cOr, cNand, Bool.true_and, Bool.and_true, Bool.false_and, Bool.and_false, r110, r48, ch_110_0, ch_110_1, ch_110_2, ch_110_3]
    rfl, ?_⟩
  rw [Bool.eq_iff_iff]
  simp only [cGen, Bool.and_eq_true, Bool.or_eq_true, Bool.not_eq_true', Bool.not_eq_true, decide_eq_true_eq, decide_eq_false_iff_not, Bool.false_eq_true, Bool.true_eq_false, beqb, beq_iff_eq, decide_eq_decide, Bool.not_not, Bool.and_eq_false_iff, Bool.or_eq_false_iff, Bool.not_eq_false']
  omega
theorem perm7 (fu : Nat) (src dst seq a0 a1 a2 a3 : Int) (d : List Int) : ∃ b b' : Bool, s13 fu src dst 7 seq a0 a1 a2 a3 d = some (b, ()) ∧ s14 fu src dst 7 seq a0 a1 a2 a3 d = some (b', ()) ∧ b = b' := by
  refine ⟨_, _, by
    simp only [s13, s27_eq, s28, s29, s35_eq, s37_eq, s11_eq, ieq, ilt, ile, Int.reduceLT, Int.reduceLE, Int.reduceEq, Int.reduceNeg, decide_true, decide_false, cond_true, cond_false, Int.reduceToNat, if_true, List.getElem?_cons_succ, List.getElem?_cons_zero, dat, cSome, cPair, cAnd, cNot, cOr, cNand, Bool.true_and, Bool.and_true, Bool.false_and, Bool.and_false, b110, b48, ch_110_0, ch_110_1, ch_110_2, ch_110_3, b99, b117, b100]
    rfl, by
    simp only [s14, s30, s31, s32_eq, s33, s34, s40, s49_eq, s12_eq, ieq, ilt, ile, Int.reduceLT, Int.reduceLE, Int.reduceEq, Int.reduceNeg, decide_true, decide_false, cond_true, cond_false, Int.reduceToNat, if_true, List.getElem?_cons_succ, List.getElem?_cons_zero, dat, cSome, cPair, cAnd, cNot, cOr, cNand, Bool.true_and, Bool.and_true, Bool.false_and, Bool.and_false, r110, r48, ch_110_0, ch_110_1, ch_110_2, ch_110_3]
    rfl, ?_⟩
  rw [Bool.eq_iff_iff]
  simp only [cGen, Bool.and_eq_true, Bool.or_eq_true, Bool.not_eq_true', Bool.not_eq_true, decide_eq_true_eq, decide_eq_false_iff_not, Bool.false_eq_true, Bool.true_eq_false, beqb, beq_iff_eq, decide_eq_decide, Bool.not_not, Bool.and_eq_false_iff, Bool.or_eq_false_iff, Bool.not_eq_false']
  omega
end Go.G
