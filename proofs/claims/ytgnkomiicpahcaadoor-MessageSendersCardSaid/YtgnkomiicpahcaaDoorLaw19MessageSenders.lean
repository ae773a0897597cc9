import Derived.Test.YtgnkomiicpahcaaDoorP19f
import Derived.Test.YtgnkomiicpahcaaDoorGE5
import Derived.Test.YtgnkomiicpahcaaDoorOn19L4
set_option linter.unusedVariables false
set_option linter.unusedSimpArgs false
namespace Go.G
set_option maxRecDepth 100000
set_option maxHeartbeats 4000000
theorem send1 (fu : Nat) (src dst seq a0 a1 a2 a3 : Int) (d : List Int) (h1 : 1 ≤ src) (h2 : src ≤ 10) : s13 fu src dst 1 seq a0 a1 a2 a3 d = some (false, ()) := by
  have h : ∃ b, s13 fu src dst 1 seq a0 a1 a2 a3 d = some (b, ()) ∧ ¬ b = true := by
    refine ⟨_, by
      simp only [s13, s27_eq, s28, s29, s35_eq, s37_eq, s11_eq, ieq, ilt, ile, Int.reduceLT, Int.reduceLE, Int.reduceEq, Int.reduceNeg, decide_true, decide_false, cond_true, cond_false, Int.reduceToNat, if_true, List.getElem?_cons_succ, List.getElem?_cons_zero, dat, cSome, cPair, cAnd, cNot, cOr, cNand, Bool.true_and, Bool.and_true, Bool.false_and, Bool.and_false, b115, b42, ch_115_42_42_42_0, ch_115_42_42_42_1, ch_115_42_42_42_2, ch_115_42_42_42_3, b99, b117, b100]
      rfl, ?_⟩
    simp only [cGen, Bool.and_eq_true, Bool.or_eq_true, Bool.not_eq_true', Bool.not_eq_true, decide_eq_true_eq, decide_eq_false_iff_not, Bool.false_eq_true, Bool.true_eq_false, beqb, beq_iff_eq, decide_eq_decide, Bool.not_not, Bool.and_eq_false_iff, Bool.or_eq_false_iff, Bool.not_eq_false', true_and, and_true, false_and, and_false, false_or, or_false]
    omega
  obtain ⟨b, e1, e2⟩ := h
  cases b with
  | true => exact absurd rfl e2
  | false => exact e1
theorem send2 (fu : Nat) (src dst seq a0 a1 a2 a3 : Int) (d : List Int) (h1 : 1 ≤ src) (h2 : src ≤ 10) : s13 fu src dst 2 seq a0 a1 a2 a3 d = some (false, ()) := by
  have h : ∃ b, s13 fu src dst 2 seq a0 a1 a2 a3 d = some (b, ()) ∧ ¬ b = true := by
    refine ⟨_, by
      simp only [s13, s27_eq, s28, s29, s35_eq, s37_eq, s11_eq, ieq, ilt, ile, Int.reduceLT, Int.reduceLE, Int.reduceEq, Int.reduceNeg, decide_true, decide_false, cond_true, cond_false, Int.reduceToNat, if_true, List.getElem?_cons_succ, List.getElem?_cons_zero, dat, cSome, cPair, cAnd, cNot, cOr, cNand, Bool.true_and, Bool.and_true, Bool.false_and, Bool.and_false, b112, b98, b48, ch_112_98_0, ch_112_98_1, ch_112_98_2, ch_112_98_3, b99, b117, b100]
      rfl, ?_⟩
    simp only [cGen, Bool.and_eq_true, Bool.or_eq_true, Bool.not_eq_true', Bool.not_eq_true, decide_eq_true_eq, decide_eq_false_iff_not, Bool.false_eq_true, Bool.true_eq_false, beqb, beq_iff_eq, decide_eq_decide, Bool.not_not, Bool.and_eq_false_iff, Bool.or_eq_false_iff, Bool.not_eq_false', true_and, and_true, false_and, and_false, false_or, or_false]
    omega
  obtain ⟨b, e1, e2⟩ := h
  cases b with
  | true => exact absurd rfl e2
  | false => exact e1
theorem send3 (fu : Nat) (src dst seq a0 a1 a2 a3 : Int) (d : List Int) (h1 : 1 ≤ src) (h2 : src ≤ 10) : s13 fu src dst 3 seq a0 a1 a2 a3 d = some (false, ()) := by
  have h : ∃ b, s13 fu src dst 3 seq a0 a1 a2 a3 d = some (b, ()) ∧ ¬ b = true := by
    refine ⟨_, by
      simp only [s13, s27_eq, s28, s29, s35_eq, s37_eq, s11_eq, ieq, ilt, ile, Int.reduceLT, Int.reduceLE, Int.reduceEq, Int.reduceNeg, decide_true, decide_false, cond_true, cond_false, Int.reduceToNat, if_true, List.getElem?_cons_succ, List.getElem?_cons_zero, dat, cSome, cPair, cAnd, cNot, cOr, cNand, Bool.true_and, Bool.and_true, Bool.false_and, Bool.and_false, b100, b110, b42, ch_100_110_42_42_0, ch_100_110_42_42_1, ch_100_110_42_42_2, ch_100_110_42_42_3, b99, b117]
      rfl, ?_⟩
    simp only [cGen, Bool.and_eq_true, Bool.or_eq_true, Bool.not_eq_true', Bool.not_eq_true, decide_eq_true_eq, decide_eq_false_iff_not, Bool.false_eq_true, Bool.true_eq_false, beqb, beq_iff_eq, decide_eq_decide, Bool.not_not, Bool.and_eq_false_iff, Bool.or_eq_false_iff, Bool.not_eq_false', true_and, and_true, false_and, and_false, false_or, or_false]
    omega
  obtain ⟨b, e1, e2⟩ := h
  cases b with
  | true => exact absurd rfl e2
  | false => exact e1
theorem send4 (fu : Nat) (src dst seq a0 a1 a2 a3 : Int) (d : List Int) (h1 : 1 ≤ src) (h2 : src ≤ 10) : s13 fu src dst 4 seq a0 a1 a2 a3 d = some (false, ()) := by
  have h : ∃ b, s13 fu src dst 4 seq a0 a1 a2 a3 d = some (b, ()) ∧ ¬ b = true := by
    refine ⟨_, by
      simp only [s13, s27_eq, s28, s29, s35_eq, s37_eq, s11_eq, ieq, ilt, ile, Int.reduceLT, Int.reduceLE, Int.reduceEq, Int.reduceNeg, decide_true, decide_false, cond_true, cond_false, Int.reduceToNat, if_true, List.getElem?_cons_succ, List.getElem?_cons_zero, dat, cSome, cPair, cAnd, cNot, cOr, cNand, Bool.true_and, Bool.and_true, Bool.false_and, Bool.and_false, b42, b110, b48, ch_42_110_0, ch_42_110_1, ch_42_110_2, ch_42_110_3, b99, b117, b100]
      rfl, ?_⟩
    simp only [cGen, Bool.and_eq_true, Bool.or_eq_true, Bool.not_eq_true', Bool.not_eq_true, decide_eq_true_eq, decide_eq_false_iff_not, Bool.false_eq_true, Bool.true_eq_false, beqb, beq_iff_eq, decide_eq_decide, Bool.not_not, Bool.and_eq_false_iff, Bool.or_eq_false_iff, Bool.not_eq_false', true_and, and_true, false_and, and_false, false_or, or_false]
    omega
  obtain ⟨b, e1, e2⟩ := h
  cases b with
  | true => exact absurd rfl e2
  | false => exact e1
theorem send5 (fu : Nat) (src dst seq a0 a1 a2 a3 : Int) (d : List Int) (h1 : 1 ≤ src) (h2 : src ≤ 10) : s13 fu src dst 5 seq a0 a1 a2 a3 d = some (false, ()) := by
  have h : ∃ b, s13 fu src dst 5 seq a0 a1 a2 a3 d = some (b, ()) ∧ ¬ b = true := by
    refine ⟨_, by
      simp only [s13, s27_eq, s28, s29, s35_eq, s37_eq, s11_eq, ieq, ilt, ile, Int.reduceLT, Int.reduceLE, Int.reduceEq, Int.reduceNeg, decide_true, decide_false, cond_true, cond_false, Int.reduceToNat, if_true, List.getElem?_cons_succ, List.getElem?_cons_zero, dat, cSome, cPair, cAnd, cNot, cOr, cNand, Bool.true_and, Bool.and_true, Bool.false_and, Bool.and_false, b99, b120, b48, ch_99_120_0, ch_99_120_1, ch_99_120_2, ch_99_120_3, b117, b100]
      rfl, ?_⟩
    simp only [cGen, Bool.and_eq_true, Bool.or_eq_true, Bool.not_eq_true', Bool.not_eq_true, decide_eq_true_eq, decide_eq_false_iff_not, Bool.false_eq_true, Bool.true_eq_false, beqb, beq_iff_eq, decide_eq_decide, Bool.not_not, Bool.and_eq_false_iff, Bool.or_eq_false_iff, Bool.not_eq_false', true_and, and_true, false_and, and_false, false_or, or_false]
    omega
  obtain ⟨b, e1, e2⟩ := h
  cases b with
  | true => exact absurd rfl e2
  | false => exact e1
theorem law4 (a0 : Int) (a1_Src : Int) (a1_Dst : Int) (a1_Kind : Int) (a1_Seq : Int) (a1_Args_0 : Int) (a1_Args_1 : Int) (a1_Args_2 : Int) (a1_Args_3 : Int) (a1_Data : List Int) (a2 : Int) (h : WfA A4 (a0, (a1_Src, a1_Dst, a1_Kind, a1_Seq, a1_Args_0, a1_Args_1, a1_Args_2, a1_Args_3, a1_Data, ()), a2, ())) : s4 FU a0 a1_Src a1_Dst a1_Kind a1_Seq a1_Args_0 a1_Args_1 a1_Args_2 a1_Args_3 a1_Data a2 = some (true, ()) := by
  unfold s4
  rw [aw19]
  cases hl : ilt 2000 (dlen a1_Data) with
  | true => rfl
  | false =>
    have hlen : a1_Data.length ≤ 2000 := by have := ilt_f.1 hl; rw [dlen_def] at this; omega
    have hd : dapp 1 [] a1_Data = some a1_Data := dapp_nil (by omega) (by omega)
    have hw : WfC (T := C19) (.d (.int .u8 a2)) := h (.one (.d (.int .u8 a2))) (by simp [A4, embPs, embP, embC])
    obtain ⟨w1, w2⟩ := wfd_u8 hw
    have hk : ∃ k : Int, iadd .i64 1 (iwrap .i64 (irem .u8 a2 5)) = k ∧ (k = 1 ∨ k = 2 ∨ k = 3 ∨ k = 4 ∨ k = 5) := by
      refine ⟨_, rfl, ?_⟩
      have e1 : irem .u8 a2 5 = a2 % 5 := by unfold irem; exact Int.tmod_eq_emod_of_nonneg w1
      rw [e1]
      have e2 : iwrap .i64 (a2 % 5) = a2 % 5 := wrap64 (by omega)
      rw [e2, iadd64 (by omega)]
      omega
    obtain ⟨k, hk, hk5⟩ := hk
    rw [hk]
    have key : s15 FU a0 1 0 0 0 0 a1_Src a1_Dst k a1_Seq a1_Args_0 a1_Args_1 a1_Args_2 a1_Args_3 a1_Data [] = some (false, ()) := by
      by_cases ht : 1 ≤ a0 ∧ a0 ≤ 10
      · have hs : s13 FU a0 a1_Dst k 0 a1_Args_0 a1_Args_1 a1_Args_2 a1_Args_3 a1_Data = some (false, ()) := by
          rcases hk5 with e | e | e | e | e <;> subst e
          · exact send1 _ _ _ _ _ _ _ _ _ ht.1 ht.2
          · exact send2 _ _ _ _ _ _ _ _ _ ht.1 ht.2
          · exact send3 _ _ _ _ _ _ _ _ _ ht.1 ht.2
          · exact send4 _ _ _ _ _ _ _ _ _ ht.1 ht.2
          · exact send5 _ _ _ _ _ _ _ _ _ ht.1 ht.2
        unfold s15
        simp only [s35_eq, b99, ht.1, ht.2, s23, hd, hs, ieq, ilt, ile, Int.reduceLT, Int.reduceLE, Int.reduceEq, Int.reduceNeg, decide_true, decide_false, cond_true, cond_false, Int.reduceToNat, if_true, List.getElem?_cons_succ, List.getElem?_cons_zero, dat, cSome, cPair, cAnd, cNot, cOr, cNand, Bool.true_and, Bool.and_true, Bool.false_and, Bool.and_false]
      · unfold s15
        have : clsB 99 a0 = false := by rw [b99]; simp; omega
        simp only [s35_eq, this, cond_false, cond_true]
    simp only [key, show ieq 5 0 = false from rfl, cond_true, cond_false]
end Go.G
