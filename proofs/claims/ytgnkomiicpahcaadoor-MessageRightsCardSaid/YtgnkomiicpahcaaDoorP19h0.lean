import Derived.Test.YtgnkomiicpahcaaDoorP19b
set_option linter.unusedVariables false
set_option linter.unusedSimpArgs false
namespace Go.G
set_option maxRecDepth 100000
set_option maxHeartbeats 4000000

theorem er2 (fu : Nat) (task a0 a1 a2 a3 ms md mk mq m0 m1 m2 m3 : Int) (mm d : List Int) (h : s15 fu task 2 a0 a1 a2 a3 ms md mk mq m0 m1 m2 m3 mm d = some (true, ())) : task = 3 ∨ task = 4 ∨ task = 5 ∨ task = 10 := by
  have e : ∃ b : Bool, s15 fu task 2 a0 a1 a2 a3 ms md mk mq m0 m1 m2 m3 mm d = some (b, ()) ∧ (b = true → task = 3 ∨ task = 4 ∨ task = 5 ∨ task = 10) := by
    refine ⟨_, by
      simp only [s15, s27_eq, s35_eq, s36, s37_eq, s38, ieq, ilt, ile, Int.reduceLT, Int.reduceLE, Int.reduceEq, Int.reduceNeg, decide_true, decide_false, cond_true, cond_false, Int.reduceToNat, if_true, List.getElem?_cons_succ, List.getElem?_cons_zero, dat, cSome, cPair, cAnd, cNot, cOr, cNand, Bool.true_and, Bool.and_true, Bool.false_and, Bool.and_false, b99]
      rfl, ?_⟩
    intro hb
    simp only [cGen, Bool.and_eq_true, Bool.or_eq_true, Bool.not_eq_true', Bool.not_eq_true, decide_eq_true_eq, decide_eq_false_iff_not, Bool.false_eq_true, Bool.true_eq_false, Bool.not_not, Bool.and_eq_false_iff, Bool.or_eq_false_iff, Bool.not_eq_false', true_and, and_true, false_and, and_false, false_or, or_false] at hb
    omega
  obtain ⟨b, h1, h2⟩ := e
  rw [h1] at h
  cases h
  exact h2 rfl
theorem er3 (fu : Nat) (task a0 a1 a2 a3 ms md mk mq m0 m1 m2 m3 : Int) (mm d : List Int) (h : s15 fu task 3 a0 a1 a2 a3 ms md mk mq m0 m1 m2 m3 mm d = some (true, ())) : (a0 = 1 ∧ task = 7) ∨ (a0 = 2 ∧ task = 8) ∨ (a0 = 3 ∧ task = 9) := by
  have e : ∃ b : Bool, s15 fu task 3 a0 a1 a2 a3 ms md mk mq m0 m1 m2 m3 mm d = some (b, ()) ∧ (b = true → (a0 = 1 ∧ task = 7) ∨ (a0 = 2 ∧ task = 8) ∨ (a0 = 3 ∧ task = 9)) := by
    refine ⟨_, by
      simp only [s15, s27_eq, s35_eq, s36, s37_eq, s38, ieq, ilt, ile, Int.reduceLT, Int.reduceLE, Int.reduceEq, Int.reduceNeg, decide_true, decide_false, cond_true, cond_false, Int.reduceToNat, if_true, List.getElem?_cons_succ, List.getElem?_cons_zero, dat, cSome, cPair, cAnd, cNot, cOr, cNand, Bool.true_and, Bool.and_true, Bool.false_and, Bool.and_false, b99]
      rfl, ?_⟩
    intro hb
    have hc : (a0 = 1 ∧ drvN a0 = 7) ∨ (a0 = 2 ∧ drvN a0 = 8) ∨ (a0 = 3 ∧ drvN a0 = 9) ∨ (a0 = 4 ∧ drvN a0 = 10) ∨ drvN a0 = 0 := by
      have : a0 = 1 ∨ a0 = 2 ∨ a0 = 3 ∨ a0 = 4 ∨ ¬ (1 ≤ a0 ∧ a0 ≤ 4) := by omega
      rcases this with h | h | h | h | h
      · exact .inl ⟨h, by rw [h]; rfl⟩
      · exact .inr (.inl ⟨h, by rw [h]; rfl⟩)
      · exact .inr (.inr (.inl ⟨h, by rw [h]; rfl⟩))
      · exact .inr (.inr (.inr (.inl ⟨h, by rw [h]; rfl⟩)))
      · refine .inr (.inr (.inr (.inr ?_)))
        unfold drvN
        simp [show a0 ≠ 1 by omega, show a0 ≠ 2 by omega, show a0 ≠ 3 by omega, show a0 ≠ 4 by omega]
    revert hc hb
    generalize drvN a0 = q
    intro hb hc
    simp only [cGen, Bool.and_eq_true, Bool.or_eq_true, Bool.not_eq_true', Bool.not_eq_true, decide_eq_true_eq, decide_eq_false_iff_not, Bool.false_eq_true, Bool.true_eq_false, Bool.not_not, Bool.and_eq_false_iff, Bool.or_eq_false_iff, Bool.not_eq_false', true_and, and_true, false_and, and_false, false_or, or_false] at hb
    omega
  obtain ⟨b, h1, h2⟩ := e
  rw [h1] at h
  cases h
  exact h2 rfl
theorem er4 (fu : Nat) (task a0 a1 a2 a3 ms md mk mq m0 m1 m2 m3 : Int) (mm d : List Int) (h : s15 fu task 4 a0 a1 a2 a3 ms md mk mq m0 m1 m2 m3 mm d = some (true, ())) : task = 1 ∨ task = 2 ∨ task = 3 ∨ task = 4 ∨ task = 5 ∨ task = 6 ∨ task = 7 ∨ task = 8 ∨ task = 9 ∨ task = 10 := by
  have e : ∃ b : Bool, s15 fu task 4 a0 a1 a2 a3 ms md mk mq m0 m1 m2 m3 mm d = some (b, ()) ∧ (b = true → task = 1 ∨ task = 2 ∨ task = 3 ∨ task = 4 ∨ task = 5 ∨ task = 6 ∨ task = 7 ∨ task = 8 ∨ task = 9 ∨ task = 10) := by
    refine ⟨_, by
      simp only [s15, s27_eq, s35_eq, s36, s37_eq, s38, ieq, ilt, ile, Int.reduceLT, Int.reduceLE, Int.reduceEq, Int.reduceNeg, decide_true, decide_false, cond_true, cond_false, Int.reduceToNat, if_true, List.getElem?_cons_succ, List.getElem?_cons_zero, dat, cSome, cPair, cAnd, cNot, cOr, cNand, Bool.true_and, Bool.and_true, Bool.false_and, Bool.and_false, b99]
      rfl, ?_⟩
    intro hb
    simp only [cGen, Bool.and_eq_true, Bool.or_eq_true, Bool.not_eq_true', Bool.not_eq_true, decide_eq_true_eq, decide_eq_false_iff_not, Bool.false_eq_true, Bool.true_eq_false, Bool.not_not, Bool.and_eq_false_iff, Bool.or_eq_false_iff, Bool.not_eq_false', true_and, and_true, false_and, and_false, false_or, or_false] at hb
    omega
  obtain ⟨b, h1, h2⟩ := e
  rw [h1] at h
  cases h
  exact h2 rfl
theorem er5 (fu : Nat) (task a0 a1 a2 a3 ms md mk mq m0 m1 m2 m3 : Int) (mm d : List Int) (h : s15 fu task 5 a0 a1 a2 a3 ms md mk mq m0 m1 m2 m3 mm d = some (true, ())) : task = 4 := by
  have e : ∃ b : Bool, s15 fu task 5 a0 a1 a2 a3 ms md mk mq m0 m1 m2 m3 mm d = some (b, ()) ∧ (b = true → task = 4) := by
    refine ⟨_, by
      simp only [s15, s27_eq, s35_eq, s36, s37_eq, s38, ieq, ilt, ile, Int.reduceLT, Int.reduceLE, Int.reduceEq, Int.reduceNeg, decide_true, decide_false, cond_true, cond_false, Int.reduceToNat, if_true, List.getElem?_cons_succ, List.getElem?_cons_zero, dat, cSome, cPair, cAnd, cNot, cOr, cNand, Bool.true_and, Bool.and_true, Bool.false_and, Bool.and_false, b99]
      rfl, ?_⟩
    intro hb
    simp only [cGen, Bool.and_eq_true, Bool.or_eq_true, Bool.not_eq_true', Bool.not_eq_true, decide_eq_true_eq, decide_eq_false_iff_not, Bool.false_eq_true, Bool.true_eq_false, Bool.not_not, Bool.and_eq_false_iff, Bool.or_eq_false_iff, Bool.not_eq_false', true_and, and_true, false_and, and_false, false_or, or_false] at hb
    omega
  obtain ⟨b, h1, h2⟩ := e
  rw [h1] at h
  cases h
  exact h2 rfl
theorem er6 (fu : Nat) (task a0 a1 a2 a3 ms md mk mq m0 m1 m2 m3 : Int) (mm d : List Int) (h : s15 fu task 6 a0 a1 a2 a3 ms md mk mq m0 m1 m2 m3 mm d = some (true, ())) : task = 4 := by
  have e : ∃ b : Bool, s15 fu task 6 a0 a1 a2 a3 ms md mk mq m0 m1 m2 m3 mm d = some (b, ()) ∧ (b = true → task = 4) := by
    refine ⟨_, by
      simp only [s15, s27_eq, s35_eq, s36, s37_eq, s38, ieq, ilt, ile, Int.reduceLT, Int.reduceLE, Int.reduceEq, Int.reduceNeg, decide_true, decide_false, cond_true, cond_false, Int.reduceToNat, if_true, List.getElem?_cons_succ, List.getElem?_cons_zero, dat, cSome, cPair, cAnd, cNot, cOr, cNand, Bool.true_and, Bool.and_true, Bool.false_and, Bool.and_false, b99]
      rfl, ?_⟩
    intro hb
    simp only [cGen, Bool.and_eq_true, Bool.or_eq_true, Bool.not_eq_true', Bool.not_eq_true, decide_eq_true_eq, decide_eq_false_iff_not, Bool.false_eq_true, Bool.true_eq_false, Bool.not_not, Bool.and_eq_false_iff, Bool.or_eq_false_iff, Bool.not_eq_false', true_and, and_true, false_and, and_false, false_or, or_false] at hb
    omega
  obtain ⟨b, h1, h2⟩ := e
  rw [h1] at h
  cases h
  exact h2 rfl
theorem er7 (fu : Nat) (task a0 a1 a2 a3 ms md mk mq m0 m1 m2 m3 : Int) (mm d : List Int) (h : s15 fu task 7 a0 a1 a2 a3 ms md mk mq m0 m1 m2 m3 mm d = some (true, ())) : task = 4 := by
  have e : ∃ b : Bool, s15 fu task 7 a0 a1 a2 a3 ms md mk mq m0 m1 m2 m3 mm d = some (b, ()) ∧ (b = true → task = 4) := by
    refine ⟨_, by
      simp only [s15, s27_eq, s35_eq, s36, s37_eq, s38, ieq, ilt, ile, Int.reduceLT, Int.reduceLE, Int.reduceEq, Int.reduceNeg, decide_true, decide_false, cond_true, cond_false, Int.reduceToNat, if_true, List.getElem?_cons_succ, List.getElem?_cons_zero, dat, cSome, cPair, cAnd, cNot, cOr, cNand, Bool.true_and, Bool.and_true, Bool.false_and, Bool.and_false, b99]
      rfl, ?_⟩
    intro hb
    simp only [cGen, Bool.and_eq_true, Bool.or_eq_true, Bool.not_eq_true', Bool.not_eq_true, decide_eq_true_eq, decide_eq_false_iff_not, Bool.false_eq_true, Bool.true_eq_false, Bool.not_not, Bool.and_eq_false_iff, Bool.or_eq_false_iff, Bool.not_eq_false', true_and, and_true, false_and, and_false, false_or, or_false] at hb
    omega
  obtain ⟨b, h1, h2⟩ := e
  rw [h1] at h
  cases h
  exact h2 rfl
theorem er8 (fu : Nat) (task a0 a1 a2 a3 ms md mk mq m0 m1 m2 m3 : Int) (mm d : List Int) (h : s15 fu task 8 a0 a1 a2 a3 ms md mk mq m0 m1 m2 m3 mm d = some (true, ())) : task = 4 := by
  have e : ∃ b : Bool, s15 fu task 8 a0 a1 a2 a3 ms md mk mq m0 m1 m2 m3 mm d = some (b, ()) ∧ (b = true → task = 4) := by
    refine ⟨_, by
      simp only [s15, s27_eq, s35_eq, s36, s37_eq, s38, ieq, ilt, ile, Int.reduceLT, Int.reduceLE, Int.reduceEq, Int.reduceNeg, decide_true, decide_false, cond_true, cond_false, Int.reduceToNat, if_true, List.getElem?_cons_succ, List.getElem?_cons_zero, dat, cSome, cPair, cAnd, cNot, cOr, cNand, Bool.true_and, Bool.and_true, Bool.false_and, Bool.and_false, b99]
      rfl, ?_⟩
    intro hb
    simp only [cGen, Bool.and_eq_true, Bool.or_eq_true, Bool.not_eq_true', Bool.not_eq_true, decide_eq_true_eq, decide_eq_false_iff_not, Bool.false_eq_true, Bool.true_eq_false, Bool.not_not, Bool.and_eq_false_iff, Bool.or_eq_false_iff, Bool.not_eq_false', true_and, and_true, false_and, and_false, false_or, or_false] at hb
    omega
  obtain ⟨b, h1, h2⟩ := e
  rw [h1] at h
  cases h
  exact h2 rfl
theorem er9 (fu : Nat) (task a0 a1 a2 a3 ms md mk mq m0 m1 m2 m3 : Int) (mm d : List Int) (h : s15 fu task 9 a0 a1 a2 a3 ms md mk mq m0 m1 m2 m3 mm d = some (true, ())) : task = 4 := by
  have e : ∃ b : Bool, s15 fu task 9 a0 a1 a2 a3 ms md mk mq m0 m1 m2 m3 mm d = some (b, ()) ∧ (b = true → task = 4) := by
    refine ⟨_, by
      simp only [s15, s27_eq, s35_eq, s36, s37_eq, s38, ieq, ilt, ile, Int.reduceLT, Int.reduceLE, Int.reduceEq, Int.reduceNeg, decide_true, decide_false, cond_true, cond_false, Int.reduceToNat, if_true, List.getElem?_cons_succ, List.getElem?_cons_zero, dat, cSome, cPair, cAnd, cNot, cOr, cNand, Bool.true_and, Bool.and_true, Bool.false_and, Bool.and_false, b99]
      rfl, ?_⟩
    intro hb
    simp only [cGen, Bool.and_eq_true, Bool.or_eq_true, Bool.not_eq_true', Bool.not_eq_true, decide_eq_true_eq, decide_eq_false_iff_not, Bool.false_eq_true, Bool.true_eq_false, Bool.not_not, Bool.and_eq_false_iff, Bool.or_eq_false_iff, Bool.not_eq_false', true_and, and_true, false_and, and_false, false_or, or_false] at hb
    omega
  obtain ⟨b, h1, h2⟩ := e
  rw [h1] at h
  cases h
  exact h2 rfl
theorem er10 (fu : Nat) (task a0 a1 a2 a3 ms md mk mq m0 m1 m2 m3 : Int) (mm d : List Int) (h : s15 fu task 10 a0 a1 a2 a3 ms md mk mq m0 m1 m2 m3 mm d = some (true, ())) : task = 4 := by
  have e : ∃ b : Bool, s15 fu task 10 a0 a1 a2 a3 ms md mk mq m0 m1 m2 m3 mm d = some (b, ()) ∧ (b = true → task = 4) := by
    refine ⟨_, by
      simp only [s15, s27_eq, s35_eq, s36, s37_eq, s38, ieq, ilt, ile, Int.reduceLT, Int.reduceLE, Int.reduceEq, Int.reduceNeg, decide_true, decide_false, cond_true, cond_false, Int.reduceToNat, if_true, List.getElem?_cons_succ, List.getElem?_cons_zero, dat, cSome, cPair, cAnd, cNot, cOr, cNand, Bool.true_and, Bool.and_true, Bool.false_and, Bool.and_false, b99]
      rfl, ?_⟩
    intro hb
    simp only [cGen, Bool.and_eq_true, Bool.or_eq_true, Bool.not_eq_true', Bool.not_eq_true, decide_eq_true_eq, decide_eq_false_iff_not, Bool.false_eq_true, Bool.true_eq_false, Bool.not_not, Bool.and_eq_false_iff, Bool.or_eq_false_iff, Bool.not_eq_false', true_and, and_true, false_and, and_false, false_or, or_false] at hb
    omega
  obtain ⟨b, h1, h2⟩ := e
  rw [h1] at h
  cases h
  exact h2 rfl
theorem er11 (fu : Nat) (task a0 a1 a2 a3 ms md mk mq m0 m1 m2 m3 : Int) (mm d : List Int) (h : s15 fu task 11 a0 a1 a2 a3 ms md mk mq m0 m1 m2 m3 mm d = some (true, ())) : task = 3 := by
  have e : ∃ b : Bool, s15 fu task 11 a0 a1 a2 a3 ms md mk mq m0 m1 m2 m3 mm d = some (b, ()) ∧ (b = true → task = 3) := by
    refine ⟨_, by
      simp only [s15, s27_eq, s35_eq, s36, s37_eq, s38, ieq, ilt, ile, Int.reduceLT, Int.reduceLE, Int.reduceEq, Int.reduceNeg, decide_true, decide_false, cond_true, cond_false, Int.reduceToNat, if_true, List.getElem?_cons_succ, List.getElem?_cons_zero, dat, cSome, cPair, cAnd, cNot, cOr, cNand, Bool.true_and, Bool.and_true, Bool.false_and, Bool.and_false, b99]
      rfl, ?_⟩
    intro hb
    simp only [cGen, Bool.and_eq_true, Bool.or_eq_true, Bool.not_eq_true', Bool.not_eq_true, decide_eq_true_eq, decide_eq_false_iff_not, Bool.false_eq_true, Bool.true_eq_false, Bool.not_not, Bool.and_eq_false_iff, Bool.or_eq_false_iff, Bool.not_eq_false', true_and, and_true, false_and, and_false, false_or, or_false] at hb
    omega
  obtain ⟨b, h1, h2⟩ := e
  rw [h1] at h
  cases h
  exact h2 rfl
theorem er12 (fu : Nat) (task a0 a1 a2 a3 ms md mk mq m0 m1 m2 m3 : Int) (mm d : List Int) (h : s15 fu task 12 a0 a1 a2 a3 ms md mk mq m0 m1 m2 m3 mm d = some (true, ())) : task = 3 := by
  have e : ∃ b : Bool, s15 fu task 12 a0 a1 a2 a3 ms md mk mq m0 m1 m2 m3 mm d = some (b, ()) ∧ (b = true → task = 3) := by
    refine ⟨_, by
      simp only [s15, s27_eq, s35_eq, s36, s37_eq, s38, ieq, ilt, ile, Int.reduceLT, Int.reduceLE, Int.reduceEq, Int.reduceNeg, decide_true, decide_false, cond_true, cond_false, Int.reduceToNat, if_true, List.getElem?_cons_succ, List.getElem?_cons_zero, dat, cSome, cPair, cAnd, cNot, cOr, cNand, Bool.true_and, Bool.and_true, Bool.false_and, Bool.and_false, b99]
      rfl, ?_⟩
    intro hb
    simp only [cGen, Bool.and_eq_true, Bool.or_eq_true, Bool.not_eq_true', Bool.not_eq_true, decide_eq_true_eq, decide_eq_false_iff_not, Bool.false_eq_true, Bool.true_eq_false, Bool.not_not, Bool.and_eq_false_iff, Bool.or_eq_false_iff, Bool.not_eq_false', true_and, and_true, false_and, and_false, false_or, or_false] at hb
    omega
  obtain ⟨b, h1, h2⟩ := e
  rw [h1] at h
  cases h
  exact h2 rfl
theorem er13 (fu : Nat) (task a0 a1 a2 a3 ms md mk mq m0 m1 m2 m3 : Int) (mm d : List Int) (h : s15 fu task 13 a0 a1 a2 a3 ms md mk mq m0 m1 m2 m3 mm d = some (true, ())) : task = 3 := by
  have e : ∃ b : Bool, s15 fu task 13 a0 a1 a2 a3 ms md mk mq m0 m1 m2 m3 mm d = some (b, ()) ∧ (b = true → task = 3) := by
    refine ⟨_, by
      simp only [s15, s27_eq, s35_eq, s36, s37_eq, s38, ieq, ilt, ile, Int.reduceLT, Int.reduceLE, Int.reduceEq, Int.reduceNeg, decide_true, decide_false, cond_true, cond_false, Int.reduceToNat, if_true, List.getElem?_cons_succ, List.getElem?_cons_zero, dat, cSome, cPair, cAnd, cNot, cOr, cNand, Bool.true_and, Bool.and_true, Bool.false_and, Bool.and_false, b99]
      rfl, ?_⟩
    intro hb
    simp only [cGen, Bool.and_eq_true, Bool.or_eq_true, Bool.not_eq_true', Bool.not_eq_true, decide_eq_true_eq, decide_eq_false_iff_not, Bool.false_eq_true, Bool.true_eq_false, Bool.not_not, Bool.and_eq_false_iff, Bool.or_eq_false_iff, Bool.not_eq_false', true_and, and_true, false_and, and_false, false_or, or_false] at hb
    omega
  obtain ⟨b, h1, h2⟩ := e
  rw [h1] at h
  cases h
  exact h2 rfl
theorem er14 (fu : Nat) (task a0 a1 a2 a3 ms md mk mq m0 m1 m2 m3 : Int) (mm d : List Int) (h : s15 fu task 14 a0 a1 a2 a3 ms md mk mq m0 m1 m2 m3 mm d = some (true, ())) : task = 3 := by
  have e : ∃ b : Bool, s15 fu task 14 a0 a1 a2 a3 ms md mk mq m0 m1 m2 m3 mm d = some (b, ()) ∧ (b = true → task = 3) := by
    refine ⟨_, by
      simp only [s15, s27_eq, s35_eq, s36, s37_eq, s38, ieq, ilt, ile, Int.reduceLT, Int.reduceLE, Int.reduceEq, Int.reduceNeg, decide_true, decide_false, cond_true, cond_false, Int.reduceToNat, if_true, List.getElem?_cons_succ, List.getElem?_cons_zero, dat, cSome, cPair, cAnd, cNot, cOr, cNand, Bool.true_and, Bool.and_true, Bool.false_and, Bool.and_false, b99]
      rfl, ?_⟩
    intro hb
    simp only [cGen, Bool.and_eq_true, Bool.or_eq_true, Bool.not_eq_true', Bool.not_eq_true, decide_eq_true_eq, decide_eq_false_iff_not, Bool.false_eq_true, Bool.true_eq_false, Bool.not_not, Bool.and_eq_false_iff, Bool.or_eq_false_iff, Bool.not_eq_false', true_and, and_true, false_and, and_false, false_or, or_false] at hb
    omega
  obtain ⟨b, h1, h2⟩ := e
  rw [h1] at h
  cases h
  exact h2 rfl
theorem er15 (fu : Nat) (task a0 a1 a2 a3 ms md mk mq m0 m1 m2 m3 : Int) (mm d : List Int) (h : s15 fu task 15 a0 a1 a2 a3 ms md mk mq m0 m1 m2 m3 mm d = some (true, ())) : task = 5 := by
  have e : ∃ b : Bool, s15 fu task 15 a0 a1 a2 a3 ms md mk mq m0 m1 m2 m3 mm d = some (b, ()) ∧ (b = true → task = 5) := by
    refine ⟨_, by
      simp only [s15, s27_eq, s35_eq, s36, s37_eq, s38, ieq, ilt, ile, Int.reduceLT, Int.reduceLE, Int.reduceEq, Int.reduceNeg, decide_true, decide_false, cond_true, cond_false, Int.reduceToNat, if_true, List.getElem?_cons_succ, List.getElem?_cons_zero, dat, cSome, cPair, cAnd, cNot, cOr, cNand, Bool.true_and, Bool.and_true, Bool.false_and, Bool.and_false, b99]
      rfl, ?_⟩
    intro hb
    simp only [cGen, Bool.and_eq_true, Bool.or_eq_true, Bool.not_eq_true', Bool.not_eq_true, decide_eq_true_eq, decide_eq_false_iff_not, Bool.false_eq_true, Bool.true_eq_false, Bool.not_not, Bool.and_eq_false_iff, Bool.or_eq_false_iff, Bool.not_eq_false', true_and, and_true, false_and, and_false, false_or, or_false] at hb
    omega
  obtain ⟨b, h1, h2⟩ := e
  rw [h1] at h
  cases h
  exact h2 rfl
theorem er16 (fu : Nat) (task a0 a1 a2 a3 ms md mk mq m0 m1 m2 m3 : Int) (mm d : List Int) (h : s15 fu task 16 a0 a1 a2 a3 ms md mk mq m0 m1 m2 m3 mm d = some (true, ())) : task = 1 := by
  have e : ∃ b : Bool, s15 fu task 16 a0 a1 a2 a3 ms md mk mq m0 m1 m2 m3 mm d = some (b, ()) ∧ (b = true → task = 1) := by
    refine ⟨_, by
      simp only [s15, s27_eq, s35_eq, s36, s37_eq, s38, ieq, ilt, ile, Int.reduceLT, Int.reduceLE, Int.reduceEq, Int.reduceNeg, decide_true, decide_false, cond_true, cond_false, Int.reduceToNat, if_true, List.getElem?_cons_succ, List.getElem?_cons_zero, dat, cSome, cPair, cAnd, cNot, cOr, cNand, Bool.true_and, Bool.and_true, Bool.false_and, Bool.and_false, b99]
      rfl, ?_⟩
    intro hb
    simp only [cGen, Bool.and_eq_true, Bool.or_eq_true, Bool.not_eq_true', Bool.not_eq_true, decide_eq_true_eq, decide_eq_false_iff_not, Bool.false_eq_true, Bool.true_eq_false, Bool.not_not, Bool.and_eq_false_iff, Bool.or_eq_false_iff, Bool.not_eq_false', true_and, and_true, false_and, and_false, false_or, or_false] at hb
    omega
  obtain ⟨b, h1, h2⟩ := e
  rw [h1] at h
  cases h
  exact h2 rfl
end Go.G
