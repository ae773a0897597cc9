import Derived.Test.YtgnkomiicpahcaaDoorP19b
set_option linter.unusedVariables false
set_option linter.unusedSimpArgs false
namespace Go.G
set_option maxRecDepth 100000
set_option maxHeartbeats 4000000

theorem mr1 (fu : Nat) (src dst seq a0 a1 a2 a3 : Int) (d : List Int) (hs : 1 ≤ src ∧ src ≤ 10) (h : s13 fu src dst 1 seq a0 a1 a2 a3 d = some (true, ())) : False := by
  have e : ∃ b : Bool, s13 fu src dst 1 seq a0 a1 a2 a3 d = some (b, ()) ∧ (b = true → False) := by
    refine ⟨_, by
      simp only [s13, s27_eq, s28, s29, s35_eq, s37_eq, s11_eq, ieq, ilt, ile, Int.reduceLT, Int.reduceLE, Int.reduceEq, Int.reduceNeg, decide_true, decide_false, cond_true, cond_false, Int.reduceToNat, if_true, List.getElem?_cons_succ, List.getElem?_cons_zero, dat, cSome, cPair, cAnd, cNot, cOr, cNand, Bool.true_and, Bool.and_true, Bool.false_and, Bool.and_false, b99, b117]
      rfl, ?_⟩
    intro hb
    simp only [cGen, Bool.and_eq_true, Bool.or_eq_true, Bool.not_eq_true', Bool.not_eq_true, decide_eq_true_eq, decide_eq_false_iff_not, Bool.false_eq_true, Bool.true_eq_false, Bool.not_not, Bool.and_eq_false_iff, Bool.or_eq_false_iff, Bool.not_eq_false', true_and, and_true, false_and, and_false, false_or, or_false] at hb
    omega
  obtain ⟨b, h1, h2⟩ := e
  rw [h1] at h
  cases h
  exact h2 rfl
theorem mr2 (fu : Nat) (src dst seq a0 a1 a2 a3 : Int) (d : List Int) (hs : 1 ≤ src ∧ src ≤ 10) (h : s13 fu src dst 2 seq a0 a1 a2 a3 d = some (true, ())) : False := by
  have e : ∃ b : Bool, s13 fu src dst 2 seq a0 a1 a2 a3 d = some (b, ()) ∧ (b = true → False) := by
    refine ⟨_, by
      simp only [s13, s27_eq, s28, s29, s35_eq, s37_eq, s11_eq, ieq, ilt, ile, Int.reduceLT, Int.reduceLE, Int.reduceEq, Int.reduceNeg, decide_true, decide_false, cond_true, cond_false, Int.reduceToNat, if_true, List.getElem?_cons_succ, List.getElem?_cons_zero, dat, cSome, cPair, cAnd, cNot, cOr, cNand, Bool.true_and, Bool.and_true, Bool.false_and, Bool.and_false, b99, b117]
      rfl, ?_⟩
    intro hb
    simp only [cGen, Bool.and_eq_true, Bool.or_eq_true, Bool.not_eq_true', Bool.not_eq_true, decide_eq_true_eq, decide_eq_false_iff_not, Bool.false_eq_true, Bool.true_eq_false, Bool.not_not, Bool.and_eq_false_iff, Bool.or_eq_false_iff, Bool.not_eq_false', true_and, and_true, false_and, and_false, false_or, or_false] at hb
    omega
  obtain ⟨b, h1, h2⟩ := e
  rw [h1] at h
  cases h
  exact h2 rfl
theorem mr3 (fu : Nat) (src dst seq a0 a1 a2 a3 : Int) (d : List Int) (hs : 1 ≤ src ∧ src ≤ 10) (h : s13 fu src dst 3 seq a0 a1 a2 a3 d = some (true, ())) : False := by
  have e : ∃ b : Bool, s13 fu src dst 3 seq a0 a1 a2 a3 d = some (b, ()) ∧ (b = true → False) := by
    refine ⟨_, by
      simp only [s13, s27_eq, s28, s29, s35_eq, s37_eq, s11_eq, ieq, ilt, ile, Int.reduceLT, Int.reduceLE, Int.reduceEq, Int.reduceNeg, decide_true, decide_false, cond_true, cond_false, Int.reduceToNat, if_true, List.getElem?_cons_succ, List.getElem?_cons_zero, dat, cSome, cPair, cAnd, cNot, cOr, cNand, Bool.true_and, Bool.and_true, Bool.false_and, Bool.and_false, b99, b117]
      rfl, ?_⟩
    intro hb
    simp only [cGen, Bool.and_eq_true, Bool.or_eq_true, Bool.not_eq_true', Bool.not_eq_true, decide_eq_true_eq, decide_eq_false_iff_not, Bool.false_eq_true, Bool.true_eq_false, Bool.not_not, Bool.and_eq_false_iff, Bool.or_eq_false_iff, Bool.not_eq_false', true_and, and_true, false_and, and_false, false_or, or_false] at hb
    omega
  obtain ⟨b, h1, h2⟩ := e
  rw [h1] at h
  cases h
  exact h2 rfl
theorem mr4 (fu : Nat) (src dst seq a0 a1 a2 a3 : Int) (d : List Int) (hs : 1 ≤ src ∧ src ≤ 10) (h : s13 fu src dst 4 seq a0 a1 a2 a3 d = some (true, ())) : False := by
  have e : ∃ b : Bool, s13 fu src dst 4 seq a0 a1 a2 a3 d = some (b, ()) ∧ (b = true → False) := by
    refine ⟨_, by
      simp only [s13, s27_eq, s28, s29, s35_eq, s37_eq, s11_eq, ieq, ilt, ile, Int.reduceLT, Int.reduceLE, Int.reduceEq, Int.reduceNeg, decide_true, decide_false, cond_true, cond_false, Int.reduceToNat, if_true, List.getElem?_cons_succ, List.getElem?_cons_zero, dat, cSome, cPair, cAnd, cNot, cOr, cNand, Bool.true_and, Bool.and_true, Bool.false_and, Bool.and_false, b99, b117]
      rfl, ?_⟩
    intro hb
    simp only [cGen, Bool.and_eq_true, Bool.or_eq_true, Bool.not_eq_true', Bool.not_eq_true, decide_eq_true_eq, decide_eq_false_iff_not, Bool.false_eq_true, Bool.true_eq_false, Bool.not_not, Bool.and_eq_false_iff, Bool.or_eq_false_iff, Bool.not_eq_false', true_and, and_true, false_and, and_false, false_or, or_false] at hb
    omega
  obtain ⟨b, h1, h2⟩ := e
  rw [h1] at h
  cases h
  exact h2 rfl
theorem mr5 (fu : Nat) (src dst seq a0 a1 a2 a3 : Int) (d : List Int) (hs : 1 ≤ src ∧ src ≤ 10) (h : s13 fu src dst 5 seq a0 a1 a2 a3 d = some (true, ())) : False := by
  have e : ∃ b : Bool, s13 fu src dst 5 seq a0 a1 a2 a3 d = some (b, ()) ∧ (b = true → False) := by
    refine ⟨_, by
      simp only [s13, s27_eq, s28, s29, s35_eq, s37_eq, s11_eq, ieq, ilt, ile, Int.reduceLT, Int.reduceLE, Int.reduceEq, Int.reduceNeg, decide_true, decide_false, cond_true, cond_false, Int.reduceToNat, if_true, List.getElem?_cons_succ, List.getElem?_cons_zero, dat, cSome, cPair, cAnd, cNot, cOr, cNand, Bool.true_and, Bool.and_true, Bool.false_and, Bool.and_false, b99, b117]
      rfl, ?_⟩
    intro hb
    simp only [cGen, Bool.and_eq_true, Bool.or_eq_true, Bool.not_eq_true', Bool.not_eq_true, decide_eq_true_eq, decide_eq_false_iff_not, Bool.false_eq_true, Bool.true_eq_false, Bool.not_not, Bool.and_eq_false_iff, Bool.or_eq_false_iff, Bool.not_eq_false', true_and, and_true, false_and, and_false, false_or, or_false] at hb
    omega
  obtain ⟨b, h1, h2⟩ := e
  rw [h1] at h
  cases h
  exact h2 rfl
theorem mr6 (fu : Nat) (src dst seq a0 a1 a2 a3 : Int) (d : List Int) (hs : 1 ≤ src ∧ src ≤ 10) (h : s13 fu src dst 6 seq a0 a1 a2 a3 d = some (true, ())) : (src = 1) ∧ (dst = 2 ∨ dst = 3 ∨ dst = 4 ∨ dst = 5 ∨ dst = 6 ∨ dst = 7 ∨ dst = 8 ∨ dst = 9 ∨ dst = 10) := by
  have e : ∃ b : Bool, s13 fu src dst 6 seq a0 a1 a2 a3 d = some (b, ()) ∧ (b = true → (src = 1) ∧ (dst = 2 ∨ dst = 3 ∨ dst = 4 ∨ dst = 5 ∨ dst = 6 ∨ dst = 7 ∨ dst = 8 ∨ dst = 9 ∨ dst = 10)) := by
    refine ⟨_, by
      simp only [s13, s27_eq, s28, s29, s35_eq, s37_eq, s11_eq, ieq, ilt, ile, Int.reduceLT, Int.reduceLE, Int.reduceEq, Int.reduceNeg, decide_true, decide_false, cond_true, cond_false, Int.reduceToNat, if_true, List.getElem?_cons_succ, List.getElem?_cons_zero, dat, cSome, cPair, cAnd, cNot, cOr, cNand, Bool.true_and, Bool.and_true, Bool.false_and, Bool.and_false, b99, b117]
      rfl, ?_⟩
    intro hb
    simp only [cGen, Bool.and_eq_true, Bool.or_eq_true, Bool.not_eq_true', Bool.not_eq_true, decide_eq_true_eq, decide_eq_false_iff_not, Bool.false_eq_true, Bool.true_eq_false, Bool.not_not, Bool.and_eq_false_iff, Bool.or_eq_false_iff, Bool.not_eq_false', true_and, and_true, false_and, and_false, false_or, or_false] at hb
    omega
  obtain ⟨b, h1, h2⟩ := e
  rw [h1] at h
  cases h
  exact h2 rfl
theorem mr7 (fu : Nat) (src dst seq a0 a1 a2 a3 : Int) (d : List Int) (hs : 1 ≤ src ∧ src ≤ 10) (h : s13 fu src dst 7 seq a0 a1 a2 a3 d = some (true, ())) : (src = 2 ∨ src = 3 ∨ src = 4 ∨ src = 5 ∨ src = 6 ∨ src = 7 ∨ src = 8 ∨ src = 9 ∨ src = 10) ∧ (dst = 1) := by
  have e : ∃ b : Bool, s13 fu src dst 7 seq a0 a1 a2 a3 d = some (b, ()) ∧ (b = true → (src = 2 ∨ src = 3 ∨ src = 4 ∨ src = 5 ∨ src = 6 ∨ src = 7 ∨ src = 8 ∨ src = 9 ∨ src = 10) ∧ (dst = 1)) := by
    refine ⟨_, by
      simp only [s13, s27_eq, s28, s29, s35_eq, s37_eq, s11_eq, ieq, ilt, ile, Int.reduceLT, Int.reduceLE, Int.reduceEq, Int.reduceNeg, decide_true, decide_false, cond_true, cond_false, Int.reduceToNat, if_true, List.getElem?_cons_succ, List.getElem?_cons_zero, dat, cSome, cPair, cAnd, cNot, cOr, cNand, Bool.true_and, Bool.and_true, Bool.false_and, Bool.and_false, b99, b117]
      rfl, ?_⟩
    intro hb
    simp only [cGen, Bool.and_eq_true, Bool.or_eq_true, Bool.not_eq_true', Bool.not_eq_true, decide_eq_true_eq, decide_eq_false_iff_not, Bool.false_eq_true, Bool.true_eq_false, Bool.not_not, Bool.and_eq_false_iff, Bool.or_eq_false_iff, Bool.not_eq_false', true_and, and_true, false_and, and_false, false_or, or_false] at hb
    omega
  obtain ⟨b, h1, h2⟩ := e
  rw [h1] at h
  cases h
  exact h2 rfl
theorem mr8 (fu : Nat) (src dst seq a0 a1 a2 a3 : Int) (d : List Int) (hs : 1 ≤ src ∧ src ≤ 10) (h : s13 fu src dst 8 seq a0 a1 a2 a3 d = some (true, ())) : (src = 3) ∧ (dst = 4) := by
  have e : ∃ b : Bool, s13 fu src dst 8 seq a0 a1 a2 a3 d = some (b, ()) ∧ (b = true → (src = 3) ∧ (dst = 4)) := by
    refine ⟨_, by
      simp only [s13, s27_eq, s28, s29, s35_eq, s37_eq, s11_eq, ieq, ilt, ile, Int.reduceLT, Int.reduceLE, Int.reduceEq, Int.reduceNeg, decide_true, decide_false, cond_true, cond_false, Int.reduceToNat, if_true, List.getElem?_cons_succ, List.getElem?_cons_zero, dat, cSome, cPair, cAnd, cNot, cOr, cNand, Bool.true_and, Bool.and_true, Bool.false_and, Bool.and_false, b99, b117]
      rfl, ?_⟩
    intro hb
    simp only [cGen, Bool.and_eq_true, Bool.or_eq_true, Bool.not_eq_true', Bool.not_eq_true, decide_eq_true_eq, decide_eq_false_iff_not, Bool.false_eq_true, Bool.true_eq_false, Bool.not_not, Bool.and_eq_false_iff, Bool.or_eq_false_iff, Bool.not_eq_false', true_and, and_true, false_and, and_false, false_or, or_false] at hb
    omega
  obtain ⟨b, h1, h2⟩ := e
  rw [h1] at h
  cases h
  exact h2 rfl
theorem mr9 (fu : Nat) (src dst seq a0 a1 a2 a3 : Int) (d : List Int) (hs : 1 ≤ src ∧ src ≤ 10) (h : s13 fu src dst 9 seq a0 a1 a2 a3 d = some (true, ())) : (src = 3) ∧ (dst = 4) := by
  have e : ∃ b : Bool, s13 fu src dst 9 seq a0 a1 a2 a3 d = some (b, ()) ∧ (b = true → (src = 3) ∧ (dst = 4)) := by
    refine ⟨_, by
      simp only [s13, s27_eq, s28, s29, s35_eq, s37_eq, s11_eq, ieq, ilt, ile, Int.reduceLT, Int.reduceLE, Int.reduceEq, Int.reduceNeg, decide_true, decide_false, cond_true, cond_false, Int.reduceToNat, if_true, List.getElem?_cons_succ, List.getElem?_cons_zero, dat, cSome, cPair, cAnd, cNot, cOr, cNand, Bool.true_and, Bool.and_true, Bool.false_and, Bool.and_false, b99, b117]
      rfl, ?_⟩
    intro hb
    simp only [cGen, Bool.and_eq_true, Bool.or_eq_true, Bool.not_eq_true', Bool.not_eq_true, decide_eq_true_eq, decide_eq_false_iff_not, Bool.false_eq_true, Bool.true_eq_false, Bool.not_not, Bool.and_eq_false_iff, Bool.or_eq_false_iff, Bool.not_eq_false', true_and, and_true, false_and, and_false, false_or, or_false] at hb
    omega
  obtain ⟨b, h1, h2⟩ := e
  rw [h1] at h
  cases h
  exact h2 rfl
theorem mr10 (fu : Nat) (src dst seq a0 a1 a2 a3 : Int) (d : List Int) (hs : 1 ≤ src ∧ src ≤ 10) (h : s13 fu src dst 10 seq a0 a1 a2 a3 d = some (true, ())) : (src = 3) ∧ (dst = 4) := by
  have e : ∃ b : Bool, s13 fu src dst 10 seq a0 a1 a2 a3 d = some (b, ()) ∧ (b = true → (src = 3) ∧ (dst = 4)) := by
    refine ⟨_, by
      simp only [s13, s27_eq, s28, s29, s35_eq, s37_eq, s11_eq, ieq, ilt, ile, Int.reduceLT, Int.reduceLE, Int.reduceEq, Int.reduceNeg, decide_true, decide_false, cond_true, cond_false, Int.reduceToNat, if_true, List.getElem?_cons_succ, List.getElem?_cons_zero, dat, cSome, cPair, cAnd, cNot, cOr, cNand, Bool.true_and, Bool.and_true, Bool.false_and, Bool.and_false, b99, b117]
      rfl, ?_⟩
    intro hb
    simp only [cGen, Bool.and_eq_true, Bool.or_eq_true, Bool.not_eq_true', Bool.not_eq_true, decide_eq_true_eq, decide_eq_false_iff_not, Bool.false_eq_true, Bool.true_eq_false, Bool.not_not, Bool.and_eq_false_iff, Bool.or_eq_false_iff, Bool.not_eq_false', true_and, and_true, false_and, and_false, false_or, or_false] at hb
    omega
  obtain ⟨b, h1, h2⟩ := e
  rw [h1] at h
  cases h
  exact h2 rfl
theorem mr11 (fu : Nat) (src dst seq a0 a1 a2 a3 : Int) (d : List Int) (hs : 1 ≤ src ∧ src ≤ 10) (h : s13 fu src dst 11 seq a0 a1 a2 a3 d = some (true, ())) : (src = 4) ∧ (dst = 3) := by
  have e : ∃ b : Bool, s13 fu src dst 11 seq a0 a1 a2 a3 d = some (b, ()) ∧ (b = true → (src = 4) ∧ (dst = 3)) := by
    refine ⟨_, by
      simp only [s13, s27_eq, s28, s29, s35_eq, s37_eq, s11_eq, ieq, ilt, ile, Int.reduceLT, Int.reduceLE, Int.reduceEq, Int.reduceNeg, decide_true, decide_false, cond_true, cond_false, Int.reduceToNat, if_true, List.getElem?_cons_succ, List.getElem?_cons_zero, dat, cSome, cPair, cAnd, cNot, cOr, cNand, Bool.true_and, Bool.and_true, Bool.false_and, Bool.and_false, b99, b117]
      rfl, ?_⟩
    intro hb
    simp only [cGen, Bool.and_eq_true, Bool.or_eq_true, Bool.not_eq_true', Bool.not_eq_true, decide_eq_true_eq, decide_eq_false_iff_not, Bool.false_eq_true, Bool.true_eq_false, Bool.not_not, Bool.and_eq_false_iff, Bool.or_eq_false_iff, Bool.not_eq_false', true_and, and_true, false_and, and_false, false_or, or_false] at hb
    omega
  obtain ⟨b, h1, h2⟩ := e
  rw [h1] at h
  cases h
  exact h2 rfl
theorem mr12 (fu : Nat) (src dst seq a0 a1 a2 a3 : Int) (d : List Int) (hs : 1 ≤ src ∧ src ≤ 10) (h : s13 fu src dst 12 seq a0 a1 a2 a3 d = some (true, ())) : (src = 3) ∧ (dst = 5) := by
  have e : ∃ b : Bool, s13 fu src dst 12 seq a0 a1 a2 a3 d = some (b, ()) ∧ (b = true → (src = 3) ∧ (dst = 5)) := by
    refine ⟨_, by
      simp only [s13, s27_eq, s28, s29, s35_eq, s37_eq, s11_eq, ieq, ilt, ile, Int.reduceLT, Int.reduceLE, Int.reduceEq, Int.reduceNeg, decide_true, decide_false, cond_true, cond_false, Int.reduceToNat, if_true, List.getElem?_cons_succ, List.getElem?_cons_zero, dat, cSome, cPair, cAnd, cNot, cOr, cNand, Bool.true_and, Bool.and_true, Bool.false_and, Bool.and_false, b99, b117]
      rfl, ?_⟩
    intro hb
    simp only [cGen, Bool.and_eq_true, Bool.or_eq_true, Bool.not_eq_true', Bool.not_eq_true, decide_eq_true_eq, decide_eq_false_iff_not, Bool.false_eq_true, Bool.true_eq_false, Bool.not_not, Bool.and_eq_false_iff, Bool.or_eq_false_iff, Bool.not_eq_false', true_and, and_true, false_and, and_false, false_or, or_false] at hb
    omega
  obtain ⟨b, h1, h2⟩ := e
  rw [h1] at h
  cases h
  exact h2 rfl
theorem mr13 (fu : Nat) (src dst seq a0 a1 a2 a3 : Int) (d : List Int) (hs : 1 ≤ src ∧ src ≤ 10) (h : s13 fu src dst 13 seq a0 a1 a2 a3 d = some (true, ())) : (src = 3) ∧ (dst = 5) := by
  have e : ∃ b : Bool, s13 fu src dst 13 seq a0 a1 a2 a3 d = some (b, ()) ∧ (b = true → (src = 3) ∧ (dst = 5)) := by
    refine ⟨_, by
      simp only [s13, s27_eq, s28, s29, s35_eq, s37_eq, s11_eq, ieq, ilt, ile, Int.reduceLT, Int.reduceLE, Int.reduceEq, Int.reduceNeg, decide_true, decide_false, cond_true, cond_false, Int.reduceToNat, if_true, List.getElem?_cons_succ, List.getElem?_cons_zero, dat, cSome, cPair, cAnd, cNot, cOr, cNand, Bool.true_and, Bool.and_true, Bool.false_and, Bool.and_false, b99, b117]
      rfl, ?_⟩
    intro hb
    simp only [cGen, Bool.and_eq_true, Bool.or_eq_true, Bool.not_eq_true', Bool.not_eq_true, decide_eq_true_eq, decide_eq_false_iff_not, Bool.false_eq_true, Bool.true_eq_false, Bool.not_not, Bool.and_eq_false_iff, Bool.or_eq_false_iff, Bool.not_eq_false', true_and, and_true, false_and, and_false, false_or, or_false] at hb
    omega
  obtain ⟨b, h1, h2⟩ := e
  rw [h1] at h
  cases h
  exact h2 rfl
theorem mr14 (fu : Nat) (src dst seq a0 a1 a2 a3 : Int) (d : List Int) (hs : 1 ≤ src ∧ src ≤ 10) (h : s13 fu src dst 14 seq a0 a1 a2 a3 d = some (true, ())) : (src = 3) ∧ (dst = 5) := by
  have e : ∃ b : Bool, s13 fu src dst 14 seq a0 a1 a2 a3 d = some (b, ()) ∧ (b = true → (src = 3) ∧ (dst = 5)) := by
    refine ⟨_, by
      simp only [s13, s27_eq, s28, s29, s35_eq, s37_eq, s11_eq, ieq, ilt, ile, Int.reduceLT, Int.reduceLE, Int.reduceEq, Int.reduceNeg, decide_true, decide_false, cond_true, cond_false, Int.reduceToNat, if_true, List.getElem?_cons_succ, List.getElem?_cons_zero, dat, cSome, cPair, cAnd, cNot, cOr, cNand, Bool.true_and, Bool.and_true, Bool.false_and, Bool.and_false, b99, b117]
      rfl, ?_⟩
    intro hb
    simp only [cGen, Bool.and_eq_true, Bool.or_eq_true, Bool.not_eq_true', Bool.not_eq_true, decide_eq_true_eq, decide_eq_false_iff_not, Bool.false_eq_true, Bool.true_eq_false, Bool.not_not, Bool.and_eq_false_iff, Bool.or_eq_false_iff, Bool.not_eq_false', true_and, and_true, false_and, and_false, false_or, or_false] at hb
    omega
  obtain ⟨b, h1, h2⟩ := e
  rw [h1] at h
  cases h
  exact h2 rfl
theorem mr15 (fu : Nat) (src dst seq a0 a1 a2 a3 : Int) (d : List Int) (hs : 1 ≤ src ∧ src ≤ 10) (h : s13 fu src dst 15 seq a0 a1 a2 a3 d = some (true, ())) : (src = 5) ∧ (dst = 3) := by
  have e : ∃ b : Bool, s13 fu src dst 15 seq a0 a1 a2 a3 d = some (b, ()) ∧ (b = true → (src = 5) ∧ (dst = 3)) := by
    refine ⟨_, by
      simp only [s13, s27_eq, s28, s29, s35_eq, s37_eq, s11_eq, ieq, ilt, ile, Int.reduceLT, Int.reduceLE, Int.reduceEq, Int.reduceNeg, decide_true, decide_false, cond_true, cond_false, Int.reduceToNat, if_true, List.getElem?_cons_succ, List.getElem?_cons_zero, dat, cSome, cPair, cAnd, cNot, cOr, cNand, Bool.true_and, Bool.and_true, Bool.false_and, Bool.and_false, b99, b117]
      rfl, ?_⟩
    intro hb
    simp only [cGen, Bool.and_eq_true, Bool.or_eq_true, Bool.not_eq_true', Bool.not_eq_true, decide_eq_true_eq, decide_eq_false_iff_not, Bool.false_eq_true, Bool.true_eq_false, Bool.not_not, Bool.and_eq_false_iff, Bool.or_eq_false_iff, Bool.not_eq_false', true_and, and_true, false_and, and_false, false_or, or_false] at hb
    omega
  obtain ⟨b, h1, h2⟩ := e
  rw [h1] at h
  cases h
  exact h2 rfl
theorem mr16 (fu : Nat) (src dst seq a0 a1 a2 a3 : Int) (d : List Int) (hs : 1 ≤ src ∧ src ≤ 10) (h : s13 fu src dst 16 seq a0 a1 a2 a3 d = some (true, ())) : (src = 3) ∧ (dst = 10) := by
  have e : ∃ b : Bool, s13 fu src dst 16 seq a0 a1 a2 a3 d = some (b, ()) ∧ (b = true → (src = 3) ∧ (dst = 10)) := by
    refine ⟨_, by
      simp only [s13, s27_eq, s28, s29, s35_eq, s37_eq, s11_eq, ieq, ilt, ile, Int.reduceLT, Int.reduceLE, Int.reduceEq, Int.reduceNeg, decide_true, decide_false, cond_true, cond_false, Int.reduceToNat, if_true, List.getElem?_cons_succ, List.getElem?_cons_zero, dat, cSome, cPair, cAnd, cNot, cOr, cNand, Bool.true_and, Bool.and_true, Bool.false_and, Bool.and_false, b99, b117]
      rfl, ?_⟩
    intro hb
    simp only [cGen, Bool.and_eq_true, Bool.or_eq_true, Bool.not_eq_true', Bool.not_eq_true, decide_eq_true_eq, decide_eq_false_iff_not, Bool.false_eq_true, Bool.true_eq_false, Bool.not_not, Bool.and_eq_false_iff, Bool.or_eq_false_iff, Bool.not_eq_false', true_and, and_true, false_and, and_false, false_or, or_false] at hb
    omega
  obtain ⟨b, h1, h2⟩ := e
  rw [h1] at h
  cases h
  exact h2 rfl
theorem mr17 (fu : Nat) (src dst seq a0 a1 a2 a3 : Int) (d : List Int) (hs : 1 ≤ src ∧ src ≤ 10) (h : s13 fu src dst 17 seq a0 a1 a2 a3 d = some (true, ())) : (src = 10) ∧ (dst = 3) := by
  have e : ∃ b : Bool, s13 fu src dst 17 seq a0 a1 a2 a3 d = some (b, ()) ∧ (b = true → (src = 10) ∧ (dst = 3)) := by
    refine ⟨_, by
      simp only [s13, s27_eq, s28, s29, s35_eq, s37_eq, s11_eq, ieq, ilt, ile, Int.reduceLT, Int.reduceLE, Int.reduceEq, Int.reduceNeg, decide_true, decide_false, cond_true, cond_false, Int.reduceToNat, if_true, List.getElem?_cons_succ, List.getElem?_cons_zero, dat, cSome, cPair, cAnd, cNot, cOr, cNand, Bool.true_and, Bool.and_true, Bool.false_and, Bool.and_false, b99, b117]
      rfl, ?_⟩
    intro hb
    simp only [cGen, Bool.and_eq_true, Bool.or_eq_true, Bool.not_eq_true', Bool.not_eq_true, decide_eq_true_eq, decide_eq_false_iff_not, Bool.false_eq_true, Bool.true_eq_false, Bool.not_not, Bool.and_eq_false_iff, Bool.or_eq_false_iff, Bool.not_eq_false', true_and, and_true, false_and, and_false, false_or, or_false] at hb
    omega
  obtain ⟨b, h1, h2⟩ := e
  rw [h1] at h
  cases h
  exact h2 rfl
theorem mr18 (fu : Nat) (src dst seq a0 a1 a2 a3 : Int) (d : List Int) (hs : 1 ≤ src ∧ src ≤ 10) (h : s13 fu src dst 18 seq a0 a1 a2 a3 d = some (true, ())) : (src = 5) ∧ (dst = 6) := by
  have e : ∃ b : Bool, s13 fu src dst 18 seq a0 a1 a2 a3 d = some (b, ()) ∧ (b = true → (src = 5) ∧ (dst = 6)) := by
    refine ⟨_, by
      simp only [s13, s27_eq, s28, s29, s35_eq, s37_eq, s11_eq, ieq, ilt, ile, Int.reduceLT, Int.reduceLE, Int.reduceEq, Int.reduceNeg, decide_true, decide_false, cond_true, cond_false, Int.reduceToNat, if_true, List.getElem?_cons_succ, List.getElem?_cons_zero, dat, cSome, cPair, cAnd, cNot, cOr, cNand, Bool.true_and, Bool.and_true, Bool.false_and, Bool.and_false, b99, b117]
      rfl, ?_⟩
    intro hb
    simp only [cGen, Bool.and_eq_true, Bool.or_eq_true, Bool.not_eq_true', Bool.not_eq_true, decide_eq_true_eq, decide_eq_false_iff_not, Bool.false_eq_true, Bool.true_eq_false, Bool.not_not, Bool.and_eq_false_iff, Bool.or_eq_false_iff, Bool.not_eq_false', true_and, and_true, false_and, and_false, false_or, or_false] at hb
    omega
  obtain ⟨b, h1, h2⟩ := e
  rw [h1] at h
  cases h
  exact h2 rfl
theorem mr19 (fu : Nat) (src dst seq a0 a1 a2 a3 : Int) (d : List Int) (hs : 1 ≤ src ∧ src ≤ 10) (h : s13 fu src dst 19 seq a0 a1 a2 a3 d = some (true, ())) : (src = 6) ∧ (dst = 5) := by
  have e : ∃ b : Bool, s13 fu src dst 19 seq a0 a1 a2 a3 d = some (b, ()) ∧ (b = true → (src = 6) ∧ (dst = 5)) := by
    refine ⟨_, by
      simp only [s13, s27_eq, s28, s29, s35_eq, s37_eq, s11_eq, ieq, ilt, ile, Int.reduceLT, Int.reduceLE, Int.reduceEq, Int.reduceNeg, decide_true, decide_false, cond_true, cond_false, Int.reduceToNat, if_true, List.getElem?_cons_succ, List.getElem?_cons_zero, dat, cSome, cPair, cAnd, cNot, cOr, cNand, Bool.true_and, Bool.and_true, Bool.false_and, Bool.and_false, b99, b117]
      rfl, ?_⟩
    intro hb
    simp only [cGen, Bool.and_eq_true, Bool.or_eq_true, Bool.not_eq_true', Bool.not_eq_true, decide_eq_true_eq, decide_eq_false_iff_not, Bool.false_eq_true, Bool.true_eq_false, Bool.not_not, Bool.and_eq_false_iff, Bool.or_eq_false_iff, Bool.not_eq_false', true_and, and_true, false_and, and_false, false_or, or_false] at hb
    omega
  obtain ⟨b, h1, h2⟩ := e
  rw [h1] at h
  cases h
  exact h2 rfl
theorem mr20 (fu : Nat) (src dst seq a0 a1 a2 a3 : Int) (d : List Int) (hs : 1 ≤ src ∧ src ≤ 10) (h : s13 fu src dst 20 seq a0 a1 a2 a3 d = some (true, ())) : (src = 4 ∨ src = 6) ∧ (dst = 7) := by
  have e : ∃ b : Bool, s13 fu src dst 20 seq a0 a1 a2 a3 d = some (b, ()) ∧ (b = true → (src = 4 ∨ src = 6) ∧ (dst = 7)) := by
    refine ⟨_, by
      simp only [s13, s27_eq, s28, s29, s35_eq, s37_eq, s11_eq, ieq, ilt, ile, Int.reduceLT, Int.reduceLE, Int.reduceEq, Int.reduceNeg, decide_true, decide_false, cond_true, cond_false, Int.reduceToNat, if_true, List.getElem?_cons_succ, List.getElem?_cons_zero, dat, cSome, cPair, cAnd, cNot, cOr, cNand, Bool.true_and, Bool.and_true, Bool.false_and, Bool.and_false, b99, b117]
      rfl, ?_⟩
    intro hb
    simp only [cGen, Bool.and_eq_true, Bool.or_eq_true, Bool.not_eq_true', Bool.not_eq_true, decide_eq_true_eq, decide_eq_false_iff_not, Bool.false_eq_true, Bool.true_eq_false, Bool.not_not, Bool.and_eq_false_iff, Bool.or_eq_false_iff, Bool.not_eq_false', true_and, and_true, false_and, and_false, false_or, or_false] at hb
    omega
  obtain ⟨b, h1, h2⟩ := e
  rw [h1] at h
  cases h
  exact h2 rfl
theorem mr21 (fu : Nat) (src dst seq a0 a1 a2 a3 : Int) (d : List Int) (hs : 1 ≤ src ∧ src ≤ 10) (h : s13 fu src dst 21 seq a0 a1 a2 a3 d = some (true, ())) : (src = 7) ∧ (dst = 4 ∨ dst = 6) := by
  have e : ∃ b : Bool, s13 fu src dst 21 seq a0 a1 a2 a3 d = some (b, ()) ∧ (b = true → (src = 7) ∧ (dst = 4 ∨ dst = 6)) := by
    refine ⟨_, by
      simp only [s13, s27_eq, s28, s29, s35_eq, s37_eq, s11_eq, ieq, ilt, ile, Int.reduceLT, Int.reduceLE, Int.reduceEq, Int.reduceNeg, decide_true, decide_false, cond_true, cond_false, Int.reduceToNat, if_true, List.getElem?_cons_succ, List.getElem?_cons_zero, dat, cSome, cPair, cAnd, cNot, cOr, cNand, Bool.true_and, Bool.and_true, Bool.false_and, Bool.and_false, b99, b117]
      rfl, ?_⟩
    intro hb
    simp only [cGen, Bool.and_eq_true, Bool.or_eq_true, Bool.not_eq_true', Bool.not_eq_true, decide_eq_true_eq, decide_eq_false_iff_not, Bool.false_eq_true, Bool.true_eq_false, Bool.not_not, Bool.and_eq_false_iff, Bool.or_eq_false_iff, Bool.not_eq_false', true_and, and_true, false_and, and_false, false_or, or_false] at hb
    omega
  obtain ⟨b, h1, h2⟩ := e
  rw [h1] at h
  cases h
  exact h2 rfl
theorem mr22 (fu : Nat) (src dst seq a0 a1 a2 a3 : Int) (d : List Int) (hs : 1 ≤ src ∧ src ≤ 10) (h : s13 fu src dst 22 seq a0 a1 a2 a3 d = some (true, ())) : (src = 5) ∧ (dst = 9) := by
  have e : ∃ b : Bool, s13 fu src dst 22 seq a0 a1 a2 a3 d = some (b, ()) ∧ (b = true → (src = 5) ∧ (dst = 9)) := by
    refine ⟨_, by
      simp only [s13, s27_eq, s28, s29, s35_eq, s37_eq, s11_eq, ieq, ilt, ile, Int.reduceLT, Int.reduceLE, Int.reduceEq, Int.reduceNeg, decide_true, decide_false, cond_true, cond_false, Int.reduceToNat, if_true, List.getElem?_cons_succ, List.getElem?_cons_zero, dat, cSome, cPair, cAnd, cNot, cOr, cNand, Bool.true_and, Bool.and_true, Bool.false_and, Bool.and_false, b99, b117]
      rfl, ?_⟩
    intro hb
    simp only [cGen, Bool.and_eq_true, Bool.or_eq_true, Bool.not_eq_true', Bool.not_eq_true, decide_eq_true_eq, decide_eq_false_iff_not, Bool.false_eq_true, Bool.true_eq_false, Bool.not_not, Bool.and_eq_false_iff, Bool.or_eq_false_iff, Bool.not_eq_false', true_and, and_true, false_and, and_false, false_or, or_false] at hb
    omega
  obtain ⟨b, h1, h2⟩ := e
  rw [h1] at h
  cases h
  exact h2 rfl
theorem mr23 (fu : Nat) (src dst seq a0 a1 a2 a3 : Int) (d : List Int) (hs : 1 ≤ src ∧ src ≤ 10) (h : s13 fu src dst 23 seq a0 a1 a2 a3 d = some (true, ())) : (src = 9) ∧ (dst = 5) := by
  have e : ∃ b : Bool, s13 fu src dst 23 seq a0 a1 a2 a3 d = some (b, ()) ∧ (b = true → (src = 9) ∧ (dst = 5)) := by
    refine ⟨_, by
      simp only [s13, s27_eq, s28, s29, s35_eq, s37_eq, s11_eq, ieq, ilt, ile, Int.reduceLT, Int.reduceLE, Int.reduceEq, Int.reduceNeg, decide_true, decide_false, cond_true, cond_false, Int.reduceToNat, if_true, List.getElem?_cons_succ, List.getElem?_cons_zero, dat, cSome, cPair, cAnd, cNot, cOr, cNand, Bool.true_and, Bool.and_true, Bool.false_and, Bool.and_false, b99, b117]
      rfl, ?_⟩
    intro hb
    simp only [cGen, Bool.and_eq_true, Bool.or_eq_true, Bool.not_eq_true', Bool.not_eq_true, decide_eq_true_eq, decide_eq_false_iff_not, Bool.false_eq_true, Bool.true_eq_false, Bool.not_not, Bool.and_eq_false_iff, Bool.or_eq_false_iff, Bool.not_eq_false', true_and, and_true, false_and, and_false, false_or, or_false] at hb
    omega
  obtain ⟨b, h1, h2⟩ := e
  rw [h1] at h
  cases h
  exact h2 rfl
theorem mr24 (fu : Nat) (src dst seq a0 a1 a2 a3 : Int) (d : List Int) (hs : 1 ≤ src ∧ src ≤ 10) (h : s13 fu src dst 24 seq a0 a1 a2 a3 d = some (true, ())) : (src = 5) ∧ (dst = 8) := by
  have e : ∃ b : Bool, s13 fu src dst 24 seq a0 a1 a2 a3 d = some (b, ()) ∧ (b = true → (src = 5) ∧ (dst = 8)) := by
    refine ⟨_, by
      simp only [s13, s27_eq, s28, s29, s35_eq, s37_eq, s11_eq, ieq, ilt, ile, Int.reduceLT, Int.reduceLE, Int.reduceEq, Int.reduceNeg, decide_true, decide_false, cond_true, cond_false, Int.reduceToNat, if_true, List.getElem?_cons_succ, List.getElem?_cons_zero, dat, cSome, cPair, cAnd, cNot, cOr, cNand, Bool.true_and, Bool.and_true, Bool.false_and, Bool.and_false, b99, b117]
      rfl, ?_⟩
    intro hb
    simp only [cGen, Bool.and_eq_true, Bool.or_eq_true, Bool.not_eq_true', Bool.not_eq_true, decide_eq_true_eq, decide_eq_false_iff_not, Bool.false_eq_true, Bool.true_eq_false, Bool.not_not, Bool.and_eq_false_iff, Bool.or_eq_false_iff, Bool.not_eq_false', true_and, and_true, false_and, and_false, false_or, or_false] at hb
    omega
  obtain ⟨b, h1, h2⟩ := e
  rw [h1] at h
  cases h
  exact h2 rfl
theorem mr25 (fu : Nat) (src dst seq a0 a1 a2 a3 : Int) (d : List Int) (hs : 1 ≤ src ∧ src ≤ 10) (h : s13 fu src dst 25 seq a0 a1 a2 a3 d = some (true, ())) : (src = 8) ∧ (dst = 5) := by
  have e : ∃ b : Bool, s13 fu src dst 25 seq a0 a1 a2 a3 d = some (b, ()) ∧ (b = true → (src = 8) ∧ (dst = 5)) := by
    refine ⟨_, by
      simp only [s13, s27_eq, s28, s29, s35_eq, s37_eq, s11_eq, ieq, ilt, ile, Int.reduceLT, Int.reduceLE, Int.reduceEq, Int.reduceNeg, decide_true, decide_false, cond_true, cond_false, Int.reduceToNat, if_true, List.getElem?_cons_succ, List.getElem?_cons_zero, dat, cSome, cPair, cAnd, cNot, cOr, cNand, Bool.true_and, Bool.and_true, Bool.false_and, Bool.and_false, b99, b117]
      rfl, ?_⟩
    intro hb
    simp only [cGen, Bool.and_eq_true, Bool.or_eq_true, Bool.not_eq_true', Bool.not_eq_true, decide_eq_true_eq, decide_eq_false_iff_not, Bool.false_eq_true, Bool.true_eq_false, Bool.not_not, Bool.and_eq_false_iff, Bool.or_eq_false_iff, Bool.not_eq_false', true_and, and_true, false_and, and_false, false_or, or_false] at hb
    omega
  obtain ⟨b, h1, h2⟩ := e
  rw [h1] at h
  cases h
  exact h2 rfl
theorem mr26 (fu : Nat) (src dst seq a0 a1 a2 a3 : Int) (d : List Int) (hs : 1 ≤ src ∧ src ≤ 10) (h : s13 fu src dst 26 seq a0 a1 a2 a3 d = some (true, ())) : (src = 1 ∨ src = 2 ∨ src = 3 ∨ src = 4 ∨ src = 5 ∨ src = 6 ∨ src = 7 ∨ src = 8 ∨ src = 9 ∨ src = 10) ∧ (dst = 2) := by
  have e : ∃ b : Bool, s13 fu src dst 26 seq a0 a1 a2 a3 d = some (b, ()) ∧ (b = true → (src = 1 ∨ src = 2 ∨ src = 3 ∨ src = 4 ∨ src = 5 ∨ src = 6 ∨ src = 7 ∨ src = 8 ∨ src = 9 ∨ src = 10) ∧ (dst = 2)) := by
    refine ⟨_, by
      simp only [s13, s27_eq, s28, s29, s35_eq, s37_eq, s11_eq, ieq, ilt, ile, Int.reduceLT, Int.reduceLE, Int.reduceEq, Int.reduceNeg, decide_true, decide_false, cond_true, cond_false, Int.reduceToNat, if_true, List.getElem?_cons_succ, List.getElem?_cons_zero, dat, cSome, cPair, cAnd, cNot, cOr, cNand, Bool.true_and, Bool.and_true, Bool.false_and, Bool.and_false, b99, b117]
      rfl, ?_⟩
    intro hb
    simp only [cGen, Bool.and_eq_true, Bool.or_eq_true, Bool.not_eq_true', Bool.not_eq_true, decide_eq_true_eq, decide_eq_false_iff_not, Bool.false_eq_true, Bool.true_eq_false, Bool.not_not, Bool.and_eq_false_iff, Bool.or_eq_false_iff, Bool.not_eq_false', true_and, and_true, false_and, and_false, false_or, or_false] at hb
    omega
  obtain ⟨b, h1, h2⟩ := e
  rw [h1] at h
  cases h
  exact h2 rfl
theorem mr27 (fu : Nat) (src dst seq a0 a1 a2 a3 : Int) (d : List Int) (hs : 1 ≤ src ∧ src ≤ 10) (h : s13 fu src dst 27 seq a0 a1 a2 a3 d = some (true, ())) : (src = 2) ∧ (dst = 1 ∨ dst = 2 ∨ dst = 3 ∨ dst = 4 ∨ dst = 5 ∨ dst = 6 ∨ dst = 7 ∨ dst = 8 ∨ dst = 9 ∨ dst = 10) := by
  have e : ∃ b : Bool, s13 fu src dst 27 seq a0 a1 a2 a3 d = some (b, ()) ∧ (b = true → (src = 2) ∧ (dst = 1 ∨ dst = 2 ∨ dst = 3 ∨ dst = 4 ∨ dst = 5 ∨ dst = 6 ∨ dst = 7 ∨ dst = 8 ∨ dst = 9 ∨ dst = 10)) := by
    refine ⟨_, by
      simp only [s13, s27_eq, s28, s29, s35_eq, s37_eq, s11_eq, ieq, ilt, ile, Int.reduceLT, Int.reduceLE, Int.reduceEq, Int.reduceNeg, decide_true, decide_false, cond_true, cond_false, Int.reduceToNat, if_true, List.getElem?_cons_succ, List.getElem?_cons_zero, dat, cSome, cPair, cAnd, cNot, cOr, cNand, Bool.true_and, Bool.and_true, Bool.false_and, Bool.and_false, b99, b117]
      rfl, ?_⟩
    intro hb
    simp only [cGen, Bool.and_eq_true, Bool.or_eq_true, Bool.not_eq_true', Bool.not_eq_true, decide_eq_true_eq, decide_eq_false_iff_not, Bool.false_eq_true, Bool.true_eq_false, Bool.not_not, Bool.and_eq_false_iff, Bool.or_eq_false_iff, Bool.not_eq_false', true_and, and_true, false_and, and_false, false_or, or_false] at hb
    omega
  obtain ⟨b, h1, h2⟩ := e
  rw [h1] at h
  cases h
  exact h2 rfl
end Go.G
