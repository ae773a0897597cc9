import Derived.Test.YtffmffcnfhcgbaaP22d
import Derived.Test.YtffmffcnfhcgbaaGE5
set_option linter.unusedVariables false
set_option linter.unusedSimpArgs false
namespace Go.G
set_option maxRecDepth 100000
theorem eta22 (y : Timer22) : (⟨y.Owner, y.Tag, y.Due⟩ : Timer22) = y := rfl
/-! ### swapRange -/
theorem swap_step {α : Type} {A P M Q B : List α} {i : Nat} {p q : α} (hp : P[i]? = some p) (hq : Q[i]? = some q) :
    (A ++ P ++ M ++ Q ++ B)[A.length + i]? = some p ∧ (A ++ P ++ M ++ Q ++ B)[A.length + P.length + M.length + i]? = some q ∧ (A ++ P ++ M ++ Q ++ B).set (A.length + i) q = A ++ P.set i q ++ M ++ Q ++ B ∧
      (A ++ P.set i q ++ M ++ Q ++ B).set (A.length + P.length + M.length + i) p = A ++ P.set i q ++ M ++ Q.set i p ++ B ∧ (A ++ P.set i q ++ M ++ Q ++ B)[A.length + P.length + M.length + i]? = some q := by
  have h1 := getElem?_lt hp
  have h2 := getElem?_lt hq
  have l1 : A.length + P.length + M.length = (A ++ P ++ M).length := by simp only [List.length_append]
  have l2 : A.length + P.length + M.length = (A ++ P.set i q ++ M).length := by simp only [List.length_append, List.length_set]
  refine ⟨?_, ?_, ?_, ?_, ?_⟩
  · have := get_part A P (M ++ Q ++ B) h1
    rw [hp] at this
    simpa [List.append_assoc] using this
  · rw [l1, get_part _ _ _ h2]; exact hq
  · have := set_part A P (M ++ Q ++ B) h1 q
    simpa [List.append_assoc] using this
  · rw [l2, set_part _ _ _ h2]
  · rw [l2, get_part _ _ _ h2]; exact hq
theorem swap22 {fu : Nat} {A X M Y B : List Timer22} (hn : X.length = Y.length) (hf : X.length < fu) (hl : (A ++ X ++ M ++ Y ++ B).length < 1000000000) :
    s52 fu (A ++ X ++ M ++ Y ++ B) (A.length : Int) ((A.length + X.length + M.length : Nat) : Int) (X.length : Int) = some (A ++ Y ++ M ++ X ++ B) := by
  simp only [List.length_append] at hl
  have := iter_run (step := t52_0 fu) (fu := fu) (fun j => ((), ((A.length : Int), (((A.length + X.length + M.length : Nat) : Int), ((X.length : Int), ((j : Int), (A ++ (Y.take j ++ X.drop j) ++ M ++ (X.take j ++ Y.drop j) ++ B, ())))))))
    (e := .inl (A ++ Y ++ M ++ X ++ B, ())) (n := X.length)
    (fun j hj => by
      have hp : (Y.take j ++ X.drop j)[j]? = some X[j] := by
        have : (Y.take j).length = j := by rw [List.length_take]; omega
        rw [List.getElem?_append_right (by omega), this, Nat.sub_self, List.getElem?_drop, Nat.add_zero, List.getElem?_eq_getElem hj]
      have hq : (X.take j ++ Y.drop j)[j]? = some (Y[j]'(by omega)) := by
        have : (X.take j).length = j := by rw [List.length_take]; omega
        rw [List.getElem?_append_right (by omega), this, Nat.sub_self, List.getElem?_drop, Nat.add_zero, List.getElem?_eq_getElem (by omega)]
      obtain ⟨k1, k2, k3, k4, k5⟩ := swap_step (A := A) (M := M) (B := B) hp hq
      have hlp : (Y.take j ++ X.drop j).length = X.length := by simp; omega
      rw [hlp] at k2 k4 k5
      rw [part_step hn (List.getElem?_eq_getElem (by omega))] at k3 k4 k5
      rw [part_step hn.symm (List.getElem?_eq_getElem hj)] at k4
      have e1 : iadd .i64 ((A.length + X.length + M.length : Nat) : Int) (j : Int) = ((A.length + X.length + M.length + j : Nat) : Int) := by rw [iadd64 (by omega)]; omega
      have e2 : iadd .i64 (A.length : Int) (j : Int) = ((A.length + j : Nat) : Int) := by rw [iadd64 (by omega)]; omega
      simp only [t52_0, ilt_len hj, e1, e2, dat_nat, k1, k2, eta22, dset_nat, k3, k4, k5, iadd1 (show j < 9223372036854775807 by omega)])
    (by simp only [t52_0, ilt_end]; rw [List.take_of_length_le (show Y.length ≤ X.length by omega), List.take_length, List.drop_length, List.drop_of_length_le (show Y.length ≤ X.length by omega), List.append_nil, List.append_nil]) (by omega)
  simp only [List.take_zero, List.drop_zero, List.nil_append] at this
  unfold s52
  rw [show ((0 : Nat) : Int) = 0 from rfl] at this
  rw [this]
/-! ### rotate -/
theorem rot22 {fu : Nat} {A U V B : List Timer22} (hU : U ≠ []) (hV : V ≠ []) (hl : (A ++ U ++ V ++ B).length < 1000000000) (hf : (A ++ U ++ V ++ B).length + 1 < fu) :
    s50 fu (A ++ U ++ V ++ B) (A.length : Int) ((A.length + U.length : Nat) : Int) ((A.length + U.length + V.length : Nat) : Int) = some (A ++ V ++ U ++ B) := by
  have hU' := List.length_pos_iff.2 hU
  have hV' := List.length_pos_iff.2 hV
  simp only [List.length_append] at hl hf
  obtain ⟨e, he, A', U', V', B', p1, p2, p3, p4, p5, p6⟩ := iter_meas (step := t50_0 fu)
    (fun s => ∃ A' U' V' B' : List Timer22, s = ((), (((A.length + U.length : Nat) : Int), ((), ((U'.length : Int), ((V'.length : Int), (A' ++ U' ++ V' ++ B', ())))))) ∧ A.length + U.length = A'.length + U'.length ∧ A' ++ V' ++ U' ++ B' = A ++ V ++ U ++ B ∧
      0 < U'.length ∧ 0 < V'.length ∧ A'.length + U'.length + V'.length + B'.length = A.length + U.length + V.length + B.length)
    (fun s => (s.2.2.2.1 + s.2.2.2.2.1).toNat)
    (fun e => ∃ A' U' V' B' : List Timer22, e = .inl ((), (((A.length + U.length : Nat) : Int), ((), ((U'.length : Int), (A' ++ U' ++ V' ++ B', ()))))) ∧ A.length + U.length = A'.length + U'.length ∧ A' ++ V' ++ U' ++ B' = A ++ V ++ U ++ B ∧
      0 < U'.length ∧ U'.length = V'.length ∧ A'.length + U'.length + V'.length + B'.length = A.length + U.length + V.length + B.length)
    (by
      rintro s ⟨A', U', V', B', rfl, h1, h2, h3, h4, h5⟩
      by_cases hij : U'.length = V'.length
      · refine .inr ⟨_, ?_, A', U', V', B', rfl, h1, h2, h3, hij, h5⟩
        have e1 : ieq (U'.length : Int) (V'.length : Int) = true := ieq_iff.2 (by omega)
        simp only [t50_0, e1]
      · have e1 : ieq (U'.length : Int) (V'.length : Int) = false := ieq_f.2 (by omega)
        have e2 : isub .i64 ((A.length + U.length : Nat) : Int) (U'.length : Int) = (A'.length : Int) := by rw [isub64 (by omega)]; omega
        rcases Nat.lt_or_ge V'.length U'.length with hlt | hge
        · have e3 : ilt (V'.length : Int) (U'.length : Int) = true := ilt_len hlt
          have e4 : isub .i64 (U'.length : Int) (V'.length : Int) = ((U'.drop V'.length).length : Int) := by rw [isub64 (by omega), List.length_drop]; omega
          have ht : (U'.take V'.length).length = V'.length := by rw [List.length_take]; omega
          have hd : (U'.drop V'.length).length = U'.length - V'.length := List.length_drop
          have k := swap22 (fu := fu) (A := A') (X := U'.take V'.length) (M := U'.drop V'.length) (Y := V') (B := B') ht (by omega) (by simp only [List.length_append, ht, hd]; omega)
          rw [ht, hd, show A'.length + V'.length + (U'.length - V'.length) = A.length + U.length by omega, List.append_assoc A', List.take_append_drop] at k
          refine .inl ⟨_, by simp only [t50_0, e1, e2, e3, k, e4]; rfl, ⟨A' ++ V', U'.drop V'.length, U'.take V'.length, B', by rw [ht], by rw [List.length_append, hd]; omega, ?_, by omega, by omega, by rw [List.length_append, hd, ht]; omega⟩, ?_⟩
          · rw [← h2, List.append_assoc (A' ++ V'), List.take_append_drop]
          · show ((((U'.drop V'.length).length : Nat) : Int) + (V'.length : Int)).toNat < ((U'.length : Int) + (V'.length : Int)).toNat
            omega
        · have e3 : ilt (V'.length : Int) (U'.length : Int) = false := ilt_f.2 (by omega)
          have ht : (V'.take (V'.length - U'.length)).length = V'.length - U'.length := by rw [List.length_take]; omega
          have hd : (V'.drop (V'.length - U'.length)).length = U'.length := by rw [List.length_drop]; omega
          have e4 : isub .i64 (V'.length : Int) (U'.length : Int) = ((V'.take (V'.length - U'.length)).length : Int) := by rw [isub64 (by omega), ht]; omega
          have e5 : isub .i64 (iadd .i64 ((A.length + U.length : Nat) : Int) (V'.length : Int)) (U'.length : Int) = ((A'.length + U'.length + (V'.length - U'.length) : Nat) : Int) := by rw [iadd64 (by omega), isub64 (by omega)]; omega
          have k := swap22 (fu := fu) (A := A') (X := U') (M := V'.take (V'.length - U'.length)) (Y := V'.drop (V'.length - U'.length)) (B := B') hd.symm (by omega) (by simp only [List.length_append, ht, hd]; omega)
          rw [ht, List.append_assoc (A' ++ U'), List.take_append_drop] at k
          refine .inl ⟨_, by simp only [t50_0, e1, e2, e3, e5, k, e4]; rfl, ⟨A', V'.drop (V'.length - U'.length), V'.take (V'.length - U'.length), U' ++ B', by rw [hd]; simp only [List.append_assoc], by omega, ?_, by omega, by omega, by rw [List.length_append, hd, ht]; omega⟩, ?_⟩
          · rw [← h2]
            have : V'.take (V'.length - U'.length) ++ V'.drop (V'.length - U'.length) = V' := List.take_append_drop _ _
            calc A' ++ V'.take (V'.length - U'.length) ++ V'.drop (V'.length - U'.length) ++ (U' ++ B') = A' ++ (V'.take (V'.length - U'.length) ++ V'.drop (V'.length - U'.length)) ++ U' ++ B' := by simp only [List.append_assoc]
              _ = _ := by rw [this]
          · show ((U'.length : Int) + (((V'.take (V'.length - U'.length)).length : Nat) : Int)).toNat < ((U'.length : Int) + (V'.length : Int)).toNat
            omega)
    fu _ ⟨A, U, V, B, rfl, rfl, rfl, hU', hV', rfl⟩ (by show ((U.length : Int) + (V.length : Int)).toNat < fu; omega)
  have k := swap22 (fu := fu) (A := A') (X := U') (M := []) (Y := V') (B := B') p5 (by omega) (by simp only [List.length_append, List.length_nil]; omega)
  simp only [List.append_nil, List.length_nil, Nat.add_zero] at k
  have e0 : isub .i64 ((A.length + U.length : Nat) : Int) (A.length : Int) = (U.length : Int) := by rw [isub64 (by omega)]; omega
  have e1 : isub .i64 ((A.length + U.length + V.length : Nat) : Int) ((A.length + U.length : Nat) : Int) = (V.length : Int) := by rw [isub64 (by omega)]; omega
  have e2 : isub .i64 ((A.length + U.length : Nat) : Int) (U'.length : Int) = (A'.length : Int) := by rw [isub64 (by omega)]; omega
  rw [← p2] at k
  unfold s50
  rw [e0, e1, he, p1]
  simp only [e2, k]
  rw [p3]
end Go.G
