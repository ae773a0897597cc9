import Derived.Test.YtmhleddbamfheaaP18h
set_option linter.unusedVariables false
set_option linter.unusedSimpArgs false
namespace Go.G
set_option maxRecDepth 100000
theorem deriveS_cases (n : Int) (l : List Cap18) (k o : Int) :
    ((deriveS n l k o).2.2.1 ≠ 0 ∧ (deriveS n l k o).1 = noT ∧ (deriveS n l k o).2.1 = 0) ∨
    (validB n l = true ∧ ∃ x, x ∈ l ∧ l.find? (byID k) = some x ∧ x.ID = k ∧ 1 ≤ o ∧ o < 32 ∧ l.any (isHas o x.Right_Type x.Right_Peer x.Right_Code) = false ∧ l.length ≠ 400 ∧ n ≠ 1099511627776 ∧
      deriveS n l k o = ((n + 1, (l ++ [⟨n, k, o, x.Right_Type, x.Right_Peer, x.Right_Code⟩], ())), (n, (0, ())))) := by
  unfold deriveS
  cases hv : validB n l with
  | false => exact .inl (by simp)
  | true =>
    simp only [Bool.not_true, cond_false]
    cases hf : l.find? (byID k) with
    | none => exact .inl (by simp)
    | some x =>
      simp only
      cases c1 : ilt o 1 with
      | true => exact .inl (by simp)
      | false =>
        cases c2 : ile 32 o with
        | true => exact .inl (by simp)
        | false =>
          cases c3 : l.any (isHas o x.Right_Type x.Right_Peer x.Right_Code) with
          | true => exact .inl (by simp)
          | false =>
            by_cases c4 : l.length = 400
            · exact .inl (by simp [c4])
            · by_cases c5 : n = 1099511627776
              · exact .inl (by simp [c5])
              · rw [ilt_f] at c1
                rw [ile_f] at c2
                have hk : byID k x = true := List.find?_some hf
                simp only [byID, ieq_iff] at hk
                exact .inr ⟨trivial, x, List.mem_of_find?_eq_some hf, rfl, hk, c1, c2, c3, c4, c5, by simp [c4, c5]⟩
theorem deriveS_len (n : Int) (l : List Cap18) (k o : Int) : (deriveS n l k o).1.2.1.length ≤ l.length + 1 := by
  rcases deriveS_cases n l k o with ⟨_, h, _⟩ | ⟨_, x, _, _, _, _, _, _, _, _, h⟩
  · rw [h]; simp
  · rw [h]; simp
theorem deriveS_valid (n : Int) (l : List Cap18) (k o : Int) (h : (deriveS n l k o).2.2.1 = 0) : validB (deriveS n l k o).1.1 (deriveS n l k o).1.2.1 = true := by
  rcases deriveS_cases n l k o with ⟨h1, _, _⟩ | ⟨hv, x, hx, _, hk, h1, h2, h3, h4, h5, e⟩
  · exact absurd h h1
  · rw [e]
    have := derive_valid hv hx ⟨by omega, h2⟩ h5 h4 h3
    rw [hk] at this
    exact this
theorem revokeS_cases (n : Int) (l : List Cap18) (k : Int) :
    ((revokeS n l k).2.1 ≠ 0 ∧ (revokeS n l k).1 = noT) ∨ (validB n l = true ∧ ∃ x, l.find? (byID k) = some x ∧ x ∈ l ∧ x.ID = k ∧ revokeS n l k = ((n, (specW (fun _ => false) l (fun j => ieq j k), ())), (0, ()))) := by
  unfold revokeS
  cases hv : validB n l with
  | false => exact .inl (by simp)
  | true =>
    simp only [Bool.not_true, cond_false]
    cases hf : l.find? (byID k) with
    | none => exact .inl (by simp)
    | some x =>
      have hk : byID k x = true := List.find?_some hf
      simp only [byID, ieq_iff] at hk
      exact .inr ⟨trivial, x, rfl, List.mem_of_find?_eq_some hf, hk, rfl⟩
theorem revokeS_len (n : Int) (l : List Cap18) (k : Int) : (revokeS n l k).1.2.1.length ≤ l.length := by
  rcases revokeS_cases n l k with ⟨_, h⟩ | ⟨_, x, _, _, _, h⟩
  · rw [h]; simp
  · rw [h]; exact (specW_sub _ _ _).length_le
theorem revokeS_valid (n : Int) (l : List Cap18) (k : Int) (h : (revokeS n l k).2.1 = 0) : validB (revokeS n l k).1.1 (revokeS n l k).1.2.1 = true := by
  rcases revokeS_cases n l k with ⟨h1, _⟩ | ⟨hv, x, _, _, _, e⟩
  · exact absurd h h1
  · rw [e]; exact specW_validB _ n l _ hv
theorem leaveS_cases (n : Int) (l : List Cap18) (o : Int) :
    ((leaveS n l o).2.1 ≠ 0 ∧ (leaveS n l o).1 = noT) ∨ (validB n l = true ∧ o ≠ 0 ∧ leaveS n l o = ((n, (specW (fun x => ieq x.Owner o) l (fun _ => false), ())), (0, ()))) := by
  unfold leaveS
  cases hv : validB n l with
  | false => exact .inl (by simp)
  | true =>
    cases ho : ieq o 0 with
    | true => exact .inl (by simp)
    | false => exact .inr ⟨rfl, ieq_f.1 ho, rfl⟩
theorem leaveS_len (n : Int) (l : List Cap18) (k : Int) : (leaveS n l k).1.2.1.length ≤ l.length := by
  rcases leaveS_cases n l k with ⟨_, h⟩ | ⟨_, _, h⟩
  · rw [h]; simp
  · rw [h]; exact (specW_sub _ _ _).length_le
theorem leaveS_valid (n : Int) (l : List Cap18) (k : Int) (h : (leaveS n l k).2.1 = 0) : validB (leaveS n l k).1.1 (leaveS n l k).1.2.1 = true := by
  rcases leaveS_cases n l k with ⟨h1, _⟩ | ⟨hv, _, e⟩
  · exact absurd h h1
  · rw [e]; exact specW_validB _ n l _ hv
theorem enterS_cases (n : Int) (l : List Cap18) (o : Int) :
    ((enterS n l o).2.1 ≠ 0 ∧ (enterS n l o).1 = noT) ∨ (validB n l = true ∧ 16 ≤ o ∧ o < 32 ∧ (l.filter isRoot).any (hasR l o) = false ∧ l.length + (l.filter isRoot).length ≤ 400 ∧ n + (l.filter isRoot).length ≤ 1099511627776 ∧
      enterS n l o = ((n + (l.filter isRoot).length, (l ++ addR o n (l.filter isRoot), ())), (0, ()))) := by
  unfold enterS
  cases hv : validB n l with
  | false => exact .inl (by simp)
  | true =>
    cases c1 : ilt o 16 with
    | true => exact .inl (by simp)
    | false =>
      cases c2 : ile 32 o with
      | true => exact .inl (by simp)
      | false =>
        cases c3 : (l.filter isRoot).any (hasR l o) with
        | true => exact .inl (by simp)
        | false =>
          by_cases c4 : 400 < l.length + (l.filter isRoot).length
          · exact .inl (by simp [c4])
          · by_cases c5 : 1099511627776 < n + (l.filter isRoot).length
            · exact .inl (by simp [c5])
            · rw [ilt_f] at c1
              rw [ile_f] at c2
              exact .inr ⟨rfl, c1, c2, rfl, by omega, by omega, by simp [c4, c5]⟩
theorem enterS_len (n : Int) (l : List Cap18) (o : Int) : (enterS n l o).1.2.1.length ≤ 2 * l.length := by
  rcases enterS_cases n l o with ⟨_, h⟩ | ⟨_, _, _, _, _, _, h⟩
  · rw [h]; simp
  · rw [h]
    have : (l.filter isRoot).length ≤ l.length := List.length_filter_le _ _
    simp only [List.length_append, addR_len]
    omega
theorem enterS_valid (n : Int) (l : List Cap18) (o : Int) (h : (enterS n l o).2.1 = 0) : validB (enterS n l o).1.1 (enterS n l o).1.2.1 = true := by
  rcases enterS_cases n l o with ⟨h1, _⟩ | ⟨hv, h1, h2, h3, h4, h5, e⟩
  · exact absurd h h1
  · rw [e]; exact enter_valid hv ⟨h1, h2⟩ h3 h4 h5
end Go.G
