import Derived.Test.YtffmffcnfhcgbaaP22f
set_option linter.unusedVariables false
set_option linter.unusedSimpArgs false
namespace Go.G
set_option maxRecDepth 100000
theorem both_at {l : List Timer22} {p q : Int} (h : p ≤ q) : sortD (l.filter (duB p)) ++ sortD ((l.filter (fun x => !duB p x)).filter (duB q)) = sortD (l.filter (duB q)) := by
  refine sortD_uni (asc_append.2 ⟨sortD_asc _, sortD_asc _, fun a ha b hb => ?_⟩) ?_
  · have ha := (List.mem_filter.1 ((sortD_perm _).mem_iff.1 ha)).2
    have hb := (List.mem_filter.1 (List.mem_filter.1 ((sortD_perm _).mem_iff.1 hb)).1).2
    simp only [duB, Bool.not_eq_true'] at ha hb
    rw [ile_iff] at ha
    rw [ile_f] at hb
    rw [ltD_f]
    omega
  · refine ((sortD_perm _).append (sortD_perm _)).trans ?_
    have e1 : l.filter (duB p) = (l.filter (duB q)).filter (duB p) := by
      rw [List.filter_filter]
      congr 1
      funext x
      unfold duB
      cases h1 : ile x.Due p with
      | false => rfl
      | true => rw [ile_iff] at h1; rw [ile_iff.2 (by omega)]; rfl
    have e2 : (l.filter (fun x => !duB p x)).filter (duB q) = (l.filter (duB q)).filter (fun x => !duB p x) := by
      rw [List.filter_filter, List.filter_filter]
      congr 1
      funext x
      exact Bool.and_comm _ _
    rw [e1, e2]
    exact List.filter_append_perm _ _
theorem late_at {l : List Timer22} {p q : Int} (h : p ≤ q) : (l.filter (fun x => !duB p x)).filter (fun x => !duB q x) = l.filter (fun x => !duB q x) := by
  rw [List.filter_filter]
  congr 1
  funext x
  unfold duB
  cases h1 : ile x.Due q with
  | true => simp
  | false => rw [ile_f] at h1; rw [ile_f.2 (by omega : p < x.Due)]; rfl

theorem min_mem (x : Timer22) : ∀ r : List Timer22, r.foldl minF x ∈ x :: r ∧ ∀ y ∈ x :: r, (r.foldl minF x).Due ≤ y.Due := by
  intro r
  induction r generalizing x with
  | nil => exact ⟨by simp, by simp⟩
  | cons z r ih =>
    obtain ⟨h1, h2⟩ := ih (minF x z)
    rw [List.foldl_cons]
    have hm : (minF x z = z ∧ z.Due < x.Due) ∨ (minF x z = x ∧ x.Due ≤ z.Due) := by
      unfold minF
      cases h : ilt z.Due x.Due with
      | true => exact .inl ⟨rfl, ilt_iff.1 h⟩
      | false => exact .inr ⟨rfl, ilt_f.1 h⟩
    refine ⟨?_, fun y hy => ?_⟩
    · rcases List.mem_cons.1 h1 with h | h
      · rw [h]; rcases hm with ⟨e, _⟩ | ⟨e, _⟩ <;> rw [e] <;> simp
      · simp [h]
    · rcases List.mem_cons.1 hy with rfl | hy
      · have := h2 (minF y z) (by simp)
        rcases hm with ⟨e, h⟩ | ⟨e, h⟩ <;> rw [e] at this ⊢ <;> omega
      · rcases List.mem_cons.1 hy with rfl | hy
        · have := h2 (minF x y) (by simp)
          rcases hm with ⟨e, h⟩ | ⟨e, h⟩ <;> rw [e] at this ⊢ <;> omega
        · exact h2 y (by simp [hy])
end Go.G
