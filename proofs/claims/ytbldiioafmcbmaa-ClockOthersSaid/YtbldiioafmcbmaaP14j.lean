import Derived.Test.YtbldiioafmcbmaaP14i
set_option linter.unusedVariables false
set_option linter.unusedSimpArgs false
namespace Go.G
theorem tickF_len (n : Int) (l : List Alarm14) : (tickF n l).1.2.1.length ≤ l.length ∧ (tickF n l).2.1.length ≤ l.length := by
  unfold tickF
  cases (!validB n l || ieq n 1099511627776) with
  | true => exact ⟨by simp [stT], by simp⟩
  | false => exact ⟨List.length_filter_le _ _, by show (dueIDs (n + 1) l).length ≤ _; unfold dueIDs; rw [List.length_map]; exact List.length_filter_le _ _⟩
theorem tickF_valid (n : Int) (l : List Alarm14) : validB (tickF n l).1.1 (tickF n l).1.2.1 = true := by
  have h0 : validB 0 [] = true := by rw [valid_iff]; exact ⟨⟨by simp, by simp⟩, by omega, by omega, by simp⟩
  unfold tickF
  cases hc : (!validB n l || ieq n 1099511627776) with
  | true => exact h0
  | false =>
    simp only [Bool.or_eq_false_iff, Bool.not_eq_false', ieq_f] at hc
    obtain ⟨hV, e1, e2, e3⟩ := (valid_iff n l).1 hc.1
    show validB (n + 1) (rest (n + 1) l) = true
    rw [valid_iff]
    refine ⟨⟨fun x hx => ?_, hV.2.sublist List.filter_sublist⟩, by omega, by omega, by have := List.length_filter_le (fun x => !due (n + 1) x) l; unfold rest; omega⟩
    unfold rest at hx
    obtain ⟨hx1, hx2⟩ := List.mem_filter.1 hx
    obtain ⟨k1, k2, k3⟩ := hV.1 x hx1
    simp only [due, Bool.not_eq_true', ieq_f] at hx2
    exact ⟨k1, by omega, k3⟩
end Go.G
