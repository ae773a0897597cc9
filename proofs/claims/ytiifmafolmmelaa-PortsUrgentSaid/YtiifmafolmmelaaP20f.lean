import Derived.Test.YtiifmafolmmelaaP20e
set_option linter.unusedVariables false
set_option linter.unusedSimpArgs false
namespace Go.G
set_option maxRecDepth 100000
set_option maxHeartbeats 2000000
theorem adjQ_pw {q : List Msg20} {p : List Pair20} : adjQ q p = true ↔ (∀ m ∈ q, propB m = true ∧ 1 ≤ m.Seq ∧ m.Seq ≤ lastP p m.Src m.Dst) ∧ q.Pairwise (fun x m => x.Src = m.Src → x.Dst = m.Dst → x.Seq < m.Seq) := by
  rw [adjQ_iff]
  simp only [okQ_iff]
  constructor
  · intro h
    refine ⟨fun m hm => ?_, ?_⟩
    · obtain ⟨i, hi⟩ := List.getElem?_of_mem hm
      obtain ⟨h1, _, h3, h4⟩ := h i m hi
      exact ⟨h1, h3, h4⟩
    · rw [List.pairwise_iff_getElem]
      intro i j hi hj hij
      refine (h j _ (List.getElem?_eq_getElem hj)).2.1 _ ?_
      rw [List.mem_take_iff_getElem]
      exact ⟨i, by omega, rfl⟩
  · rintro ⟨h1, h2⟩ i m hi
    have hlt := getElem?_lt hi
    obtain ⟨k1, k2, k3⟩ := h1 m (List.mem_of_getElem? hi)
    refine ⟨k1, fun x hx => ?_, k2, k3⟩
    rw [List.mem_take_iff_getElem] at hx
    obtain ⟨j, hj, rfl⟩ := hx
    rw [List.getElem?_eq_getElem hlt] at hi
    cases hi
    exact List.pairwise_iff_getElem.1 h2 j i (by omega) hlt (by omega)
theorem valid_sub {q q' : List Msg20} {p : List Pair20} (hv : validB q p = true) (hs : List.Sublist q' q) : validB q' p = true := by
  obtain ⟨h1, h2, h3⟩ := valid_iff.1 hv
  rw [adjQ_pw] at h2
  rw [valid_iff, adjQ_pw]
  exact ⟨h1, ⟨fun m hm => h2.1 m (hs.subset hm), h2.2.sublist hs⟩, Nat.le_trans hs.length_le h3⟩
end Go.G
