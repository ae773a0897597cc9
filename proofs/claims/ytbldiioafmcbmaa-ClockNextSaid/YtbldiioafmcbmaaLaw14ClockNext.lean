import Derived.Test.YtbldiioafmcbmaaP14k
set_option linter.unusedVariables false
set_option linter.unusedSimpArgs false
namespace Go.G
set_option maxRecDepth 100000
theorem law6_at (fu : Nat) (hf : 1000 < fu) (ha : s9 fu = some (true, ())) (n : Int) (l : List Alarm14) : s6 fu n l = some (true, ()) := by
  unfold s6
  rw [ha]
  simp only
  cases h : ilt 50 (dlen l) with
  | true => rfl
  | false =>
    rw [ilt_f, dlen_def] at h
    simp only
    rw [validR fu n l (by omega) (by omega)]
    cases hv : validB n l with
    | false => rfl
    | true =>
      simp only
      rw [to14 fu n l (by omega) (by omega)]
      simp only
      rw [next14 fu n l (by omega) (by omega)]
      simp only
      by_cases hl : l = []
      · subst hl; rfl
      · obtain ⟨h1, h2, h3⟩ := next_spec hl
        rw [h1]
        simp only
        generalize (nextF l).1 = m at h2 h3
        obtain ⟨e, k1, k2⟩ := iter_meas (step := t6_4 fu) (fun s => ∃ (i : Nat) (n : Int) (l : List Alarm14), s = ((), (m, ((i : Int), ((n, (l, ())), ())))) ∧ i ≤ 60 ∧ l.length ≤ 50 ∧ validB n l = true ∧ n ≤ m ∧ m ≤ 1099511627776 ∧ (n < m → (∀ x ∈ l, m ≤ x.At) ∧ ∃ x ∈ l, x.At = m))
          (fun s => (60 - s.2.2.1).toNat) (fun e => ∃ a, e = .inl a)
          (fun s ⟨i, n, l, hs, hi, hlen, hv, hnm, hm, hx⟩ => by
            subst hs
            cases c1 : ilt (i : Int) 60 with
            | false => right; exact ⟨.inl (((n, (l, ())), ())), by simp only [t6_4, c1], ⟨_, rfl⟩⟩
            | true =>
              cases c2 : ilt n m with
              | false => right; exact ⟨.inl (((n, (l, ())), ())), by simp only [t6_4, c1, c2], ⟨_, rfl⟩⟩
              | true =>
                left
                rw [ilt_iff] at c1 c2
                obtain ⟨x1, x, x2, x3⟩ := hx c2
                have hr : (rest (n + 1) l).length ≤ l.length := List.length_filter_le _ _
                have hbool : beqb (ilt 0 (dlen (dueIDs (n + 1) l))) (ieq (n + 1) m) = true := by
                  by_cases hq : n + 1 = m
                  · have : x.ID ∈ dueIDs (n + 1) l := mem_due.2 ⟨x, x2, by omega, rfl⟩
                    have : 0 < (dueIDs (n + 1) l).length := List.length_pos_of_mem this
                    rw [ieq_iff.2 hq, ilt_iff.2 (by rw [dlen_def]; omega)]
                    rfl
                  · have : dueIDs (n + 1) l = [] := by
                      apply List.eq_nil_iff_forall_not_mem.2
                      intro i hi
                      obtain ⟨y, y1, y2, y3⟩ := mem_due.1 hi
                      have := x1 y y1
                      omega
                    rw [ieq_f.2 hq, this]
                    rfl
                have htv := tickF_valid n l
                rw [tick_ok hv (by omega)] at htv
                refine ⟨((), (m, (((i + 1 : Nat) : Int), ((n + 1, (rest (n + 1) l, ())), ())))), ?_, ⟨i + 1, n + 1, rest (n + 1) l, rfl, by omega, by omega, htv, by omega, hm, fun hlt => ⟨fun y hy => x1 y (mem_rest.1 hy).1, x, mem_rest.2 ⟨x2, by omega⟩, x3⟩⟩, ?_⟩
                · simp only [t6_4, ilt_iff.2 c1, ilt_iff.2 c2, tick14 fu n l (by omega) (by omega), tick_ok hv (by omega), stT, hbool, iadd1 (show i < 9223372036854775807 by omega)]
                · simp only; omega) fu ((), (m, (0, ((n, (l, ())), ())))) ⟨0, n, l, rfl, by omega, by omega, hv, by
              obtain ⟨x, x2, x3⟩ := h3
              have := (((valid_iff n l).1 hv).1.1 x x2).2
              omega, by
              obtain ⟨x, x2, x3⟩ := h3
              have := (((valid_iff n l).1 hv).1.1 x x2).2
              omega, fun _ => ⟨h2, h3⟩⟩ (by simp only; omega)
        obtain ⟨a, rfl⟩ := k2
        rw [k1]
/-- ClockNext is true. -/
theorem law6 (a0_Now : Int) (a0_Alarms : List Alarm14) (_ : WfA A6 ((a0_Now, a0_Alarms, ()), ())) : s6 FU a0_Now a0_Alarms = some (true, ()) := law6_at FU (by decide) aw14 _ _
end Go.G
