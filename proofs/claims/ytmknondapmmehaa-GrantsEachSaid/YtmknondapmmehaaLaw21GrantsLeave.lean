import Derived.Test.YtmknondapmmehaaLaw21GrantsRevoke
set_option linter.unusedVariables false
set_option linter.unusedSimpArgs false
namespace Go.G
set_option maxRecDepth 100000
theorem leave_none {t : List Grant21} {g : Int} {x : Grant21} (h : x ∈ withoutL t (fun x => ieq x.Grantee g)) : ieq x.Grantee g = false ∧ (ieq x.Owner g = true → ieq g 4 = true) := by
  have hs := mem_withoutL.1 h
  have hno : ∀ y, Sup (t.filter (fun x => !ieq x.Grantee g)) y → ieq y.Grantee g = false := fun y hy => by
    have := (List.mem_filter.1 hy.mem).2
    simpa using this
  refine ⟨hno x hs, fun ho => ?_⟩
  rw [ieq_iff] at ho
  cases hs with
  | base _ hp => rw [isP_iff] at hp; rw [ieq_iff]; omega
  | step _ h2 h3 =>
    have := hno _ h2
    obtain ⟨_, s2, _⟩ := sup1_iff.1 h3
    rw [ieq_f] at this
    exact absurd (s2.trans ho) this
theorem law9_at (fu : Nat) (hf : 1000 < fu) (ha : s11 fu = some (true, ())) (t : List Grant21) (g : Int) : s9 fu t g = some (true, ()) := by
  unfold s9
  rw [ha]
  simp only
  cases h : ilt 60 (dlen t) with
  | true => rfl
  | false =>
    rw [ilt_f, dlen_def] at h
    simp only [to21 fu t (show t.length < fu by omega) (by omega), leave21 fu t g (by omega) (by omega)]
    rcases leaveF_cases t g with ⟨he, hv⟩ | ⟨he, hv⟩
    · simp only [he, show ieq 1 0 = false from rfl, validR21 fu t (by omega) (by omega), hv]
    · have hl := withoutL_len t (fun x => ieq x.Grantee g)
      have hloop : iter (t9_3 fu) fu (g, (withoutL t (fun x => ieq x.Grantee g), ((dlen (withoutL t (fun x => ieq x.Grantee g))), (0, ())))) = some (.inl (g, (withoutL t (fun x => ieq x.Grantee g), ()))) := by
        have := iter_run (step := t9_3 fu) (fu := fu) (fun j => (g, (withoutL t (fun x => ieq x.Grantee g), ((dlen (withoutL t (fun x => ieq x.Grantee g))), ((j : Int), ()))))) (n := (withoutL t (fun x => ieq x.Grantee g)).length) (e := .inl (g, (withoutL t (fun x => ieq x.Grantee g), ())))
          (fun j hj => by
            have hy : (withoutL t (fun x => ieq x.Grantee g))[j]? = some (withoutL t (fun x => ieq x.Grantee g))[j] := List.getElem?_eq_getElem hj
            obtain ⟨q1, q2⟩ := leave_none (List.getElem_mem hj)
            simp only [t9_3, dlen_def, dat_nat, hy, ilt_len hj, q1, iadd1 (show j < 9223372036854775807 by omega)]
            cases ho : ieq (withoutL t (fun x => ieq x.Grantee g))[j].Owner g with
            | false => rfl
            | true => rw [q2 ho])
          (by simp only [t9_3, dlen_def, ilt_end]) (by omega)
        exact this
      have hof : ofF (withoutL t (fun x => ieq x.Grantee g)) g = [] := by
        unfold ofF ofL
        rw [withoutL_valid hv]
        have : (withoutL t (fun x => ieq x.Grantee g)).filter (fun x => ieq x.Grantee g) = [] := by
          rw [List.filter_eq_nil_iff]
          intro x hx
          simp [(leave_none hx).1]
        rw [this]
        rfl
      simp only [he, ieq_iff.2 rfl, hloop, of21 fu (withoutL t (fun x => ieq x.Grantee g)) g (by omega) (by omega), hof]
      rfl
/-- GrantsLeave is true. -/
theorem law9 (a0 : List Grant21) (a1 : Int) (_ : WfA A9 (a0, a1, ())) : s9 FU a0 a1 = some (true, ()) := law9_at FU (by decide) aw21 _ _
end Go.G
