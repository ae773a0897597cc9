import Derived.Test.YtmknondapmmehaaLaw21GrantsLeave
set_option linter.unusedVariables false
set_option linter.unusedSimpArgs false
namespace Go.G
set_option maxRecDepth 100000
abbrev toG (g : Int) (x : Grant21) : Bool := ieq x.Grantee g
theorem each_step {u : List Grant21} {g f : Int} (hv : validB u = true) : withoutL (withoutL u (kyG g f)) (fun x => ieq x.Grantee g) = withoutL u (fun x => ieq x.Grantee g) := by
  have hv' := withoutL_valid (q := kyG g f) hv
  apply srt_ext ordG _ _ (valid_iff.1 (withoutL_valid hv')).2.1 (valid_iff.1 (withoutL_valid hv)).2.1
  intro y
  rw [mem_withoutL, mem_withoutL]
  constructor
  · refine Sup.mono fun z hz => ?_
    obtain ⟨h1, h2⟩ := List.mem_filter.1 hz
    exact List.mem_filter.2 ⟨(List.mem_filter.1 (mem_withoutL.1 h1).mem).1, h2⟩
  · intro hs
    have hsub : ∀ z ∈ u.filter (fun x => !ieq x.Grantee g), z ∈ u.filter (fun x => !kyG g f x) := fun z hz => by
      obtain ⟨h1, h2⟩ := List.mem_filter.1 hz
      refine List.mem_filter.2 ⟨h1, ?_⟩
      unfold kyG
      cases e : ieq z.Grantee g with
      | false => rfl
      | true => rw [e] at h2; cases h2
    have hin : ∀ z, Sup (u.filter (fun x => !ieq x.Grantee g)) z → z ∈ (withoutL u (kyG g f)).filter (fun x => !ieq x.Grantee g) := fun z hz =>
      List.mem_filter.2 ⟨mem_withoutL.2 (hz.mono hsub), (List.mem_filter.1 hz.mem).2⟩
    induction hs with
    | base hm hp => exact .base (hin _ (.base hm hp)) hp
    | step hm h2 h3 ih => exact .step (hin _ (.step hm h2 h3)) ih h3
theorem without_none {u : List Grant21} {g : Int} (hv : validB u = true) (hn : ofL u g = []) : withoutL u (fun x => ieq x.Grantee g) = u := by
  have h1 : ∀ x ∈ u, ieq x.Grantee g = false := fun x hx => by
    unfold ofL at hn
    rw [List.map_eq_nil_iff, List.filter_eq_nil_iff] at hn
    simpa using hn x hx
  have h2 : u.filter (fun x => !ieq x.Grantee g) = u := by
    rw [List.filter_eq_self]
    intro x hx
    simp [h1 x hx]
  unfold withoutL
  rw [h2, List.filter_eq_self]
  intro x hx
  exact supB_iff.2 ((valid_iff.1 hv).2.2.2 x hx)
theorem rev_less {u : List Grant21} {g f : Int} {x : Grant21} (hx : x ∈ u) (hk : kyG g f x = true) : (withoutL u (kyG g f)).length < u.length := by
  have h1 : (withoutL u (kyG g f)).length ≤ (u.filter (fun x => !kyG g f x)).length := List.length_filter_le _ _
  have h2 : (u.filter (fun x => !kyG g f x)).length < u.length := by
    rw [List.length_filter_lt_length_iff_exists]
    exact ⟨x, hx, by simp [hk]⟩
  omega
theorem law10_at (fu : Nat) (hf : 1000 < fu) (ha : s11 fu = some (true, ())) (t : List Grant21) (g : Int) : s10 fu t g = some (true, ()) := by
  unfold s10
  rw [ha]
  simp only
  cases h : ilt 60 (dlen t) with
  | true => rfl
  | false =>
    rw [ilt_f, dlen_def] at h
    simp only
    rw [validR21 fu t (by omega) (by omega)]
    cases hv : validB t with
    | false => rfl
    | true =>
      have hlf : leaveF t g = (withoutL t (fun x => ieq x.Grantee g), 0, ()) := by unfold leaveF; rw [hv]; rfl
      simp only [to21 fu t (show t.length < fu by omega) (by omega), leave21 fu t g (by omega) (by omega), hlf]
      obtain ⟨e, q1, q2⟩ := iter_meas (step := t10_5 fu) (fun s => ∃ (i : Nat) (u : List Grant21), s = (g, (withoutL t (fun x => ieq x.Grantee g), (0, (u, ((dlen t), ((i : Int), ())))))) ∧ i + u.length ≤ t.length ∧ validB u = true ∧ withoutL u (fun x => ieq x.Grantee g) = withoutL t (fun x => ieq x.Grantee g))
        (fun s => (dlen t - s.2.2.2.2.2.1).toNat) (fun e => ∃ u, e = .inl (g, (withoutL t (fun x => ieq x.Grantee g), (0, (u, ())))) ∧ u.length ≤ 60 ∧ validB u = true ∧ ofL u g = [] ∧ withoutL u (fun x => ieq x.Grantee g) = withoutL t (fun x => ieq x.Grantee g))
        (fun s ⟨i, u, hs, hl, hvu, hw⟩ => by
          subst hs
          by_cases hi : i < t.length
          · have hof : s27 fu u g = some (ofL u g, ()) := by
              rw [of21 fu u g (by omega) (by omega)]
              unfold ofF
              rw [hvu]
              rfl
            cases hz : ieq (dlen (ofL u g)) 0 with
            | true =>
              right
              refine ⟨_, by simp only [t10_5, dlen_def t, ilt_len hi, hof, hz], u, rfl, by omega, hvu, ?_, hw⟩
              rw [ieq_iff, dlen_def] at hz
              exact List.eq_nil_of_length_eq_zero (by omega)
            | false =>
              left
              have hz' := ieq_f.1 hz
              rw [dlen_def] at hz'
              have hq : iquo .i64 (dlen (ofL u g)) 2 = (((ofL u g).length / 2 : Nat) : Int) := by
                have hle : (ofL u g).length ≤ u.length := by unfold ofL; rw [List.length_map]; exact List.length_filter_le _ _
                rw [dlen_def]
                unfold iquo
                have e1 : ((ofL u g).length : Int).tdiv 2 = (((ofL u g).length / 2 : Nat) : Int) := by rw [Int.tdiv_eq_ediv_of_nonneg (by omega)]; omega
                rw [e1]
                exact wrap64 (by omega)
              have hlt : (ofL u g).length / 2 < (ofL u g).length := by omega
              have hat : (ofL u g)[(ofL u g).length / 2]? = some (ofL u g)[(ofL u g).length / 2] := List.getElem?_eq_getElem hlt
              have hmem := List.mem_of_getElem? hat
              generalize (ofL u g)[(ofL u g).length / 2] = f at hat hmem
              obtain ⟨x, hx, hxf⟩ := List.mem_map.1 hmem
              obtain ⟨hx1, hx2⟩ := List.mem_filter.1 hx
              have hk : kyG g f x = true := by unfold kyG; rw [hx2, ieq_iff.2 hxf]; rfl
              have hrev : revF u g f = (withoutL u (kyG g f), 0, ()) := by
                unfold revF
                rw [hvu, show u.any (kyG g f) = true from List.any_eq_true.2 ⟨x, hx1, hk⟩]
                rfl
              have hless := rev_less hx1 hk
              refine ⟨(g, (withoutL t (fun x => ieq x.Grantee g), (0, (withoutL u (kyG g f), ((dlen t), (((i + 1 : Nat) : Int), ())))))), ?_, ⟨i + 1, withoutL u (kyG g f), rfl, by omega, withoutL_valid hvu, by rw [each_step hvu, hw]⟩, by simp only [dlen_def]; omega⟩
              simp only [t10_5, dlen_def t, ilt_len hi, hof, hz, show ieq 2 0 = false from rfl, hq, dat_nat, hat, revoke21 fu u g f (by omega) (by omega), hrev, show ieq 0 0 = true from rfl, iadd1 (show i < 9223372036854775807 by omega)]
          · right
            have hu : u = [] := List.eq_nil_of_length_eq_zero (by omega)
            refine ⟨_, by simp only [t10_5, show ilt (i : Int) (dlen t) = false from ilt_f.2 (by rw [dlen_def]; omega)], u, rfl, by omega, hvu, by rw [hu]; rfl, hw⟩) fu (g, (withoutL t (fun x => ieq x.Grantee g), (0, (t, ((dlen t), (0, ())))))) ⟨0, t, rfl, by omega, hv, rfl⟩ (by simp only [dlen_def]; omega)
      obtain ⟨u, rfl, u1, u2, u3, u4⟩ := q2
      rw [without_none u2 u3] at u4
      have hofu : ofF u g = [] := by unfold ofF; rw [u2, u3]; rfl
      rw [← u4] at q1
      rw [← u4]
      simp only [q1, show ieq 0 0 = true from rfl, of21 fu u g (by omega) (by omega), hofu, show ieq (dlen ([] : List Int)) 0 = true from rfl, from21 fu u (by omega) (by omega), same21 fu u u (by omega) (by omega), decide_true]
/-- GrantsEach is true. -/
theorem law10 (a0 : List Grant21) (a1 : Int) (_ : WfA A10 (a0, a1, ())) : s10 FU a0 a1 = some (true, ()) := law10_at FU (by decide) aw21 _ _
end Go.G
