import Derived.Test.YtmknondapmmehaaP21e
import Derived.Test.YtmknondapmmehaaLaw21GrantsHas
set_option linter.unusedVariables false
set_option linter.unusedSimpArgs false
namespace Go.G
set_option maxRecDepth 100000
theorem putG_valid {t : List Grant21} {x : Grant21} (hv : validB t = true) (hp : propB x = true) (hn : t.any (fun a => same ltG a x) = false) (hh : (isP x || hasB t x.Owner x.Frame x.Rights) = true) (hl : t.length < 200) : validB (putS ltG x t) = true := by
  obtain ⟨v1, v2, v3, v4⟩ := valid_iff.1 hv
  rw [valid_iff]
  refine ⟨fun y hy => ?_, srt_putS ordG v2 x, by rw [putS_len, noS_none hn]; omega, fun y hy => ?_⟩
  · rcases mem_putS.1 hy with rfl | hy
    · exact hp
    · exact v1 y hy.1
  · rcases mem_putS.1 hy with rfl | hy
    · rw [← supB_iff, sup_put hv hp hn, hh]
    · exact (v4 y hy.1).mono (put_sub hn)
theorem nil_valid : validB [] = true := by rw [valid_iff]; exact ⟨by simp, by simp [Srt], by simp, by simp⟩
theorem giveF_cases (t : List Grant21) (x : Grant21) : (∃ c, c ≠ 0 ∧ giveF t x = ([], c, ())) ∨
    (giveF t x = (putS ltG x t, 0, ()) ∧ validB t = true ∧ propB x = true ∧ t.any (fun a => same ltG a x) = false ∧ (isP x || hasB t x.Owner x.Frame x.Rights) = true ∧ t.length < 200) := by
  unfold giveF
  cases validB t with
  | false => exact .inl ⟨1, by decide, rfl⟩
  | true =>
    cases propB x with
    | false => exact .inl ⟨2, by decide, rfl⟩
    | true =>
      cases t.any (fun a => same ltG a x) with
      | true => exact .inl ⟨9, by decide, rfl⟩
      | false =>
        cases (isP x || hasB t x.Owner x.Frame x.Rights) with
        | false => exact .inl ⟨10, by decide, rfl⟩
        | true =>
          cases h : ile 200 (dlen t) with
          | true => exact .inl ⟨6, by decide, rfl⟩
          | false =>
            rw [ile_f, dlen_def] at h
            exact .inr ⟨rfl, rfl, rfl, rfl, rfl, by omega⟩
theorem giveF_valid (t : List Grant21) (x : Grant21) : validB (giveF t x).1 = true := by
  rcases giveF_cases t x with ⟨c, _, he⟩ | ⟨he, h1, h2, h3, h4, h5⟩
  · rw [he]; exact nil_valid
  · rw [he]; exact putG_valid h1 h2 h3 h4 h5
theorem giveF_len (t : List Grant21) (x : Grant21) : (giveF t x).1.length ≤ t.length + 1 := by
  rcases giveF_cases t x with ⟨c, _, he⟩ | ⟨he, h1, h2, h3, h4, h5⟩
  · rw [he]; simp
  · rw [he]
    show (putS ltG x t).length ≤ _
    rw [putS_len, noS_none h3]
    omega
theorem law3_at (fu : Nat) (hf : 1000 < fu) (ha : s11 fu = some (true, ())) (t : List Grant21) (x : Grant21) : s3 fu t x.Owner x.Grantee x.Frame x.Rights = some (true, ()) := by
  unfold s3
  rw [ha]
  simp only
  cases h : ilt 60 (dlen t) with
  | true => rfl
  | false =>
    rw [ilt_f, dlen_def] at h
    have hlen := giveF_len t x
    simp only [to21 fu t (show t.length < fu by omega) (by omega), give21 fu t x (by omega) (by omega), giveR21 fu t x (by omega) (by omega), ieq_iff.2 rfl, from21 fu (giveF t x).1 (by omega) (by omega), same21 fu (giveF t x).1 (giveF t x).1 (by omega) (by omega), decide_true,
      valid21 fu t (by omega) (by omega), validR21 fu t (by omega) (by omega), valid21 fu (giveF t x).1 (by omega) (by omega), giveF_valid]
    cases validB t <;> rfl
/-- GrantsGive is true. -/
theorem law3 (a0 : List Grant21) (a1_Owner : Int) (a1_Grantee : Int) (a1_Frame : Int) (a1_Rights : Int) (_ : WfA A3 (a0, (a1_Owner, a1_Grantee, a1_Frame, a1_Rights, ()), ())) : s3 FU a0 a1_Owner a1_Grantee a1_Frame a1_Rights = some (true, ()) := law3_at FU (by decide) aw21 a0 ⟨a1_Owner, a1_Grantee, a1_Frame, a1_Rights⟩
end Go.G
