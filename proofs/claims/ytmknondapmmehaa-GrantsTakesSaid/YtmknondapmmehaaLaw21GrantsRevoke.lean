import Derived.Test.YtmknondapmmehaaP21g
import Derived.Test.YtmknondapmmehaaLaw21GrantsGive
set_option linter.unusedVariables false
set_option linter.unusedSimpArgs false
namespace Go.G
set_option maxRecDepth 100000
theorem revF_cases (t : List Grant21) (g f : Int) : (∃ c, c ≠ 0 ∧ revF t g f = ([], c, ())) ∨ (revF t g f = (withoutL t (kyG g f), 0, ()) ∧ validB t = true ∧ t.any (kyG g f) = true) := by
  unfold revF
  cases validB t with
  | false => exact .inl ⟨1, by decide, rfl⟩
  | true =>
    cases t.any (kyG g f) with
    | false => exact .inl ⟨8, by decide, rfl⟩
    | true => exact .inr ⟨rfl, rfl, rfl⟩
theorem leaveF_cases (t : List Grant21) (g : Int) : (leaveF t g = ([], 1, ()) ∧ validB t = false) ∨ (leaveF t g = (withoutL t (fun x => ieq x.Grantee g), 0, ()) ∧ validB t = true) := by
  unfold leaveF
  cases validB t with
  | false => exact .inl ⟨rfl, rfl⟩
  | true => exact .inr ⟨rfl, rfl⟩
theorem revF_ok (t : List Grant21) (g f : Int) : validB (revF t g f).1 = true ∧ (revF t g f).1.length ≤ t.length := by
  rcases revF_cases t g f with ⟨c, _, he⟩ | ⟨he, h1, _⟩
  · rw [he]; exact ⟨nil_valid, by simp⟩
  · rw [he]; exact ⟨withoutL_valid h1, withoutL_len _ _⟩
theorem leaveF_ok (t : List Grant21) (g : Int) : validB (leaveF t g).1 = true ∧ (leaveF t g).1.length ≤ t.length := by
  rcases leaveF_cases t g with ⟨he, _⟩ | ⟨he, h1⟩
  · rw [he]; exact ⟨nil_valid, by simp⟩
  · rw [he]; exact ⟨withoutL_valid h1, withoutL_len _ _⟩
theorem law7_at (fu : Nat) (hf : 1000 < fu) (ha : s11 fu = some (true, ())) (t : List Grant21) (g f : Int) : s7 fu t g f = some (true, ()) := by
  unfold s7
  rw [ha]
  simp only
  cases h : ilt 60 (dlen t) with
  | true => rfl
  | false =>
    rw [ilt_f, dlen_def] at h
    obtain ⟨h1, h2⟩ := revF_ok t g f
    obtain ⟨h3, h4⟩ := leaveF_ok t g
    simp only [to21 fu t (show t.length < fu by omega) (by omega), revoke21 fu t g f (by omega) (by omega), revokeR21 fu t g f (by omega) (by omega), leave21 fu t g (by omega) (by omega), leaveR21 fu t g (by omega) (by omega), ieq_iff.2 rfl,
      from21 fu (revF t g f).1 (by omega) (by omega), from21 fu (leaveF t g).1 (by omega) (by omega), same21 fu (revF t g f).1 (revF t g f).1 (by omega) (by omega), same21 fu (leaveF t g).1 (leaveF t g).1 (by omega) (by omega), decide_true,
      valid21 fu (revF t g f).1 (by omega) (by omega), valid21 fu (leaveF t g).1 (by omega) (by omega), h1, h3]
/-- GrantsRevoke is true. -/
theorem law7 (a0 : List Grant21) (a1 : Int) (a2 : Int) (_ : WfA A7 (a0, a1, a2, ())) : s7 FU a0 a1 a2 = some (true, ()) := law7_at FU (by decide) aw21 _ _ _
end Go.G
