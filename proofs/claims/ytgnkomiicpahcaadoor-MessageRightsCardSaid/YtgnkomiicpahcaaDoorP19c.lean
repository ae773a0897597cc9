import Derived.Test.YtgnkomiicpahcaaDoorP19k0
import Derived.Test.YtgnkomiicpahcaaDoorP19k1
import Derived.Test.YtgnkomiicpahcaaDoorP19k2
import Derived.Test.YtgnkomiicpahcaaDoorP19k3
set_option linter.unusedVariables false
set_option linter.unusedSimpArgs false
namespace Go.G
set_option maxRecDepth 100000
set_option maxHeartbeats 4000000
theorem aw19 : s10 FU = some (true, ()) := by rfl
theorem perm_out (fu : Nat) {kind : Int} (h : kind < 1 ∨ 28 ≤ kind) (src dst seq a0 a1 a2 a3 : Int) (d : List Int) : s13 fu src dst kind seq a0 a1 a2 a3 d = some (false, ()) ∧ s14 fu src dst kind seq a0 a1 a2 a3 d = some (false, ()) := by
  have ne : ∀ k : Int, 1 ≤ k → k < 28 → ieq kind k = false := fun k h1 h2 => ieq_f.2 (by omega)
  refine ⟨?_, ?_⟩
  · unfold s13
    rcases h with h | h
    · rw [ilt_iff.2 h]; rfl
    · rw [ilt_f.2 (show (1 : Int) ≤ kind by omega), ile_iff.2 h]; rfl
  · simp only [s14, s30, s31, ne 1 (by decide) (by decide), ne 2 (by decide) (by decide), ne 3 (by decide) (by decide), ne 4 (by decide) (by decide), ne 5 (by decide) (by decide), ne 6 (by decide) (by decide), ne 7 (by decide) (by decide), ne 8 (by decide) (by decide), ne 9 (by decide) (by decide), ne 10 (by decide) (by decide), ne 11 (by decide) (by decide), ne 12 (by decide) (by decide), ne 13 (by decide) (by decide), ne 14 (by decide) (by decide), ne 15 (by decide) (by decide), ne 16 (by decide) (by decide), ne 17 (by decide) (by decide), ne 18 (by decide) (by decide), ne 19 (by decide) (by decide), ne 20 (by decide) (by decide), ne 21 (by decide) (by decide), ne 22 (by decide) (by decide), ne 23 (by decide) (by decide), ne 24 (by decide) (by decide), ne 25 (by decide) (by decide), ne 26 (by decide) (by decide), ne 27 (by decide) (by decide), cond_false, cNot, Bool.not_false, cond_true]
theorem kinds19 (kind : Int) : (kind < 1 ∨ 28 ≤ kind) ∨ kind = 1 ∨ kind = 2 ∨ kind = 3 ∨ kind = 4 ∨ kind = 5 ∨ kind = 6 ∨ kind = 7 ∨ kind = 8 ∨ kind = 9 ∨ kind = 10 ∨ kind = 11 ∨ kind = 12 ∨ kind = 13 ∨ kind = 14 ∨ kind = 15 ∨ kind = 16 ∨ kind = 17 ∨ kind = 18 ∨ kind = 19 ∨ kind = 20 ∨ kind = 21 ∨ kind = 22 ∨ kind = 23 ∨ kind = 24 ∨ kind = 25 ∨ kind = 26 ∨ kind = 27 := by omega
theorem perm_all (fu : Nat) (src dst kind seq a0 a1 a2 a3 : Int) (d : List Int) : ∃ b, s13 fu src dst kind seq a0 a1 a2 a3 d = some (b, ()) ∧ s14 fu src dst kind seq a0 a1 a2 a3 d = some (b, ()) := by
  rcases kinds19 kind with h | h | h | h | h | h | h | h | h | h | h | h | h | h | h | h | h | h | h | h | h | h | h | h | h | h | h | h
  · obtain ⟨h1, h2⟩ := perm_out fu h src dst seq a0 a1 a2 a3 d
    exact ⟨false, h1, h2⟩
  · subst h
    obtain ⟨b, b', h1, h2, rfl⟩ := perm1 fu src dst seq a0 a1 a2 a3 d
    exact ⟨b, h1, h2⟩
  · subst h
    obtain ⟨b, b', h1, h2, rfl⟩ := perm2 fu src dst seq a0 a1 a2 a3 d
    exact ⟨b, h1, h2⟩
  · subst h
    obtain ⟨b, b', h1, h2, rfl⟩ := perm3 fu src dst seq a0 a1 a2 a3 d
    exact ⟨b, h1, h2⟩
  · subst h
    obtain ⟨b, b', h1, h2, rfl⟩ := perm4 fu src dst seq a0 a1 a2 a3 d
    exact ⟨b, h1, h2⟩
  · subst h
    obtain ⟨b, b', h1, h2, rfl⟩ := perm5 fu src dst seq a0 a1 a2 a3 d
    exact ⟨b, h1, h2⟩
  · subst h
    obtain ⟨b, b', h1, h2, rfl⟩ := perm6 fu src dst seq a0 a1 a2 a3 d
    exact ⟨b, h1, h2⟩
  · subst h
    obtain ⟨b, b', h1, h2, rfl⟩ := perm7 fu src dst seq a0 a1 a2 a3 d
    exact ⟨b, h1, h2⟩
  · subst h
    obtain ⟨b, b', h1, h2, rfl⟩ := perm8 fu src dst seq a0 a1 a2 a3 d
    exact ⟨b, h1, h2⟩
  · subst h
    obtain ⟨b, b', h1, h2, rfl⟩ := perm9 fu src dst seq a0 a1 a2 a3 d
    exact ⟨b, h1, h2⟩
  · subst h
    obtain ⟨b, b', h1, h2, rfl⟩ := perm10 fu src dst seq a0 a1 a2 a3 d
    exact ⟨b, h1, h2⟩
  · subst h
    obtain ⟨b, b', h1, h2, rfl⟩ := perm11 fu src dst seq a0 a1 a2 a3 d
    exact ⟨b, h1, h2⟩
  · subst h
    obtain ⟨b, b', h1, h2, rfl⟩ := perm12 fu src dst seq a0 a1 a2 a3 d
    exact ⟨b, h1, h2⟩
  · subst h
    obtain ⟨b, b', h1, h2, rfl⟩ := perm13 fu src dst seq a0 a1 a2 a3 d
    exact ⟨b, h1, h2⟩
  · subst h
    obtain ⟨b, b', h1, h2, rfl⟩ := perm14 fu src dst seq a0 a1 a2 a3 d
    exact ⟨b, h1, h2⟩
  · subst h
    obtain ⟨b, b', h1, h2, rfl⟩ := perm15 fu src dst seq a0 a1 a2 a3 d
    exact ⟨b, h1, h2⟩
  · subst h
    obtain ⟨b, b', h1, h2, rfl⟩ := perm16 fu src dst seq a0 a1 a2 a3 d
    exact ⟨b, h1, h2⟩
  · subst h
    obtain ⟨b, b', h1, h2, rfl⟩ := perm17 fu src dst seq a0 a1 a2 a3 d
    exact ⟨b, h1, h2⟩
  · subst h
    obtain ⟨b, b', h1, h2, rfl⟩ := perm18 fu src dst seq a0 a1 a2 a3 d
    exact ⟨b, h1, h2⟩
  · subst h
    obtain ⟨b, b', h1, h2, rfl⟩ := perm19 fu src dst seq a0 a1 a2 a3 d
    exact ⟨b, h1, h2⟩
  · subst h
    obtain ⟨b, b', h1, h2, rfl⟩ := perm20 fu src dst seq a0 a1 a2 a3 d
    exact ⟨b, h1, h2⟩
  · subst h
    obtain ⟨b, b', h1, h2, rfl⟩ := perm21 fu src dst seq a0 a1 a2 a3 d
    exact ⟨b, h1, h2⟩
  · subst h
    obtain ⟨b, b', h1, h2, rfl⟩ := perm22 fu src dst seq a0 a1 a2 a3 d
    exact ⟨b, h1, h2⟩
  · subst h
    obtain ⟨b, b', h1, h2, rfl⟩ := perm23 fu src dst seq a0 a1 a2 a3 d
    exact ⟨b, h1, h2⟩
  · subst h
    obtain ⟨b, b', h1, h2, rfl⟩ := perm24 fu src dst seq a0 a1 a2 a3 d
    exact ⟨b, h1, h2⟩
  · subst h
    obtain ⟨b, b', h1, h2, rfl⟩ := perm25 fu src dst seq a0 a1 a2 a3 d
    exact ⟨b, h1, h2⟩
  · subst h
    obtain ⟨b, b', h1, h2, rfl⟩ := perm26 fu src dst seq a0 a1 a2 a3 d
    exact ⟨b, h1, h2⟩
  · subst h
    obtain ⟨b, b', h1, h2, rfl⟩ := perm27 fu src dst seq a0 a1 a2 a3 d
    exact ⟨b, h1, h2⟩
end Go.G
