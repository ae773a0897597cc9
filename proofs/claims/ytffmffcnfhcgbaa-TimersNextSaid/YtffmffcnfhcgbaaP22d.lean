import Derived.Test.YtffmffcnfhcgbaaP22b
import Derived.Test.YtffmffcnfhcgbaaGlue22
set_option linter.unusedVariables false
set_option linter.unusedSimpArgs false
namespace Go.G
set_option maxRecDepth 100000
set_option maxHeartbeats 1000000
theorem aw22 : s10 FU = some (true, ()) := rfl
theorem setF_cases (t : List Timer22) (now own tag ticks : Int) : (∃ c, c ≠ 0 ∧ setF t now own tag ticks = ([], c, ())) ∨
    (∃ m, setF t now own tag ticks = (m, 0, ()) ∧ validB t = true ∧ compB own = true ∧ 0 ≤ now ∧ now ≤ 1099511627776 ∧ ticks ≤ 1099511627776 ∧ ((ticks < 0 ∧ m = noS ltT (newT now own tag ticks) t) ∨ (0 ≤ ticks ∧ m = putS ltT (newT now own tag ticks) t ∧ m.length ≤ 100))) := by
  unfold setF
  cases hv : validB t with
  | false => exact .inl ⟨1, by decide, rfl⟩
  | true =>
    simp only [Bool.not_true, cond_false]
    cases hb : badT now own ticks with
    | true => exact .inl ⟨2, by decide, rfl⟩
    | false =>
      simp only [cond_false]
      simp only [badT, Bool.or_eq_false_iff, Bool.not_eq_false', ilt_f] at hb
      obtain ⟨b1, b2, b3, b4⟩ := hb
      cases hn : ilt ticks 0 with
      | true => exact .inr ⟨_, rfl, trivial, b1, b2, b3, b4, .inl ⟨ilt_iff.1 hn, rfl⟩⟩
      | false =>
        cases hp : ilt 100 (dlen (putS ltT (newT now own tag ticks) t)) with
        | true => exact .inl ⟨6, by decide, rfl⟩
        | false =>
          rw [ilt_f, dlen_def] at hp
          exact .inr ⟨_, rfl, trivial, b1, b2, b3, b4, .inr ⟨ilt_f.1 hn, rfl, by omega⟩⟩
theorem newT_due {now own tag ticks : Int} (h1 : 0 ≤ now) (h2 : now ≤ 1099511627776) (h3 : ticks ≤ 1099511627776) : (newT now own tag ticks).Due = now + (if ticks < 1 then 1 else ticks) := by
  show iadd .i64 now (imax 1 ticks) = _
  have : imax 1 ticks = if ticks < 1 then 1 else ticks := by
    unfold imax
    split <;> split <;> omega
  rw [this]
  apply iadd64
  split <;> omega
theorem valid_nil : validB [] = true := by rw [valid_iff]; exact ⟨by simp, by simp [Srt], by simp⟩
theorem setF_valid (t : List Timer22) (now own tag ticks : Int) : validB (setF t now own tag ticks).1 = true := by
  rcases setF_cases t now own tag ticks with ⟨c, hc, he⟩ | ⟨m, he, hv, b1, b2, b3, b4, hm⟩
  · rw [he]; exact valid_nil
  · rw [he]
    obtain ⟨v1, v2, v3⟩ := valid_iff.1 hv
    show validB m = true
    rw [valid_iff]
    rcases hm with ⟨_, rfl⟩ | ⟨h0, rfl, hl⟩
    · exact ⟨fun x hx => v1 x (mem_noS.1 hx).1, srt_noS v2 _, Nat.le_trans noS_len v3⟩
    · refine ⟨fun x hx => ?_, srt_putS ordT v2 _, hl⟩
      rcases mem_putS.1 hx with rfl | hx
      · have := newT_due (own := own) (tag := tag) b2 b3 b4
        unfold okT
        rw [this]
        simp only [Bool.and_eq_true, Bool.not_eq_true', ilt_f]
        refine ⟨b1, ?_, ?_⟩ <;> split <;> omega
      · exact v1 x hx.1
theorem setF_len (t : List Timer22) (now own tag ticks : Int) : (setF t now own tag ticks).1.length ≤ 100 := (valid_iff.1 (setF_valid t now own tag ticks)).2.2
theorem set22' (fu : Nat) (l : List Timer22) (now own tag ticks : Int) (hf : l.length + 3 < fu) (hl : l.length < 1000000000) : s22 fu l now own tag ticks = some (setF l now own tag ticks) := by
  unfold s22
  rw [set22 fu l now own tag ticks hf hl]
end Go.G
