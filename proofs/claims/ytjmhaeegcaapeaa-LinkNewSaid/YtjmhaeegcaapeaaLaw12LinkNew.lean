import Derived.Test.YtjmhaeegcaapeaaP12a
import Derived.Test.YtjmhaeegcaapeaaOn12L3
set_option linter.unusedVariables false
set_option linter.unusedSimpArgs false
namespace Go.G
set_option maxRecDepth 100000
theorem arr_len (fu : Nat) (a : Int) : ∃ l, s17 fu a = some (l, ()) ∧ l.length ≤ 2 := by
  unfold s17
  simp only [show ieq 4 0 = false from rfl]
  cases ieq (irem .u8 a 4) 0 with
  | true => exact ⟨_, rfl, by simp⟩
  | false =>
    cases ieq (irem .u8 a 4) 2 with
    | true => exact ⟨_, rfl, by simp⟩
    | false =>
      cases ieq (irem .u8 a 4) 3 with
      | true => exact ⟨_, rfl, by simp⟩
      | false => exact ⟨_, rfl, by simp⟩
theorem from0 (k : Nat) (p : List Int) : s15 (k + 1) p 0 0 0 [] [] false 0 0 0 [] 0 0 [] false 0 0 0 [] 0 0 [] = some ((p, (0, (0, (0, ([], ([], (false, (0, (0, (0, ([], (0, (0, (0, ([], (false, (0, (0, (0, ([], (0, (0, (0, ([], ())))))))))))))))))))))))), ()) := rfl
theorem eq0 (k : Nat) (p : List Int) (hf : p.length < k + 1) (hl : p.length ≤ 9223372036854775807) : s14 (k + 1) p 0 0 0 [] [] false 0 0 0 [] 0 0 0 [] false 0 0 0 [] 0 0 0 [] p 0 0 0 [] [] false 0 0 0 [] 0 0 0 [] false 0 0 0 [] 0 0 0 [] = some (true, ()) := by
  unfold s14
  rw [bytes12 (k + 1) p p hf hl]
  simp only [decide_true]
  rfl
theorem law3_at (k : Nat) (hf : 1000 < k) (ha : s11 (k + 1) = some (true, ())) (p : List Int) (b : Int) : s3 (k + 1) p b = some (true, ()) := by
  unfold s3
  rw [ha]
  simp only
  cases h : ilt 300 (dlen p) with
  | true => rfl
  | false =>
    rw [ilt_f, dlen_def] at h
    obtain ⟨l, hl1, hl2⟩ := arr_len (k + 1) b
    have hn : s16 (k + 1) l l = some (true, ()) := by
      unfold s16
      rw [ints12 (k + 1) l l (by omega) (by omega)]
      simp
    simp only [same18, hl1, hn]
    unfold s12 s13
    cases h2 : ilt 200 (dlen p) with
    | true =>
      have e1 := from0 k []
      have e2 := eq0 k [] (by simp) (by simp)
      simp only [show ieq 6 6 = true from rfl, e1, e2]
    | false =>
      rw [ilt_f, dlen_def] at h2
      have hc : dapp 1 [] p = some p := dapp_nil (by omega) (by omega)
      have e1 := from0 k p
      have e2 := eq0 k p (by omega) (by omega)
      simp only [hc, show ieq 0 0 = true from rfl, e1, e2]
/-- LinkNew is true. -/
theorem law3 (a0 : List Int) (a1 : Int) (_ : WfA A3 (a0, a1, ())) : s3 FU a0 a1 = some (true, ()) := law3_at (FU - 1) (by decide) aw12 a0 a1
end Go.G
