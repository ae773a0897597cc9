import Derived.Test.YtmknondapmmehaaP21d
import Derived.Test.YtmknondapmmehaaGlue21
set_option linter.unusedVariables false
set_option linter.unusedSimpArgs false
namespace Go.G
set_option maxRecDepth 100000
theorem aw21 : s11 FU = some (true, ()) := by kernel_rfl
theorem rgs_of {l : List Grant21} (h : WfC (T := C21) (.d (.sl U21.grant l))) : ∀ y ∈ l, rg y.Rights := fun y hy => by
  have h1 : WfD C21 (.sl U21.grant l) := h
  have h2 := h1.of_sl.2 y hy
  exact wfd_i64 (h2 (.int .i64 y.Rights) (.tail _ (.tail _ (.tail _ (.head _)))))
theorem law8_at (fu : Nat) (hf : 1000 < fu) (ha : s11 fu = some (true, ())) (l : List Grant21) (g f r : Int) (hr : ∀ y ∈ l, rg y.Rights) : s8 fu l g f r = some (true, ()) := by
  unfold s8
  rw [ha]
  simp only
  cases h : ilt 60 (dlen l) with
  | true => rfl
  | false =>
    rw [ilt_f, dlen_def] at h
    have hl1 : ∀ g, (ofF l g).length ≤ l.length := fun g => by
      unfold ofF ofL
      cases validB l with
      | true => simp only [cond_true, List.length_map]; exact List.length_filter_le _ _
      | false => simp
    have := hl1 g
    simp only [to21 fu l (show l.length < fu by omega) (by omega), has21 fu l g f r hr (by omega) (by omega), hasR21 fu l g f r (by omega) (by omega), of21 fu l g (by omega) (by omega), ofR21 fu l g (by omega) (by omega), ints21 fu (ofF l g) (ofF l g) (by omega) (by omega), decide_true]
    cases hasB l g f r <;> rfl
/-- GrantsHas is true. -/
theorem law8 (a0 : List Grant21) (a1_Task : Int) (a1_Frame : Int) (a1_Rights : Int) (h : WfA A8 (a0, (a1_Task, a1_Frame, a1_Rights, ()), ())) : s8 FU a0 a1_Task a1_Frame a1_Rights = some (true, ()) := law8_at FU (by decide) aw21 _ _ _ _ (rgs_of (h (.one (.d (.sl U21.grant a0))) (.head _)))
end Go.G
