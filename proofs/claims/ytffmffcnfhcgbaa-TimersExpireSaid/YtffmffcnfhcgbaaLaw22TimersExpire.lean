import Derived.Test.YtffmffcnfhcgbaaP22f
import Derived.Test.YtffmffcnfhcgbaaOn22L4
import Derived.Test.YtffmffcnfhcgbaaGlue22
set_option linter.unusedVariables false
set_option linter.unusedSimpArgs false
namespace Go.G
set_option maxRecDepth 100000
theorem validF {l : List Timer22} (q : Timer22 → Bool) (h : validB l = true) : validB (l.filter q) = true := by
  rw [valid_iff] at *
  obtain ⟨h1, h2, h3⟩ := h
  exact ⟨fun x hx => h1 x (List.mem_filter.1 hx).1, h2.sublist List.filter_sublist, Nat.le_trans (List.length_filter_le _ _) h3⟩
theorem law4 (a0 : List Timer22) (a1 a2 : Int) (h : WfA A4 (a0, a1, a2, ())) : s4 FU a0 a1 a2 = some (true, ()) := by
  have _ := h
  unfold s4
  rw [aw22]
  cases hl : ilt 150 (dlen a0) with
  | true => rfl
  | false =>
    have hlen : a0.length ≤ 150 := by have := ilt_f.1 hl; rw [dlen_def] at this; omega
    have f1 := List.length_filter_le (fun x => !duB a1 x) a0
    have f2 : (sortD (a0.filter (duB a1))).length ≤ a0.length := by rw [(sortD_perm _).length_eq]; exact List.length_filter_le _ _
    have f3 := List.length_filter_le (fun x => !ownB a2 x) a0
    have fb : a0.length + 3 < FU := by unfold FU; omega
    have k1 := to22 FU a0 (by omega) (by omega)
    have k2 := exp22 (fu := FU) (by unfold FU; omega) (l := a0) (by omega) a1
    have k3 := expR22 (fu := FU) (by unfold FU; omega) (l := a0) (by omega) a1
    have k4 := next22 (fu := FU) (l := a0) (by omega) (by omega)
    have k5 := nextR22 (fu := FU) (l := a0) (by omega) (by omega)
    have k6 := drop22 (fu := FU) (l := a0) (by omega) (by omega) a2
    have k7 := dropR22 (fu := FU) (l := a0) (by omega) (by omega) a2
    have k8 := from22 FU (a0.filter (fun x => !duB a1 x)) (by omega) (by omega)
    have k9 := from22 FU (sortD (a0.filter (duB a1))) (by omega) (by omega)
    have k10 := from22 FU (a0.filter (fun x => !ownB a2 x)) (by omega) (by omega)
    have m8 := same22 FU (a0.filter (fun x => !duB a1 x)) (a0.filter (fun x => !duB a1 x)) (by omega) (by omega)
    have m9 := same22 FU (sortD (a0.filter (duB a1))) (sortD (a0.filter (duB a1))) (by omega) (by omega)
    have m10 := same22 FU (a0.filter (fun x => !ownB a2 x)) (a0.filter (fun x => !ownB a2 x)) (by omega) (by omega)
    have v0 := validR22 FU a0 (by omega) (by omega)
    have v1 := valid22 FU (a0.filter (fun x => !duB a1 x)) (by omega) (by omega)
    have v2 := valid22 FU (a0.filter (fun x => !ownB a2 x)) (by omega) (by omega)
    have b1 : ieq (nextF a0).1 (nextF a0).1 = true := ieq_iff.2 rfl
    have b2 : beqb (nextF a0).2.1 (nextF a0).2.1 = true := by simp [beqb]
    simp only [decide_true] at m8 m9 m10
    simp only [k1, k2, k3, k4, k5, k6, k7, k8, k9, k10, expF, m8, m9, m10, b1, b2, v0, v1, v2]
    cases hv : validB a0 with
    | false => rfl
    | true => simp only [validF _ hv]
end Go.G
