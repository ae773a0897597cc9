import Derived.Test.YtffmffcnfhcgbaaP22f
import Derived.Test.YtffmffcnfhcgbaaOn22L8
import Derived.Test.YtffmffcnfhcgbaaGlue22
set_option linter.unusedVariables false
set_option linter.unusedSimpArgs false
namespace Go.G
set_option maxRecDepth 100000
theorem t8a : t8_11 = t8_6 := rfl
theorem t8b : t8_17 = t8_6 := rfl
theorem t8c : t8_22 = t8_6 := rfl
theorem t8d : t8_28 = t8_6 := rfl
theorem fromT {fu : Nat} {l : List Timer22} (hf : l.length < fu) (hl : l.length < 1000000) : iter (t8_6 fu) fu (l, ((), ((dlen l), (0, ([], ()))))) = some (.inl ((), (l, ()))) := by
  have := iter_fold (step := t8_6 fu) (fu := fu) l (fun j (acc : List Timer22) => (l, ((), ((dlen l), ((j : Int), (acc, ()))))))
    (fun x acc => acc ++ [x]) (fun i acc => acc.length = i) (fun acc => .inl ((), (acc, ()))) [] hf rfl
    (fun i x acc hi hI => by
      have h1 := getElem?_lt hi
      have e2 : dapp 24 acc [x] = some (acc ++ [x]) := dapp_ok (by simp; omega) (by simp; omega)
      exact ⟨by simp only [t8_6, dlen_def, dat_nat, hi, ilt_len h1, iadd1 (show i < 9223372036854775807 by omega), eta22, e2], by simp [hI]⟩)
    (fun acc hI => by simp only [t8_6, dlen_def, ilt_end])
  rw [show ((0 : Nat) : Int) = 0 from rfl, foldl_map_snoc (fun x => x)] at this
  rw [this]
  simp
theorem both_at {l : List Timer22} {p q : Int} (h : p ≤ q) : sortD (l.filter (duB p)) ++ sortD ((l.filter (fun x => !duB p x)).filter (duB q)) = sortD (l.filter (duB q)) := by
  refine sortD_uni (asc_append.2 ⟨sortD_asc _, sortD_asc _, fun a ha b hb => ?_⟩) ?_
  · have ha := (List.mem_filter.1 ((sortD_perm _).mem_iff.1 ha)).2
    have hb := (List.mem_filter.1 (List.mem_filter.1 ((sortD_perm _).mem_iff.1 hb)).1).2
    simp only [duB, Bool.not_eq_true'] at ha hb
    rw [ile_iff] at ha
    rw [ile_f] at hb
    rw [ltD_f]
    omega
  · refine ((sortD_perm _).append (sortD_perm _)).trans ?_
    have e1 : l.filter (duB p) = (l.filter (duB q)).filter (duB p) := by
      rw [List.filter_filter]
      congr 1
      funext x
      unfold duB
      cases h1 : ile x.Due p with
      | false => rfl
      | true => rw [ile_iff] at h1; rw [ile_iff.2 (by omega)]; rfl
    have e2 : (l.filter (fun x => !duB p x)).filter (duB q) = (l.filter (duB q)).filter (fun x => !duB p x) := by
      rw [List.filter_filter, List.filter_filter]
      congr 1
      funext x
      exact Bool.and_comm _ _
    rw [e1, e2]
    exact List.filter_append_perm _ _
theorem late_at {l : List Timer22} {p q : Int} (h : p ≤ q) : (l.filter (fun x => !duB p x)).filter (fun x => !duB q x) = l.filter (fun x => !duB q x) := by
  rw [List.filter_filter]
  congr 1
  funext x
  unfold duB
  cases h1 : ile x.Due q with
  | true => simp
  | false => rw [ile_f] at h1; rw [ile_f.2 (by omega : p < x.Due)]; rfl
theorem law8 (a0 : List Timer22) (a1_f0 a1_f1 : Int) (h : WfA A8 (a0, (a1_f0, a1_f1, ()), ())) : s8 FU a0 a1_f0 a1_f1 = some (true, ()) := by
  have _ := h
  unfold s8
  rw [aw22]
  cases hl : ilt 150 (dlen a0) with
  | true => rfl
  | false =>
    have hlen : a0.length ≤ 150 := by have := ilt_f.1 hl; rw [dlen_def] at this; omega
    cases hpq : ilt a1_f1 a1_f0 with
    | true => rfl
    | false =>
      have hpq' : a1_f0 ≤ a1_f1 := ilt_f.1 hpq
      obtain ⟨fu, hfu⟩ : ∃ fu, fu = FU := ⟨_, rfl⟩
      have hf : 200000 < fu := by rw [hfu]; unfold FU; omega
      rw [← hfu]
      have g1 := List.length_filter_le (fun x => !duB a1_f0 x) a0
      have g2 := List.length_filter_le (fun x => !duB a1_f1 x) a0
      have k1 := to22 fu a0 (by omega) (by omega)
      have k2 := exp22 hf (l := a0) (by omega) a1_f0
      have k3 := exp22 hf (l := a0.filter (fun x => !duB a1_f0 x)) (by omega) a1_f1
      have k4 := exp22 hf (l := a0) (by omega) a1_f1
      have hb := both_at (l := a0) hpq'
      have hla := late_at (l := a0) hpq'
      simp only [expF] at k2 k3 k4
      rw [hla] at k3
      obtain ⟨m1, h1⟩ : ∃ m, m = sortD (a0.filter (duB a1_f0)) := ⟨_, rfl⟩
      obtain ⟨m2, h2⟩ : ∃ m, m = sortD ((a0.filter (fun x => !duB a1_f0 x)).filter (duB a1_f1)) := ⟨_, rfl⟩
      obtain ⟨m3, h3⟩ : ∃ m, m = sortD (a0.filter (duB a1_f1)) := ⟨_, rfl⟩
      rw [← h1, ← h2, ← h3] at hb
      rw [← h1] at k2
      rw [← h2] at k3
      rw [← h3] at k4
      have l3 : m3.length ≤ a0.length := by rw [h3, (sortD_perm _).length_eq]; exact List.length_filter_le _ _
      have l12 : m1.length + m2.length = m3.length := by rw [← hb, List.length_append]
      have j1 := fromT (fu := fu) (l := a0.filter (fun x => !duB a1_f1 x)) (by omega) (by omega)
      have j2 := fromT (fu := fu) (l := m1) (by omega) (by omega)
      have j3 := fromT (fu := fu) (l := m2) (by omega) (by omega)
      have j4 := fromT (fu := fu) (l := m3) (by omega) (by omega)
      have c1 := same22 fu (a0.filter (fun x => !duB a1_f1 x)) (a0.filter (fun x => !duB a1_f1 x)) (by omega) (by omega)
      have c2 := same22 fu m3 m3 (by omega) (by omega)
      have ap : dapp 24 m1 m2 = some m3 := by rw [← hb]; exact dapp_ok (by omega) (by omega)
      simp only [decide_true] at c1 c2
      simp only [k1, k2, k3, k4, j1, j2, j3, j4, c1, c2, ap, t8a, t8b, t8c, t8d, show ile 0 0 = true from rfl, show ilt 0 2 = true from rfl, show ile 0 1 = true from rfl, show ilt 1 2 = true from rfl]
end Go.G
