import Derived.Test.YtffmffcnfhcgbaaP22f
import Derived.Test.YtffmffcnfhcgbaaOn22L3
import Derived.Test.YtffmffcnfhcgbaaGlue22
set_option linter.unusedVariables false
set_option linter.unusedSimpArgs false
namespace Go.G
set_option maxRecDepth 100000
theorem fil_comm (l : List Timer22) (p q : Timer22 → Bool) : (l.filter p).filter q = (l.filter q).filter p := by
  rw [List.filter_filter, List.filter_filter]
  congr 1
  funext x
  exact Bool.and_comm _ _
theorem asc_fil {l : List Timer22} (q : Timer22 → Bool) (h : Asc ltD l) : Asc ltD (l.filter q) := h.sublist List.filter_sublist
theorem sortD_fil (l : List Timer22) (q : Timer22 → Bool) : (sortD l).filter q = sortD (l.filter q) := sortD_uni (asc_fil q (sortD_asc l)) ((sortD_perm l).filter q)
theorem law3 (a0 : List Timer22) (a1 a2 : Int) (h : WfA A3 (a0, a1, a2, ())) : s3 FU a0 a1 a2 = some (true, ()) := by
  have _ := h
  unfold s3
  rw [aw22]
  cases hl : ilt 150 (dlen a0) with
  | true => rfl
  | false =>
    have hlen : a0.length ≤ 150 := by have := ilt_f.1 hl; rw [dlen_def] at this; omega
    obtain ⟨fu, hfu⟩ : ∃ fu, fu = FU := ⟨_, rfl⟩
    have hf : 200000 < fu := by rw [hfu]; unfold FU; omega
    rw [← hfu]
    have g1 := List.length_filter_le (fun x => !ownB a1 x) a0
    have g2 : (sortD ((a0.filter (fun x => !ownB a1 x)).filter (duB a2))).length ≤ a0.length := by rw [(sortD_perm _).length_eq]; exact Nat.le_trans (List.length_filter_le _ _) g1
    have g3 : (sortD (a0.filter (duB a2))).length ≤ a0.length := by rw [(sortD_perm _).length_eq]; exact List.length_filter_le _ _
    have g4 := List.length_filter_le (fun x => !duB a2 x) a0
    have g5 := List.length_filter_le (fun x => !duB a2 x) (a0.filter (fun x => !ownB a1 x))
    have k1 := to22 fu a0 (by omega) (by omega)
    have k2 := drop22 (fu := fu) (l := a0) (by omega) (by omega) a1
    have k3 := exp22 hf (l := a0.filter (fun x => !ownB a1 x)) (by omega) a2
    have k4 := exp22 hf (l := a0) (by omega) a2
    have k5 := from22 fu (sortD ((a0.filter (fun x => !ownB a1 x)).filter (duB a2))) (by omega) (by omega)
    have k6 := from22 fu ((a0.filter (fun x => !ownB a1 x)).filter (fun x => !duB a2 x)) (by omega) (by omega)
    have k7 := drop22 (fu := fu) (l := a0.filter (fun x => !duB a2 x)) (by omega) (by omega) a1
    have e1 : ((a0.filter (fun x => !duB a2 x)).filter (fun x => !ownB a1 x)) = ((a0.filter (fun x => !ownB a1 x)).filter (fun x => !duB a2 x)) := fil_comm _ _ _
    rw [e1] at k7
    obtain ⟨m, hm⟩ : ∃ m, m = sortD (a0.filter (duB a2)) := ⟨_, rfl⟩
    have e2 : sortD ((a0.filter (fun x => !ownB a1 x)).filter (duB a2)) = m.filter (fun x => !ownB a1 x) := by rw [hm, sortD_fil, fil_comm]
    rw [e2] at g2 k5
    rw [← hm] at g3
    have k8 := same22 fu (m.filter (fun x => !ownB a1 x)) (m.filter (fun x => !ownB a1 x)) (by omega) (by omega)
    have k9 := same22 fu ((a0.filter (fun x => !ownB a1 x)).filter (fun x => !duB a2 x)) ((a0.filter (fun x => !ownB a1 x)).filter (fun x => !duB a2 x)) (by omega) (by omega)
    have lp := iter_fold (step := t3_6 fu) (fu := fu) m (fun j (acc : List Timer22) => (a1, ((a0.filter (fun x => !ownB a1 x)).filter (fun x => !duB a2 x), (m.filter (fun x => !ownB a1 x), (a0.filter (fun x => !duB a2 x), (m, ((), (dlen m, ((j : Int), (acc, ())))))))))) 
      (fun x acc => if (!ownB a1 x) = true then acc ++ [x] else acc) (fun i acc => acc.length ≤ i) (fun acc => .inl (a1, ((a0.filter (fun x => !ownB a1 x)).filter (fun x => !duB a2 x), (m.filter (fun x => !ownB a1 x), (a0.filter (fun x => !duB a2 x), ((), (acc, ()))))))) [] (by omega) (Nat.le_refl _)
      (fun i x acc hi hI => by
        have h1 := getElem?_lt hi
        have e1 : iadd .i64 (i : Int) 1 = ((i + 1 : Nat) : Int) := iadd1 (by omega)
        have e2 : dapp 24 acc [x] = some (acc ++ [x]) := dapp_ok (by simp; omega) (by simp; omega)
        unfold ownB
        cases hq : ieq x.Owner a1 with
        | true => exact ⟨by simp only [t3_6, dlen_def, dat_nat, hi, ilt_len h1, hq, e1]; rfl, by simp; omega⟩
        | false => exact ⟨by simp only [t3_6, dlen_def, dat_nat, hi, ilt_len h1, hq, e1, eta22, e2]; rfl, by simp; omega⟩)
      (fun acc hI => by simp only [t3_6, dlen_def, ilt_end])
    rw [show ((0 : Nat) : Int) = 0 from rfl, foldl_filter_snoc, List.nil_append] at lp
    simp only [decide_true] at k8 k9
    simp only [k1, k2, k3, k4, expF, e2, ← hm, lp, k5, k8, k6, k7, k9]
end Go.G
