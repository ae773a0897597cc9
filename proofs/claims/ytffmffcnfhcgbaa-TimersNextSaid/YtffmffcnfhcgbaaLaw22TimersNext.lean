import Derived.Test.YtffmffcnfhcgbaaP22g
import Derived.Test.YtffmffcnfhcgbaaOn22L9
import Derived.Test.YtffmffcnfhcgbaaGlue22
set_option linter.unusedVariables false
set_option linter.unusedSimpArgs false
namespace Go.G
set_option maxRecDepth 100000
theorem due_ok {l : List Timer22} (hv : validB l = true) : ∀ x ∈ l, 0 ≤ x.Due ∧ x.Due ≤ 2199023255552 := by
  intro x hx
  have := (valid_iff.1 hv).1 x hx
  simp only [okT, Bool.and_eq_true, Bool.not_eq_true', ilt_f] at this
  exact ⟨this.2.1, this.2.2⟩
theorem law9 (a0 : List Timer22) (h : WfA A9 (a0, ())) : s9 FU a0 = some (true, ()) := by
  have _ := h
  unfold s9
  rw [aw22]
  cases hl : ilt 150 (dlen a0) with
  | true => rfl
  | false =>
    have hlen : a0.length ≤ 150 := by have := ilt_f.1 hl; rw [dlen_def] at this; omega
    obtain ⟨fu, hfu⟩ : ∃ fu, fu = FU := ⟨_, rfl⟩
    have hf : 200000 < fu := by rw [hfu]; unfold FU; omega
    rw [← hfu]
    have v0 := validR22 fu a0 (by omega) (by omega)
    cases hv : validB a0 with
    | false =>
      rw [hv] at v0
      have hal : s10 fu = some (true, ()) := by rw [hfu]; exact aw22
      simp only [v0, hal]
    | true =>
      rw [hv] at v0
      have hd := due_ok hv
      have k1 := to22 fu a0 (by omega) (by omega)
      have k2 := exp22 hf (l := a0) (by omega) 4398046511104
      have hall : a0.filter (duB 4398046511104) = a0 := List.filter_eq_self.2 fun x hx => ile_iff.2 (by have := (hd x hx).2; omega)
      simp only [expF, hall] at k2
      have e0 : iadd .i64 (dlen a0) 1 = ((a0.length + 1 : Nat) : Int) := by rw [dlen_def]; exact iadd1 (by omega)
      obtain ⟨e, he, rest, rfl⟩ := iter_meas (step := t9_5 fu)
        (fun s => ∃ (t : Int) (i : Nat), i ≤ (sortD (a0.filter (duB t))).length ∧ s = (a0, (sortD a0, ((), (a0.filter (fun x => !duB t x), (((a0.length + 1 : Nat) : Int), ((i : Int), (sortD (a0.filter (duB t)), ()))))))))
        (fun s => (s.2.2.2.2.1 - s.2.2.2.2.2.1).toNat)
        (fun e => ∃ rest, e = .inr (.inl (true, rest)))
        (by
          rintro s ⟨t, i, hi, rfl⟩
          obtain ⟨now, hnow⟩ : ∃ m, m = a0.filter (fun x => !duB t x) := ⟨_, rfl⟩
          obtain ⟨got, hgot⟩ : ∃ m, m = sortD (a0.filter (duB t)) := ⟨_, rfl⟩
          rw [← hnow, ← hgot]
          rw [← hgot] at hi
          have lg : got.length ≤ a0.length := by rw [hgot, (sortD_perm _).length_eq]; exact List.length_filter_le _ _
          have ln : now.length ≤ a0.length := by rw [hnow]; exact List.length_filter_le _ _
          have hlt : ilt (i : Int) ((a0.length + 1 : Nat) : Int) = true := ilt_len (by omega)
          have hmem : ∀ x ∈ now, x ∈ a0 ∧ t < x.Due := fun x hx => by
            rw [hnow] at hx
            obtain ⟨h1, h2⟩ := List.mem_filter.1 hx
            simp only [duB, Bool.not_eq_true', ile_f] at h2
            exact ⟨h1, h2⟩
          have k3 := next22 (fu := fu) (l := now) (by omega) (by omega)
          cases hn : now with
          | nil =>
            rw [hn] at k3
            have hallt : a0.filter (duB t) = a0 := by
              refine List.filter_eq_self.2 fun x hx => ?_
              cases hq : duB t x with
              | true => rfl
              | false =>
                have : x ∈ now := by rw [hnow]; exact List.mem_filter.2 ⟨hx, by rw [hq]; rfl⟩
                rw [hn] at this; cases this
            rw [hallt] at hgot
            have e1 : ieq (dlen got) (dlen a0) = true := ieq_iff.2 (by rw [dlen_def, dlen_def, hgot, (sortD_perm _).length_eq])
            have k4 := from22 fu (sortD a0) (by rw [(sortD_perm _).length_eq]; omega) (by rw [(sortD_perm _).length_eq]; omega)
            have k5 := same22 fu got (sortD a0) (by omega) (by omega)
            rw [hgot] at k5 e1
            simp only [decide_true] at k5
            rw [hgot]
            exact .inr ⟨_, by simp only [t9_5, hlt, k3, nextF, show ieq (dlen ([] : List Timer22)) 0 = true from rfl, e1, k4, k5]; rfl, _, rfl⟩
          | cons x r =>
            obtain ⟨m1, m2⟩ := min_mem x r
            rw [← hn] at m1 m2
            obtain ⟨mn, hmn⟩ : ∃ m, m = r.foldl minF x := ⟨_, rfl⟩
            rw [hn] at k3
            simp only [nextF, ← hmn] at k3
            rw [← hmn] at m1 m2
            rw [← hn] at k3 ⊢
            obtain ⟨b1, b2⟩ := hmem mn m1
            have b3 := hd mn b1
            have e2 : isub .i64 mn.Due 1 = mn.Due - 1 := isub64 (by omega)
            have k4 := exp22 hf (l := now) (by omega) (mn.Due - 1)
            have k5 := exp22 hf (l := now) (by omega) mn.Due
            have z1 : now.filter (duB (mn.Due - 1)) = [] := List.filter_eq_nil_iff.2 fun y hy => by
              have := m2 y hy
              unfold duB
              rw [ile_f.2 (by omega)]; simp
            have z2 : now.filter (fun x => !duB mn.Due x) = a0.filter (fun x => !duB mn.Due x) := by rw [hnow]; exact late_at (by omega)
            have z3 : got ++ sortD (now.filter (duB mn.Due)) = sortD (a0.filter (duB mn.Due)) := by rw [hnow, hgot]; exact both_at (by omega)
            simp only [expF, z1, z2] at k4 k5
            obtain ⟨l, hl⟩ : ∃ m, m = sortD (now.filter (duB mn.Due)) := ⟨_, rfl⟩
            rw [← hl] at k5 z3
            have ll : l.length ≤ a0.length := by rw [hl, (sortD_perm _).length_eq]; exact Nat.le_trans (List.length_filter_le _ _) ln
            have lpos : 0 < l.length := by
              rw [hl, (sortD_perm _).length_eq]
              exact List.length_pos_of_mem (List.mem_filter.2 ⟨m1, ile_iff.2 (Int.le_refl _)⟩)
            have e3 : ieq (dlen (sortD ([] : List Timer22))) 0 = true := by rw [dlen_def, (sortD_perm _).length_eq]; rfl
            have e4 : ieq (dlen l) 0 = false := ieq_f.2 (by rw [dlen_def]; omega)
            have k6 := from22 fu l (by omega) (by omega)
            have k7 : dapp 24 got l = some (sortD (a0.filter (duB mn.Due))) := by rw [← z3]; exact dapp_ok (by omega) (by omega)
            have e5 : iadd .i64 (i : Int) 1 = ((i + 1 : Nat) : Int) := iadd1 (by omega)
            refine .inl ⟨(a0, (sortD a0, ((), (a0.filter (fun x => !duB mn.Due x), (((a0.length + 1 : Nat) : Int), (((i + 1 : Nat) : Int), (sortD (a0.filter (duB mn.Due)), ()))))))), by simp only [t9_5, hlt, k3, e2, k4, k5, e3, e4, k6, k7, e5], ⟨mn.Due, i + 1, ?_, rfl⟩, ?_⟩
            · rw [← z3, List.length_append]; omega
            · show (((a0.length + 1 : Nat) : Int) - ((i + 1 : Nat) : Int)).toNat < (((a0.length + 1 : Nat) : Int) - (i : Int)).toNat
              omega)
        fu (a0, (sortD a0, ((), (a0, (((a0.length + 1 : Nat) : Int), (0, ([], ()))))))) (by
          have z1 : a0.filter (duB (-1)) = [] := List.filter_eq_nil_iff.2 fun y hy => by
            have := (hd y hy).1
            unfold duB
            rw [ile_f.2 (by omega)]; simp
          have z2 : a0.filter (fun x => !duB (-1) x) = a0 := List.filter_eq_self.2 fun y hy => by
            have := (hd y hy).1
            unfold duB
            rw [ile_f.2 (by omega)]; rfl
          have z3 : sortD ([] : List Timer22) = [] := List.mergeSort_nil
          exact ⟨-1, 0, by omega, by rw [z1, z2, z3]; rfl⟩)
        (by show (((a0.length + 1 : Nat) : Int) - 0).toNat < fu; omega)
      simp only [v0, k1, k2, e0, he]
end Go.G
