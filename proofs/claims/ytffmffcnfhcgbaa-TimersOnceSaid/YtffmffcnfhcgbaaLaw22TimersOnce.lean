import Derived.Test.YtffmffcnfhcgbaaP22g
import Derived.Test.YtffmffcnfhcgbaaOn22L6
import Derived.Test.YtffmffcnfhcgbaaGlue22
set_option linter.unusedVariables false
set_option linter.unusedSimpArgs false
namespace Go.G
set_option maxRecDepth 100000
theorem wfd_i8 {T : Uni} {n : Int} (h : WfD T (.int .i8 n)) : -128 ≤ n ∧ n ≤ 127 := by
  cases h with
  | int _ _ h => simp [Lit.wf, IntKind.min, IntKind.max, IntKind.bits, IntKind.signed] at h; omega
def kyT (own tag : Int) (a : Timer22) : Bool := ieq a.Owner own && ieq a.Tag tag
theorem key_same (now own tag ticks : Int) (a : Timer22) : same ltT a (newT now own tag ticks) = kyT own tag a := by
  unfold same kyT
  simp only [newT]
  rw [Bool.eq_iff_iff, Bool.and_eq_true, Bool.and_eq_true, Bool.not_eq_true', Bool.not_eq_true', ltT_f, ltT_f, ieq_iff, ieq_iff]
  simp only
  omega
theorem any6 {fu : Nat} {l : List Timer22} (hf : l.length < fu) (hl : l.length < 1000000) (tbl : List Timer22) (due i now own tag tk : Int) :
    iter (t6_6 fu) fu ((), (tbl, (due, (i, (l, (false, ((dlen l), (0, ((now, (own, (tag, (tk, ())))), ()))))))))) = some (.inl ((), (tbl, (due, (i, (l.any (kyT own tag), ((now, (own, (tag, (tk, ())))), ()))))))) := by
  have := iter_fold (step := t6_6 fu) (fu := fu) l (fun j (acc : Bool) => ((), (tbl, (due, (i, (l, (acc, ((dlen l), ((j : Int), ((now, (own, (tag, (tk, ())))), ()))))))))))
    (fun x acc => acc || kyT own tag x) (fun _ _ => True) (fun acc => .inl ((), (tbl, (due, (i, (acc, ((now, (own, (tag, (tk, ())))), ()))))))) false hf trivial
    (fun j x acc hi _ => by
      have h1 := getElem?_lt hi
      refine ⟨?_, trivial⟩
      simp only [t6_6, dlen_def, dat_nat, hi, ilt_len h1, iadd1 (show j < 9223372036854775807 by omega)]
      unfold kyT
      cases acc <;> cases ieq x.Owner own <;> cases ieq x.Tag tag <;> rfl)
    (fun acc _ => by simp only [t6_6, dlen_def, ilt_end])
  have h2 : ∀ (m : List Timer22) (b : Bool), m.foldl (fun acc y => acc || kyT own tag y) b = (b || m.any (kyT own tag)) := by
    intro m
    induction m with
    | nil => simp
    | cons y m ih => intro b; rw [List.foldl_cons, ih, List.any_cons, Bool.or_assoc]
  rw [show ((0 : Nat) : Int) = 0 from rfl, h2, Bool.false_or] at this
  exact this
theorem out6 {fu : Nat} (hf : 200000 < fu) {b : List Timer22} {now own tag tk due : Int} (hb : b.length ≤ 100) (h0 : 0 ≤ now) (h1 : now ≤ 549755813888) (hdue : now < due)
    (hk : ∀ y ∈ b, kyT own tag y = true → 0 ≤ tk ∧ y.Due = due) (hx : 0 ≤ tk → ∃ y ∈ b, kyT own tag y = true ∧ y.Due = due) :
    iter (t6_4 fu) fu ((), (b, (due, (now, ((now, (own, (tag, (tk, ())))), ()))))) = some (.inl ((now, (own, (tag, (tk, ())))), ())) := by
  obtain ⟨e, he, rfl⟩ := iter_meas (step := t6_4 fu)
    (fun s => ∃ (tbl : List Timer22) (k : Nat), k ≤ 131 ∧ tbl.length ≤ 100 ∧ (∀ y, kyT own tag y = true → (y ∈ tbl ↔ y ∈ b ∧ now + k - 1 < y.Due)) ∧ s = ((), (tbl, (due, (now + (k : Int), ((now, (own, (tag, (tk, ())))), ()))))))
    (fun s => (now + 1000 - s.2.2.2.1).toNat)
    (fun e => e = .inl ((now, (own, (tag, (tk, ())))), ()))
    (by
      rintro s ⟨tbl, k, hk1, ht, hI, rfl⟩
      have e0 : iadd .i64 now 130 = now + 130 := iadd64 (by omega)
      by_cases hend : k = 131
      · subst hend
        have e1 : ile (now + ((131 : Nat) : Int)) (now + 130) = false := ile_f.2 (by omega)
        exact .inr ⟨_, by simp only [t6_4, e0, e1], rfl⟩
      · have e1 : ile (now + (k : Int)) (now + 130) = true := ile_iff.2 (by omega)
        have k2 := exp22 hf (l := tbl) (by omega) (now + k)
        simp only [expF] at k2
        have g1 : (sortD (tbl.filter (duB (now + k)))).length ≤ tbl.length := by rw [(sortD_perm _).length_eq]; exact List.length_filter_le _ _
        have g2 : (tbl.filter (fun y => !duB (now + k) y)).length ≤ tbl.length := List.length_filter_le _ _
        have k3 := any6 (fu := fu) (l := sortD (tbl.filter (duB (now + k)))) (by omega) (by omega) (tbl.filter (fun y => !duB (now + k) y)) due (now + k) now own tag tk
        have e2 : iadd .i64 (now + (k : Int)) 1 = now + ((k + 1 : Nat) : Int) := by rw [iadd64 (by omega)]; omega
        have hfound : (sortD (tbl.filter (duB (now + k)))).any (kyT own tag) = decide (now + (k : Int) = due ∧ 0 ≤ tk) := by
          rw [Bool.eq_iff_iff, List.any_eq_true, decide_eq_true_eq]
          constructor
          · rintro ⟨y, hy, hky⟩
            obtain ⟨h3, h4⟩ := List.mem_filter.1 ((sortD_perm _).mem_iff.1 hy)
            have h4 := ile_iff.1 h4
            obtain ⟨h5, h6⟩ := (hI y hky).1 h3
            obtain ⟨h7, h8⟩ := hk y h5 hky
            exact ⟨by omega, h7⟩
          · rintro ⟨h3, h4⟩
            obtain ⟨y, h5, h6, h7⟩ := hx h4
            exact ⟨y, (sortD_perm _).mem_iff.2 (List.mem_filter.2 ⟨(hI y h6).2 ⟨h5, by omega⟩, ile_iff.2 (by omega)⟩), h6⟩
        rw [hfound] at k3
        refine .inl ⟨((), (tbl.filter (fun y => !duB (now + k) y), (due, (now + ((k + 1 : Nat) : Int), ((now, (own, (tag, (tk, ())))), ()))))), ?_, ⟨_, k + 1, by omega, by omega, fun y hky => ?_, rfl⟩, ?_⟩
        · by_cases hd : now + (k : Int) = due
          · have e3 : ieq (now + (k : Int)) due = true := ieq_iff.2 hd
            have e4 : beqb (decide (now + (k : Int) = due ∧ 0 ≤ tk)) (ile 0 tk) = true := by
              unfold beqb ile
              simp [hd]
            simp only [t6_4, e0, e1, k2, k3, e3, e4, e2]
          · have e3 : ieq (now + (k : Int)) due = false := ieq_f.2 hd
            have e4 : beqb (decide (now + (k : Int) = due ∧ 0 ≤ tk)) false = true := by
              unfold beqb
              simp [hd]
            simp only [t6_4, e0, e1, k2, k3, e3, e4, e2]
        · rw [List.mem_filter, hI y hky]
          simp only [duB, Bool.not_eq_true', ile_f]
          constructor
          · rintro ⟨⟨h3, _⟩, h4⟩; exact ⟨h3, by omega⟩
          · rintro ⟨h3, h4⟩; exact ⟨⟨h3, by omega⟩, by omega⟩
        · show (now + 1000 - (now + ((k + 1 : Nat) : Int))).toNat < (now + 1000 - (now + (k : Int))).toNat
          omega)
    fu ((), (b, (due, (now, ((now, (own, (tag, (tk, ())))), ()))))) ⟨b, 0, by omega, hb, fun y hky => ⟨fun h => ⟨h, by have := (hk y h hky).2; omega⟩, fun h => h.1⟩, by simp⟩ (by show (now + 1000 - now).toNat < fu; omega)
  exact he
theorem law6 (a0 : List Timer22) (a1_Now : Int) (a1_Owner : Int) (a1_Tag : Int) (a1_Ticks : Int) (a2_f0 : Int) (a2_f1 : Int) (h : WfA A6 (a0, (a1_Now, a1_Owner, a1_Tag, a1_Ticks, ()), (a2_f0, a2_f1, ()), ())) : s6 FU a0 a1_Now a1_Owner a1_Tag a1_Ticks a2_f0 a2_f1 = some (true, ()) := by
  have hw : WfP (T := C22) (.agg [.d (.int .i8 a2_f0), .d (.int .i8 a2_f1)]) := h _ (by simp [A6, embPs, embP, embCs, embC])
  have w0 := wfd_i8 (hw (.d (.int .i8 a2_f0)) (by simp))
  have w1 := wfd_i8 (hw (.d (.int .i8 a2_f1)) (by simp))
  have i0 : iwrap .i64 a2_f0 = a2_f0 := wrap64 (by omega)
  have i1 : iwrap .i64 a2_f1 = a2_f1 := wrap64 (by omega)
  unfold s6
  rw [aw22, i0, i1]
  cases hl : ilt 150 (dlen a0) with
  | true => rfl
  | false =>
    have hlen : a0.length ≤ 150 := by have := ilt_f.1 hl; rw [dlen_def] at this; omega
    cases hn : ilt 549755813888 a1_Now with
    | true => rfl
    | false =>
      have hn' : a1_Now ≤ 549755813888 := ilt_f.1 hn
      obtain ⟨fu, hfu⟩ : ∃ fu, fu = FU := ⟨_, rfl⟩
      have hf : 200000 < fu := by rw [hfu]; unfold FU; omega
      rw [← hfu]
      have k1 := to22 fu a0 (by omega) (by omega)
      have k2 := set22' fu a0 a1_Now a1_Owner a1_Tag a2_f0 (by omega) (by omega)
      rcases setF_cases a0 a1_Now a1_Owner a1_Tag a2_f0 with ⟨c, hc, he⟩ | ⟨a, he, hv, b1, b2, b3, b4, ha⟩
      · rw [he] at k2
        simp only [k1, k2, ieq_f.2 hc, show ile 0 0 = true from rfl, show ilt 0 2 = true from rfl]
      · rw [he] at k2
        have va : validB a = true := by have := setF_valid a0 a1_Now a1_Owner a1_Tag a2_f0; rw [he] at this; exact this
        have la : a.length ≤ 100 := (valid_iff.1 va).2.2
        have k3 := set22' fu a a1_Now a1_Owner a1_Tag a2_f1 (by omega) (by omega)
        have hbad : badT a1_Now a1_Owner a2_f1 = false := by
          unfold badT
          rw [b1, ilt_f.2 b2, ilt_f.2 b3, ilt_f.2 (show a2_f1 ≤ 1099511627776 by omega)]
          rfl
        have hset : setF a a1_Now a1_Owner a1_Tag a2_f1 = bif ilt a2_f1 0 then (noS ltT (newT a1_Now a1_Owner a1_Tag a2_f1) a, 0, ()) else bif ilt 100 (dlen (putS ltT (newT a1_Now a1_Owner a1_Tag a2_f1) a)) then ([], 6, ()) else (putS ltT (newT a1_Now a1_Owner a1_Tag a2_f1) a, 0, ()) := by
          unfold setF
          rw [va, hbad]
          rfl
        have hdue := newT_due (own := a1_Owner) (tag := a1_Tag) (ticks := a2_f1) b2 b3 (by omega)
        have hd2 : (newT a1_Now a1_Owner a1_Tag a2_f1).Due = iadd .i64 a1_Now (imax 1 a2_f1) := rfl
        have hd3 : a1_Now < (newT a1_Now a1_Owner a1_Tag a2_f1).Due := by rw [hdue]; split <;> omega
        rw [hset] at k3
        cases hneg : ilt a2_f1 0 with
        | true =>
          have hneg' := ilt_iff.1 hneg
          rw [hneg] at k3
          have lb : (noS ltT (newT a1_Now a1_Owner a1_Tag a2_f1) a).length ≤ a.length := noS_len
          have k4 := out6 hf (b := noS ltT (newT a1_Now a1_Owner a1_Tag a2_f1) a) (now := a1_Now) (own := a1_Owner) (tag := a1_Tag) (tk := a2_f1) (due := (newT a1_Now a1_Owner a1_Tag a2_f1).Due) (by omega) b2 hn' hd3
            (fun y hy hky => by
              have := (mem_noS.1 hy).2
              rw [key_same, hky] at this
              cases this) (fun h => by omega)
          rw [hd2] at k4
          simp only [k1, k2, k3, k4, show ieq 0 0 = true from rfl, show ile 0 0 = true from rfl, show ilt 0 2 = true from rfl, show ile 0 1 = true from rfl, show ilt 1 2 = true from rfl, cond_true]
        | false =>
          rw [hneg] at k3
          cases hbig : ilt 100 (dlen (putS ltT (newT a1_Now a1_Owner a1_Tag a2_f1) a)) with
          | true =>
            rw [hbig] at k3
            have hlt : a2_f0 < 0 := by
              rcases ha with ⟨h1, _⟩ | ⟨h1, h2, _⟩
              · exact h1
              · exfalso
                have hx0 : newT a1_Now a1_Owner a1_Tag a2_f0 ∈ a := by rw [h2]; exact mem_putS.2 (.inl rfl)
                have hky : kyT a1_Owner a1_Tag (newT a1_Now a1_Owner a1_Tag a2_f0) = true := by
                  unfold kyT newT
                  simp [ieq]
                have h3 := putS_len (lt := ltT) (l := a) (x := newT a1_Now a1_Owner a1_Tag a2_f1)
                have h4 : (noS ltT (newT a1_Now a1_Owner a1_Tag a2_f1) a).length < a.length := by
                  unfold noS
                  rw [List.length_filter_lt_length_iff_exists]
                  exact ⟨_, hx0, by rw [key_same, hky]; simp⟩
                have h5 := ilt_iff.1 hbig
                rw [dlen_def] at h5
                omega
            simp only [k1, k2, k3, show ieq 0 0 = true from rfl, show ieq 6 0 = false from rfl, show ieq 6 6 = true from rfl, show ile 0 0 = true from rfl, show ilt 0 2 = true from rfl, show ile 0 1 = true from rfl, show ilt 1 2 = true from rfl, cond_true, cond_false, ilt_iff.2 hlt]
          | false =>
            rw [hbig] at k3
            have lb := ilt_f.1 hbig
            rw [dlen_def] at lb
            have k4 := out6 hf (b := putS ltT (newT a1_Now a1_Owner a1_Tag a2_f1) a) (now := a1_Now) (own := a1_Owner) (tag := a1_Tag) (tk := a2_f1) (due := (newT a1_Now a1_Owner a1_Tag a2_f1).Due) (by omega) b2 hn' hd3
              (fun y hy hky => by
                refine ⟨ilt_f.1 hneg, ?_⟩
                rcases mem_putS.1 hy with rfl | ⟨_, h2⟩
                · rfl
                · rw [key_same, hky] at h2; cases h2)
              (fun _ => ⟨_, mem_putS.2 (.inl rfl), by unfold kyT newT; simp [ieq], rfl⟩)
            rw [hd2] at k4
            simp only [k1, k2, k3, k4, show ieq 0 0 = true from rfl, show ile 0 0 = true from rfl, show ilt 0 2 = true from rfl, show ile 0 1 = true from rfl, show ilt 1 2 = true from rfl, cond_false]
end Go.G
