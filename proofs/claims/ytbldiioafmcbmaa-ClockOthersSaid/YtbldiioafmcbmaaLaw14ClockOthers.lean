import Derived.Test.YtbldiioafmcbmaaP14k
set_option linter.unusedVariables false
set_option linter.unusedSimpArgs false
namespace Go.G
set_option maxRecDepth 100000
theorem setF_cases (n : Int) (l : List Alarm14) (id at_ : Int) : (∃ c, c ≠ 0 ∧ setF n l id at_ = (stT 0 [], c, ())) ∨
    (setF n l id at_ = (stT n (setL l id at_), 0, ()) ∧ validB n l = true ∧ 0 ≤ id ∧ n < at_ ∧ at_ ≤ 1099511627776) := by
  unfold setF
  cases hv : validB n l with
  | false => exact .inl ⟨1, by decide, rfl⟩
  | true =>
    simp only [Bool.not_true, cond_false]
    cases h1 : (ilt id 0 || (ile at_ n || ilt 1099511627776 at_)) with
    | true => exact .inl ⟨2, by decide, rfl⟩
    | false =>
      cases h2 : ile 32 (dlen (noK id l)) with
      | true => exact .inl ⟨6, by decide, rfl⟩
      | false =>
        simp only [Bool.or_eq_false_iff, ilt_f, ile_f] at h1
        exact .inr ⟨rfl, trivial, h1.1, h1.2.1, h1.2.2⟩
theorem same7 : t7_25 = t7_9 := rfl
abbrev X7 := (Int × ((List Alarm14) × Unit))
theorem there7 (fu : Nat) (b a s : List Alarm14) (nb na n o1 o2 id at_ : Int) (hf : s.length < fu) (hl : s.length < 1000000000) :
    iter (t7_5 fu) fu ((), ((), ((), ((), ((), (false, (dlen s, (0, ((nb, (b, ())), ((na, (a, ())), ((o1, (o2, ())), ((id, (at_, ())), ((n, (s, ())), ()))))))))))))) =
      some (.inl ((), ((), ((), ((), ((), (s.any (keyB id), ((nb, (b, ())), ((na, (a, ())), ((o1, (o2, ())), ((id, (at_, ())), ((n, (s, ())), ())))))))))))) := by
  have := iter_fold (step := t7_5 fu) (fu := fu) s (fun j acc => ((), ((), ((), ((), ((), (acc, (dlen s, ((j : Int), ((nb, (b, ())), ((na, (a, ())), ((o1, (o2, ())), ((id, (at_, ())), ((n, (s, ())), ()))))))))))))))
    (fun x acc => acc || keyB id x) (fun _ _ => True) (fun acc => .inl ((), ((), ((), ((), ((), (acc, ((nb, (b, ())), ((na, (a, ())), ((o1, (o2, ())), ((id, (at_, ())), ((n, (s, ())), ())))))))))))) false hf trivial
    (fun j x acc hi _ => by
      have h1 := getElem?_lt hi
      simp only [t7_5, dlen_def, dat_nat, hi, ilt_len h1, iadd1 (show j < 9223372036854775807 by omega)]
      cases acc <;> first | exact trivial | exact ⟨rfl, trivial⟩)
    (fun acc _ => by simp only [t7_5, dlen_def, ilt_end])
  rw [show ((0 : Nat) : Int) = 0 from rfl] at this
  rw [this]
  have h2 : ∀ (m : List Alarm14) (b : Bool), m.foldl (fun acc x => acc || keyB id x) b = (b || m.any (keyB id)) := by
    intro m
    induction m with
    | nil => simp
    | cons x m ih => intro b; rw [List.foldl_cons, ih, List.any_cons, Bool.or_assoc]
  rw [h2]
  simp
theorem keep7 (fu : Nat) (b a s : List Alarm14) (nb na n o1 o2 id at_ : Int) (hf : s.length < fu) (hl : s.length < 1000000000) (ha : a.length < fu) (ha' : a.length < 1000000000) (hb : b.length < fu) (hb' : b.length < 1000000000)
    (h : ∀ y ∈ s, y.ID ≠ id → y ∈ a ∧ y ∈ b) :
    iter (t7_9 fu) fu ((), ((), ((), ((), ((), (dlen s, (0, ((nb, (b, ())), ((na, (a, ())), ((o1, (o2, ())), ((id, (at_, ())), ((n, (s, ())), ())))))))))))) =
      some (.inl ((), ((), ((), ((), ((nb, (b, ())), ((na, (a, ())), ((o1, (o2, ())), ((id, (at_, ())), ((n, (s, ())), ())))))))))) := by
  have := iter_run (step := t7_9 fu) (fun j => ((), ((), ((), ((), ((), (dlen s, ((j : Int), ((nb, (b, ())), ((na, (a, ())), ((o1, (o2, ())), ((id, (at_, ())), ((n, (s, ())), ())))))))))))))
    (n := s.length) (e := .inl ((), ((), ((), ((), ((nb, (b, ())), ((na, (a, ())), ((o1, (o2, ())), ((id, (at_, ())), ((n, (s, ())), ()))))))))))
    (fun j hj => by
      have hi : s[j]? = some s[j] := List.getElem?_eq_getElem hj
      simp only [t7_9, dlen_def, dat_nat, hi, ilt_len hj, iadd1 (show j < 9223372036854775807 by omega)]
      cases hk : ieq s[j].ID id with
      | true => rfl
      | false =>
        obtain ⟨m1, m2⟩ := h s[j] (List.getElem_mem hj) (ieq_f.1 hk)
        have e1 : hasB a s[j].ID s[j].At = true := hasB_iff.2 m1
        have e2 : hasB b s[j].ID s[j].At = true := hasB_iff.2 m2
        simp only [has14 fu na a _ _ ha ha', has14 fu nb b _ _ hb hb', e1, e2])
    (by simp only [t7_9, dlen_def, ilt_end]) hf
  exact this
theorem law7_at (fu : Nat) (hf : 1000 < fu) (ha : s9 fu = some (true, ())) (n : Int) (l : List Alarm14) (id at_ o1 o2 : Int) : s7 fu n l id at_ o1 o2 = some (true, ()) := by
  unfold s7
  rw [ha]
  simp only
  cases h : ilt 50 (dlen l) with
  | true => rfl
  | false =>
    rw [ilt_f, dlen_def] at h
    simp only
    rw [to14 fu n l (by omega) (by omega)]
    simp only
    rw [set14 fu n l id at_ (by omega) (by omega)]
    have hsl := setF_len n l id at_
    have hsv := setF_valid n l id at_
    rcases setF_cases n l id at_ with ⟨c, hc, he⟩ | ⟨he, hv, hid, hat1, hat2⟩
    · rw [he]
      simp only [ieq_f.2 hc, stT]
      rfl
    · rw [he] at hsl hsv ⊢
      simp only [stT] at hsl hsv
      have hnl := noK_len l id
      have hany : (setL l id at_).any (keyB id) = true := List.any_eq_true.2 ⟨_, mem_setL.2 (.inl rfl), ieq_iff.2 rfl⟩
      have hcan : cancelF n (setL l id at_) id = (stT n (noK id l), 0, ()) := by
        unfold cancelF
        rw [hsv, hany, noK_setL]
        rfl
      have hhas : hasB (setL l id at_) id at_ = true := hasB_iff.2 (mem_setL.2 (.inl rfl))
      simp only [stT, ieq_iff.2 rfl, cancel14 fu n _ id (show (setL l id at_).length < fu by omega) (by omega), hcan, has14 fu n (setL l id at_) id at_ (by omega) (by omega), hhas,
        there7 fu (noK id l) (setL l id at_) l n n n o1 o2 id at_ (by omega) (by omega)]
      have hk := keep7 fu (noK id l) (setL l id at_) l n n n o1 o2 id at_ (by omega) (by omega) (by omega) (by omega) (by omega) (by omega) (fun y hy hne => ⟨mem_setL.2 (.inr ⟨hy, hne⟩), mem_noK.2 ⟨hy, hne⟩⟩)
      have hlast : ∀ (p q : (Int × List Alarm14 × Unit) × List Int × Unit), p = tickF n l → q = tickF n (setL l id at_) → (match ieq n 1099511627776 with
          | false => (match ieq o1 id with
            | false => (match s25 fu p.1.1 p.1.2.1 o1 o2 with
              | none => none
              | some y34 => match s25 fu q.1.1 q.1.2.1 o1 o2 with
                | none => none
                | some y35 => some (beqb y34.1 y35.1, ()))
            | true => some (true, ()))
          | true => some (true, ())) = some (true, ()) := by
        rintro p q rfl rfl
        cases hm : ieq n 1099511627776 with
        | true => rfl
        | false =>
          cases ho : ieq o1 id with
          | true => rfl
          | false =>
            rw [ieq_f] at hm ho
            have hn2 := ((valid_iff n l).1 hv).2.2.1
            rw [tick_ok hv (by omega), tick_ok hsv (by omega)]
            have r1 : (rest (n + 1) l).length ≤ l.length := List.length_filter_le _ _
            have r2 : (rest (n + 1) (setL l id at_)).length ≤ (setL l id at_).length := List.length_filter_le _ _
            simp only [stT, has14 fu (n + 1) (rest (n + 1) l) o1 o2 (by omega) (by omega), has14 fu (n + 1) (rest (n + 1) (setL l id at_)) o1 o2 (by omega) (by omega)]
            have : hasB (rest (n + 1) l) o1 o2 = hasB (rest (n + 1) (setL l id at_)) o1 o2 := by
              rw [Bool.eq_iff_iff, hasB_iff, hasB_iff, mem_rest, mem_rest, mem_setL]
              constructor
              · rintro ⟨m1, m2⟩; exact ⟨.inr ⟨m1, ho⟩, m2⟩
              · rintro ⟨m1 | m1, m2⟩
                · cases m1; exact absurd rfl ho
                · exact ⟨m1.1, m2⟩
            rw [this]
            cases hasB (rest (n + 1) (setL l id at_)) o1 o2 <;> rfl
      cases hth : l.any (keyB id) with
      | true =>
        simp only [hk, to14 fu n l (show l.length < fu by omega) (by omega), tick14 fu n l (show l.length < fu by omega) (by omega), tick14 fu n (setL l id at_) (by omega) (by omega)]
        exact hlast _ _ rfl rfl
      | false =>
        simp only [noK_none hth, from14 fu n l (show l.length < fu by omega) (by omega), eqR14 fu n l n l (show l.length < fu by omega) (by omega), eqS_self]
        rw [noK_none hth] at hk
        rw [same7]
        simp only [hk, to14 fu n l (show l.length < fu by omega) (by omega), tick14 fu n l (show l.length < fu by omega) (by omega), tick14 fu n (setL l id at_) (by omega) (by omega)]
        exact hlast _ _ rfl rfl
/-- ClockOthers is true. -/
theorem law7 (a0_Now : Int) (a0_Alarms : List Alarm14) (a1_ID : Int) (a1_At : Int) (a2_ID : Int) (a2_At : Int) (_ : WfA A7 ((a0_Now, a0_Alarms, ()), (a1_ID, a1_At, ()), (a2_ID, a2_At, ()), ())) : s7 FU a0_Now a0_Alarms a1_ID a1_At a2_ID a2_At = some (true, ()) := law7_at FU (by decide) aw14 _ _ _ _ _ _
end Go.G
