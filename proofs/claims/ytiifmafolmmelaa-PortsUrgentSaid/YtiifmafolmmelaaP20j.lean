import Derived.Test.YtiifmafolmmelaaP20i
set_option linter.unusedVariables false
set_option linter.unusedSimpArgs false
namespace Go.G
set_option maxRecDepth 100000
set_option maxHeartbeats 4000000
theorem ofP_iff {y m : Msg20} : ofP y m = true ↔ y.Src = m.Src ∧ y.Dst = m.Dst := by
  unfold ofP
  rw [Bool.and_eq_true, ieq_iff, ieq_iff]
theorem bmp_src (m y : Msg20) : (bmp m y).Src = y.Src := by unfold bmp; cases ofP y m <;> rfl
theorem bmp_dst (m y : Msg20) : (bmp m y).Dst = y.Dst := by unfold bmp; cases ofP y m <;> rfl
theorem bmp_data (m y : Msg20) : (bmp m y).Data = y.Data := by unfold bmp; cases ofP y m <;> rfl
theorem bmp_isD (m y : Msg20) (d : Int) : isD d (bmp m y) = isD d y := by unfold isD; rw [bmp_dst]
theorem before_at {q : List Msg20} {d : Int} {z : Msg20} (h : z ∈ q.take (atD q d)) : isD d z = false := by
  rw [List.mem_take_iff_getElem] at h
  obtain ⟨i, hi, rfl⟩ := h
  have := List.not_of_lt_findIdx (p := isD d) (xs := q) (i := i) (by unfold atD at hi; omega)
  simpa using this
abbrev RisR (a b : Msg20) : Prop := a.Src = b.Src → a.Dst = b.Dst → a.Seq < b.Seq
theorem seqU_le {x : Msg20} {n0 : Int} : ∀ {q : List Msg20}, q.Pairwise RisR → ∀ z ∈ q, ofP z x = true → seqU x n0 q ≤ z.Seq
  | [], _, z, hz, _ => by cases hz
  | y :: q, hp, z, hz, ho => by
    rw [seqU_cons]
    obtain ⟨h1, h2⟩ := List.pairwise_cons.1 hp
    cases hy : ofP y x with
    | true =>
      simp only [cond_true]
      rcases List.mem_cons.1 hz with rfl | hz
      · exact Int.le_refl _
      · obtain ⟨a1, a2⟩ := ofP_iff.1 hy
        obtain ⟨b1, b2⟩ := ofP_iff.1 ho
        exact Int.le_of_lt (h1 z hz (a1.trans b1.symm) (a2.trans b2.symm))
    | false =>
      simp only [cond_false]
      rcases List.mem_cons.1 hz with rfl | hz
      · rw [hy] at ho; cases ho
      · exact seqU_le h2 z hz ho
theorem seqU_cases (x : Msg20) (n0 : Int) (q : List Msg20) : seqU x n0 q = n0 ∨ ∃ y ∈ q, ofP y x = true ∧ seqU x n0 q = y.Seq := by
  unfold seqU
  cases h : q.find? (fun y => ofP y x) with
  | none => exact .inl rfl
  | some y => exact .inr ⟨y, List.mem_of_find?_eq_some h, (by have := List.find?_some h; simpa using this), rfl⟩

section
variable {q : List Msg20} {p : List Pair20} {m : Msg20}

/-- What is known of a state to which a message is sent. -/
theorem urg_facts (hv : validB q p = true) (hl : lastP p m.Src m.Dst < 1099511627776) :
    (∀ y ∈ q, propB y = true ∧ 1 ≤ y.Seq ∧ y.Seq ≤ lastP p y.Src y.Dst ∧ iadd .i64 y.Seq 1 = y.Seq + 1) ∧ q.Pairwise RisR ∧ iadd .i64 (lastP p m.Src m.Dst) 1 = lastP p m.Src m.Dst + 1 ∧ 0 ≤ lastP p m.Src m.Dst := by
  obtain ⟨⟨v1, v2⟩, v3, v4⟩ := valid_iff.1 hv
  obtain ⟨h1, h2⟩ := adjQ_pw.1 v3
  refine ⟨fun y hy => ?_, h2, nmsg_seq v1 hl, (lastP_bound v1 _ _).1⟩
  obtain ⟨k1, k2, k3⟩ := h1 y hy
  have := lastP_bound v1 y.Src y.Dst
  exact ⟨k1, k2, k3, iadd64 (by omega)⟩

theorem bmp_pw (hv : validB q p = true) (hl : lastP p m.Src m.Dst < 1099511627776) : (q.map (bmp (nmsg p m))).Pairwise RisR := by
  obtain ⟨h1, h2, _⟩ := urg_facts hv hl
  rw [List.pairwise_map]
  refine List.Pairwise.imp_of_mem (fun {a b} ha hb hab e1 e2 => ?_) h2
  rw [bmp_src, bmp_src] at e1
  rw [bmp_dst, bmp_dst] at e2
  have hlt := hab e1 e2
  unfold bmp
  cases ha' : ofP a (nmsg p m) with
  | true =>
    have hb' : ofP b (nmsg p m) = true := by rw [ofP_iff] at ha' ⊢; exact ⟨e1.symm.trans ha'.1, e2.symm.trans ha'.2⟩
    rw [hb']
    show iadd .i64 a.Seq 1 < iadd .i64 b.Seq 1
    rw [(h1 a ha).2.2.2, (h1 b hb).2.2.2]
    omega
  | false =>
    have hb' : ofP b (nmsg p m) = false := by
      cases hq : ofP b (nmsg p m) with
      | false => rfl
      | true =>
        rw [ofP_iff] at hq
        have : ofP a (nmsg p m) = true := ofP_iff.2 ⟨e1.trans hq.1, e2.trans hq.2⟩
        rw [this] at ha'; cases ha'
    rw [hb']
    exact hlt

theorem urg_mem {y : Msg20} (h : y ∈ urgQ q (nmsg p m)) : y = wseq (nmsg p m) (seqU (nmsg p m) (nmsg p m).Seq q) ∨ ∃ z ∈ q, y = bmp (nmsg p m) z := by
  unfold urgQ at h
  rw [List.mem_append, List.mem_cons] at h
  rcases h with h | rfl | h
  · obtain ⟨z, hz, rfl⟩ := List.mem_map.1 (List.mem_of_mem_take h)
    exact .inr ⟨z, hz, rfl⟩
  · exact .inl rfl
  · obtain ⟨z, hz, rfl⟩ := List.mem_map.1 (List.mem_of_mem_drop h)
    exact .inr ⟨z, hz, rfl⟩

theorem urg_valid (hv : validB q p = true) (hp : propB m = true) (hq : q.length < 400) (hl : lastP p m.Src m.Dst < 1099511627776) : validB (urgQ q (nmsg p m)) (putS ltP (npr p m) p) = true := by
  obtain ⟨h1, h2, h3, h4⟩ := urg_facts hv hl
  have hsv := valid_iff.1 (sent_valid hv hp hq hl)
  obtain ⟨⟨v1, v2⟩, v3, v4⟩ := valid_iff.1 hv
  have hlast := fun s d => last_sent (m := m) v2 s d
  have hpw := bmp_pw hv hl
  have hx1 : 1 ≤ seqU (nmsg p m) (nmsg p m).Seq q ∧ seqU (nmsg p m) (nmsg p m).Seq q ≤ lastP p m.Src m.Dst + 1 := by
    rcases seqU_cases (nmsg p m) (nmsg p m).Seq q with h | ⟨y, hy, ho, h⟩
    · rw [h]
      have : (nmsg p m).Seq = lastP p m.Src m.Dst + 1 := h3
      omega
    · rw [h]
      obtain ⟨_, k2, k3, _⟩ := h1 y hy
      obtain ⟨o1, o2⟩ := ofP_iff.1 ho
      rw [o1, o2] at k3
      have k3 : y.Seq ≤ lastP p m.Src m.Dst := k3
      omega
  rw [valid_iff, adjQ_pw]
  refine ⟨hsv.1, ⟨fun y hy => ?_, ?_⟩, ?_⟩
  · rcases urg_mem hy with rfl | ⟨z, hz, rfl⟩
    · refine ⟨hp, hx1.1, ?_⟩
      show seqU (nmsg p m) (nmsg p m).Seq q ≤ lastP (putS ltP (npr p m) p) m.Src m.Dst
      rw [hlast, if_pos ⟨rfl, rfl⟩, h3]
      exact hx1.2
    · obtain ⟨k1, k2, k3, k4⟩ := h1 z hz
      refine ⟨?_, ?_, ?_⟩
      · unfold propB at k1 ⊢
        rw [bmp_src, bmp_dst, bmp_data]
        exact k1
      · unfold bmp
        cases ofP z (nmsg p m) with
        | true => show 1 ≤ iadd .i64 z.Seq 1; rw [k4]; omega
        | false => exact k2
      · rw [bmp_src, bmp_dst, hlast]
        unfold bmp
        cases ho : ofP z (nmsg p m) with
        | true =>
          obtain ⟨o1, o2⟩ := ofP_iff.1 ho
          rw [if_pos ⟨o1.symm, o2.symm⟩, h3]
          show iadd .i64 z.Seq 1 ≤ _
          rw [k4]
          rw [o1, o2] at k3
          have k3 : z.Seq ≤ lastP p m.Src m.Dst := k3
          omega
        | false =>
          rw [if_neg (fun e => by
            have : ofP z (nmsg p m) = true := ofP_iff.2 ⟨e.1.symm, e.2.symm⟩
            rw [this] at ho; cases ho)]
          exact k3
  · have hsplit := hpw
    rw [← List.take_append_drop (atD q (nmsg p m).Dst) (q.map (bmp (nmsg p m))), List.pairwise_append] at hsplit
    obtain ⟨s1, s2, s3⟩ := hsplit
    unfold urgQ
    rw [List.pairwise_append, List.pairwise_cons]
    refine ⟨s1, ⟨fun b hb e1 e2 => ?_, s2⟩, fun a ha b hb => ?_⟩
    · obtain ⟨z, hz, rfl⟩ := List.mem_map.1 (List.mem_of_mem_drop hb)
      rw [bmp_src] at e1
      rw [bmp_dst] at e2
      have ho : ofP z (nmsg p m) = true := ofP_iff.2 ⟨e1.symm, e2.symm⟩
      have hle := seqU_le (n0 := (nmsg p m).Seq) h2 z hz ho
      unfold bmp
      rw [ho]
      show seqU (nmsg p m) (nmsg p m).Seq q < iadd .i64 z.Seq 1
      rw [(h1 z hz).2.2.2]
      omega
    · rcases List.mem_cons.1 hb with rfl | hb
      · intro e1 e2
        exfalso
        rw [← List.map_take] at ha
        obtain ⟨z, hz, rfl⟩ := List.mem_map.1 ha
        have := before_at hz
        rw [bmp_dst] at e2
        unfold isD at this
        rw [ieq_f] at this
        exact this e2
      · exact s3 a ha b hb
  · have : (urgQ q (nmsg p m)).length = q.length + 1 := by
      unfold urgQ
      rw [List.length_append, List.length_cons, List.length_take, List.length_drop, List.length_map]
      omega
    omega

theorem urg_take : (urgQ q (nmsg p m)).find? (isD m.Dst) = some (wseq (nmsg p m) (seqU (nmsg p m) (nmsg p m).Seq q)) ∧ (urgQ q (nmsg p m)).eraseP (isD m.Dst) = q.map (bmp (nmsg p m)) := by
  have hx : isD m.Dst (wseq (nmsg p m) (seqU (nmsg p m) (nmsg p m).Seq q)) = true := ieq_iff.2 rfl
  have hno : ∀ a ∈ (q.map (bmp (nmsg p m))).take (atD q (nmsg p m).Dst), isD m.Dst a = false := fun a ha => by
    rw [← List.map_take] at ha
    obtain ⟨z, hz, rfl⟩ := List.mem_map.1 ha
    rw [bmp_isD]
    exact before_at hz
  unfold urgQ
  refine ⟨?_, ?_⟩
  · rw [List.find?_append, List.find?_eq_none.2 (fun a ha => by simp [hno a ha])]
    simp [hx]
  · rw [List.eraseP_append_right _ (fun a ha => by simp [hno a ha]), List.eraseP_cons_of_pos hx, List.take_append_drop]
end
end Go.G
