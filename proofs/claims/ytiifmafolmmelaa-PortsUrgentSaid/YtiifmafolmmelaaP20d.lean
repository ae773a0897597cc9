import Derived.Test.YtiifmafolmmelaaP20c
import Derived.Test.YtiifmafolmmelaaGlue20
set_option linter.unusedVariables false
set_option linter.unusedSimpArgs false
namespace Go.G
set_option maxRecDepth 100000
set_option maxHeartbeats 2000000
theorem keyP_same (s d : Int) (x : Pair20) : keyP s d x = same ltP x ⟨s, d, 0⟩ := by rw [key20]; rfl
theorem lastP_mem {p : List Pair20} (hs : Srt ltP p) {y : Pair20} (hy : y ∈ p) : lastP p y.Src y.Dst = y.Seq := by
  unfold lastP
  cases h : p.find? (keyP y.Src y.Dst) with
  | none =>
    have := List.find?_eq_none.1 h y hy
    exact absurd (by unfold keyP; rw [ieq_iff.2 rfl, ieq_iff.2 rfl]; rfl) this
  | some z =>
    have h1 := List.find?_some h
    have h2 := List.mem_of_find?_eq_some h
    have hsame : same ltP z y = true := by rw [key20]; exact h1
    obtain ⟨i, hi⟩ := List.getElem?_of_mem h2
    obtain ⟨j, hj⟩ := List.getElem?_of_mem hy
    have e1 := same_at ordP hs hi hsame
    have e2 := same_at ordP hs hj (show same ltP y y = true by simp [same, ordP.irr])
    rw [e1, ← e2, hj] at hi
    cases hi
    rfl
theorem lastP_none {p : List Pair20} {s d : Int} (h : ∀ y ∈ p, ¬ (y.Src = s ∧ y.Dst = d)) : lastP p s d = 0 := by
  unfold lastP
  have : p.find? (keyP s d) = none := List.find?_eq_none.2 (fun y hy hk => by
    unfold keyP at hk
    rw [Bool.and_eq_true, ieq_iff, ieq_iff] at hk
    exact h y hy hk)
  rw [this]
theorem lastP_put {p : List Pair20} (hs : Srt ltP p) (x : Pair20) (s d : Int) : lastP (putS ltP x p) s d = if x.Src = s ∧ x.Dst = d then x.Seq else lastP p s d := by
  have hs' := srt_putS ordP hs x
  by_cases h : x.Src = s ∧ x.Dst = d
  · rw [if_pos h, ← h.1, ← h.2]
    exact lastP_mem hs' (mem_putS.2 (.inl rfl))
  · rw [if_neg h]
    by_cases hx : ∃ y ∈ p, y.Src = s ∧ y.Dst = d
    · obtain ⟨y, hy, h1, h2⟩ := hx
      have hy' : y ∈ putS ltP x p := mem_putS.2 (.inr ⟨hy, by
        rw [key20]
        cases e : (ieq y.Src x.Src && ieq y.Dst x.Dst) with
        | false => rfl
        | true =>
          rw [Bool.and_eq_true, ieq_iff, ieq_iff] at e
          exact absurd ⟨e.1.symm.trans h1, e.2.symm.trans h2⟩ h⟩)
      rw [← h1, ← h2, lastP_mem hs' hy', lastP_mem hs hy]
    · rw [lastP_none (fun y hy hh => hx ⟨y, hy, hh⟩), lastP_none (fun y hy hh => ?_)]
      rcases mem_putS.1 hy with rfl | hy
      · exact h hh
      · exact hx ⟨y, hy.1, hh⟩
theorem adjQ_iff {q : List Msg20} {p : List Pair20} : adjQ q p = true ↔ ∀ i m, q[i]? = some m → okQ p (q.take i) m = true := by
  unfold adjQ
  rw [allI_iff]
  simp only [Nat.zero_add]
theorem okQ_iff {p : List Pair20} {pre : List Msg20} {m : Msg20} : okQ p pre m = true ↔ propB m = true ∧ (∀ x ∈ pre, x.Src = m.Src → x.Dst = m.Dst → x.Seq < m.Seq) ∧ 1 ≤ m.Seq ∧ m.Seq ≤ lastP p m.Src m.Dst := by
  unfold okQ risB ofP
  simp only [Bool.and_eq_true, Bool.not_eq_true', List.any_eq_false, ieq_iff, ile_iff, not_and, Int.not_le]
  constructor
  · rintro ⟨h1, h2, h3, h4⟩; exact ⟨h1, fun x hx a b => h2 x hx ⟨a, b⟩, h3, h4⟩
  · rintro ⟨h1, h2, h3, h4⟩; exact ⟨h1, fun x hx ⟨a, b⟩ => h2 x hx a b, h3, h4⟩
theorem seq_le {q : List Msg20} {p : List Pair20} (h : adjQ q p = true) : ∀ m ∈ q, m.Seq ≤ lastP p m.Src m.Dst ∧ 1 ≤ m.Seq ∧ propB m = true := fun m hm => by
  obtain ⟨i, hi⟩ := List.getElem?_of_mem hm
  have := okQ_iff.1 (adjQ_iff.1 h i m hi)
  exact ⟨this.2.2.2, this.2.2.1, this.1⟩
theorem valid_nil : validB [] [] = true := by rw [valid_iff]; exact ⟨⟨by simp, by simp [Srt]⟩, rfl, by simp⟩
theorem sendF_cases (q : List Msg20) (p : List Pair20) (m : Msg20) : (∃ c, c ≠ 0 ∧ sendF q p m = (stT [] [], c, ())) ∨
    (sendF q p m = (stT (q ++ [nmsg p m]) (putS ltP (npr p m) p), 0, ()) ∧ validB q p = true ∧ propB m = true ∧ q.length < 400 ∧ lastP p m.Src m.Dst < 1099511627776) := by
  unfold sendF
  cases validB q p with
  | false => exact .inl ⟨1, by decide, rfl⟩
  | true =>
    cases propB m with
    | false => exact .inl ⟨2, by decide, rfl⟩
    | true =>
      cases h : (ile 400 (dlen q) || ile 1099511627776 (lastP p m.Src m.Dst)) with
      | true => exact .inl ⟨6, by decide, rfl⟩
      | false =>
        rw [Bool.or_eq_false_iff, ile_f, ile_f, dlen_def] at h
        exact .inr ⟨rfl, rfl, rfl, by omega, h.2⟩
theorem nmsg_seq {p : List Pair20} {m : Msg20} (h : ∀ x ∈ p, okP x = true) (h2 : lastP p m.Src m.Dst < 1099511627776) : iadd .i64 (lastP p m.Src m.Dst) 1 = lastP p m.Src m.Dst + 1 := by
  have := lastP_bound h m.Src m.Dst
  exact iadd64 (by omega)
theorem last_sent {p : List Pair20} {m : Msg20} (hs : Srt ltP p) (s d : Int) : lastP (putS ltP (npr p m) p) s d = if m.Src = s ∧ m.Dst = d then iadd .i64 (lastP p m.Src m.Dst) 1 else lastP p s d := lastP_put hs _ s d
theorem sent_valid {q : List Msg20} {p : List Pair20} {m : Msg20} (hv : validB q p = true) (hp : propB m = true) (hq : q.length < 400) (hl : lastP p m.Src m.Dst < 1099511627776) : validB (q ++ [nmsg p m]) (putS ltP (npr p m) p) = true := by
  obtain ⟨⟨v1, v2⟩, v3, v4⟩ := valid_iff.1 hv
  have hseq := nmsg_seq v1 hl
  have hb := lastP_bound v1 m.Src m.Dst
  have hlast := fun s d => last_sent (m := m) v2 s d
  rw [valid_iff]
  refine ⟨⟨fun x hx => ?_, srt_putS ordP v2 _⟩, adjQ_iff.2 fun i x hi => ?_, by simp; omega⟩
  · rcases mem_putS.1 hx with rfl | hx
    · rw [okP_iff]
      unfold propB at hp
      rw [Bool.and_eq_true, Bool.and_eq_true] at hp
      refine ⟨hp.1, hp.2.1, ?_, ?_⟩
      · show 1 ≤ iadd .i64 (lastP p m.Src m.Dst) 1; rw [hseq]; omega
      · show iadd .i64 (lastP p m.Src m.Dst) 1 ≤ 1099511627776; rw [hseq]; omega
    · exact v1 x hx.1
  · rw [okQ_iff]
    have hilt := getElem?_lt hi
    rw [List.length_append, List.length_singleton] at hilt
    by_cases hlt : i < q.length
    · rw [List.getElem?_append_left hlt] at hi
      obtain ⟨k1, k2, k3, k4⟩ := okQ_iff.1 (adjQ_iff.1 v3 i x hi)
      rw [List.take_append_of_le_length (by omega), hlast]
      refine ⟨k1, k2, k3, ?_⟩
      split
      · rename_i e
        rw [hseq, e.1, e.2]
        omega
      · exact k4
    · have hiq : i = q.length := by omega
      subst hiq
      rw [List.getElem?_append_right (Nat.le_refl _), Nat.sub_self] at hi
      cases hi
      rw [List.take_append_of_le_length (Nat.le_refl _), List.take_length]
      refine ⟨hp, fun x hx e1 e2 => ?_, ?_, ?_⟩
      · have := (seq_le v3 x hx).1
        have e1' : x.Src = m.Src := e1
        have e2' : x.Dst = m.Dst := e2
        rw [e1', e2'] at this
        show x.Seq < iadd .i64 (lastP p m.Src m.Dst) 1
        rw [hseq]
        omega
      · show 1 ≤ iadd .i64 (lastP p m.Src m.Dst) 1
        rw [hseq]
        omega
      · show iadd .i64 (lastP p m.Src m.Dst) 1 ≤ lastP (putS ltP (npr p m) p) m.Src m.Dst
        rw [hlast, if_pos ⟨rfl, rfl⟩]
        exact Int.le_refl _
theorem sendF_valid (q : List Msg20) (p : List Pair20) (m : Msg20) : validB (sendF q p m).1.1 (sendF q p m).1.2.1 = true := by
  rcases sendF_cases q p m with ⟨c, _, he⟩ | ⟨he, h1, h2, h3, h4⟩
  · rw [he]; exact valid_nil
  · rw [he]; exact sent_valid h1 h2 h3 h4
theorem sendF_len (q : List Msg20) (p : List Pair20) (m : Msg20) : (sendF q p m).1.1.length ≤ 400 ∧ (sendF q p m).1.2.1.length ≤ p.length + 1 := by
  refine ⟨(valid_iff.1 (sendF_valid q p m)).2.2, ?_⟩
  rcases sendF_cases q p m with ⟨c, _, he⟩ | ⟨he, h1, h2, h3, h4⟩
  · rw [he]; simp
  · rw [he]
    show (putS ltP (npr p m) p).length ≤ _
    rw [putS_len]
    have := noS_len (lt := ltP) (l := p) (x := npr p m)
    omega
theorem rgq_of {q : List Msg20} (h : WfC (T := C20) (.d (.sl U20.msg q))) : q.length ≤ 9223372036854775807 := by
  have h1 : WfD C20 (.sl U20.msg q) := h
  exact h1.of_sl.1
end Go.G
