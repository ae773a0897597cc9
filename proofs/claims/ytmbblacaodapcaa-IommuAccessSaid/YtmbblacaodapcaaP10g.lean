import Derived.Test.YtmbblacaodapcaaP10f
set_option linter.unusedVariables false
set_option linter.unusedSimpArgs false
namespace Go.G
set_option maxRecDepth 100000
theorem cfl_symm (a b : Window10) : cfl a b = cfl b a := by
  simp only [cfl, confB]
  rw [ieq_comm, Bool.or_comm]

theorem trich {y w : Window10} (h1 : befW y w = false) (h2 : keyB w.Device w.Tag y = false) : befW w y = true := by
  simp only [befW, befB, keyB, Bool.or_eq_false_iff, Bool.and_eq_false_iff, ilt_f, ieq_f, Bool.or_eq_true, Bool.and_eq_true, ilt_iff, ieq_iff] at *
  omega

theorem val_insert {l : List Window10} {w : Window10} (h : Val l) (hp : prpW w = true) (hk : l.any (keyB w.Device w.Tag) = false) (hc : l.any (cfl w) = false) : Val (l.take (pos l w) ++ w :: l.drop (pos l w)) := by
  rw [List.any_eq_false] at hk hc
  have ht : ∀ x ∈ l.take (pos l w), befW x w = true := fun x hx => by
    obtain ⟨j, hj⟩ := List.getElem?_of_mem hx
    have h1 := getElem?_lt hj
    rw [List.length_take] at h1
    rw [List.getElem?_take_of_lt (by omega)] at hj
    exact pos_lt hj (by omega)
  have hd : ∀ x ∈ l.drop (pos l w), befW w x = true := fun x hx => by
    obtain ⟨j, hj⟩ := List.getElem?_of_mem hx
    rw [List.getElem?_drop] at hj
    exact trich (pos_ge h hj (by omega)) (by simpa using hk x (List.mem_of_getElem? hj))
  have hmt : ∀ x ∈ l.take (pos l w), x ∈ l := fun x hx => List.mem_of_mem_take hx
  have hmd : ∀ x ∈ l.drop (pos l w), x ∈ l := fun x hx => List.mem_of_mem_drop hx
  have hsplit := h.2
  rw [← List.take_append_drop (pos l w) l] at hsplit
  obtain ⟨s1, s2, s3⟩ := List.pairwise_append.1 hsplit
  refine ⟨fun x hx => ?_, List.pairwise_append.2 ⟨s1, List.pairwise_cons.2 ⟨fun y hy => ⟨hd y hy, ?_⟩, s2⟩, fun a ha b hb => ?_⟩⟩
  · rcases List.mem_append.1 hx with hx | hx
    · exact h.1 x (hmt x hx)
    · rcases List.mem_cons.1 hx with rfl | hx
      · exact hp
      · exact h.1 x (hmd x hx)
  · rw [cfl_symm]
    simpa using hc y (hmd y hy)
  · rcases List.mem_cons.1 hb with rfl | hb
    · exact ⟨ht a ha, by simpa using hc a (hmt a ha)⟩
    · exact s3 a ha b hb

/-- An opened table. -/
theorem openF_cases (l : List Window10) (w : Window10) : (openF l w).2.1 ≠ 0 ∧ (openF l w).1 = [] ∨
    (Val l ∧ prpW w = true ∧ l.any (keyB w.Device w.Tag) = false ∧ l.any (cfl w) = false ∧ openF l w = (l.take (pos l w) ++ w :: l.drop (pos l w), 0, ())) := by
  unfold openF
  cases hv : validB l with
  | false => exact .inl ⟨by simp, rfl⟩
  | true =>
    cases hp : prpW w with
    | false => exact .inl ⟨by simp, rfl⟩
    | true =>
      cases hk : l.any (keyB w.Device w.Tag) with
      | true => exact .inl ⟨by simp, rfl⟩
      | false =>
        cases hc : l.any (cfl w) with
        | true => exact .inl ⟨by simp, rfl⟩
        | false => exact .inr ⟨(valid_iff l).1 hv, rfl, rfl, rfl, rfl⟩

theorem excl_in (fu : Nat) (l : List Window10) (hV : Val l) (i : Nat) (hi : i < l.length) (hf : l.length < fu) (hl : l.length < 1000000000000) (n : Int) :
    iter (t5_5 fu) fu (l, ((i : Int), (n, ((i : Int), (dlen l, (0, ())))))) = some (.inl (l, (n, ((i : Int), ())))) := by
  have hx : l[i]? = some l[i] := List.getElem?_eq_getElem hi
  refine iter_run (step := t5_5 fu) (fu := fu) (fun k => (l, ((i : Int), (n, ((i : Int), (dlen l, ((k : Int), ()))))))) (n := l.length) (fun k hk => ?_) (by simp only [t5_5, dlen_def, ilt_end]) hf
  have hy : l[k]? = some l[k] := List.getElem?_eq_getElem hk
  simp only [t5_5, dlen_def, ilt_len hk, dat_nat, hx, hy, iadd1 (show k < 9223372036854775807 by omega)]
  cases he : ieq (i : Int) (k : Int) with
  | true => rfl
  | false =>
    rw [ieq_f] at he
    simp only
    cases hfr : ieq l[i].Frame l[k].Frame with
    | false => rfl
    | true =>
      simp only
      cases hw : l[i].Write with
      | false => rfl
      | true =>
        exfalso
        rcases Nat.lt_or_gt_of_ne (show i ≠ k by omega) with h | h
        · have := (val_get hV hx hy h).2
          rw [cfl_symm] at this
          simp [cfl, confB, hw, ieq_comm l[k].Frame, hfr] at this
        · have := (val_get hV hy hx h).2
          simp [cfl, confB, hw, ieq_comm l[k].Frame, hfr] at this

theorem excl_out (fu : Nat) (l : List Window10) (hV : Val l) (hf : l.length < fu) (hl : l.length < 1000000000000) : iter (t5_4 fu) fu (l, (dlen l, (0, ()))) = some (.inl ()) := by
  refine iter_run (step := t5_4 fu) (fu := fu) (fun i => (l, (dlen l, ((i : Int), ())))) (n := l.length) (fun i hi => ?_) (by simp only [t5_4, dlen_def, ilt_end]) hf
  have := excl_in fu l hV i hi hf hl (dlen l)
  simp only [dlen_def l] at this
  simp only [t5_4, dlen_def l, ilt_len hi, this, iadd1 (show i < 9223372036854775807 by omega)]
end Go.G
