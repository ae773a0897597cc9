import Derived.Test.YtbldiioafmcbmaaP14d
set_option linter.unusedVariables false
set_option linter.unusedSimpArgs false
namespace Go.G
set_option maxRecDepth 100000
theorem scan14 (fu : Nat) (w : List Alarm14) (id at_ n : Int) (l : List Alarm14) (hf : w.length < fu) (hl : w.length < 1000000000000) :
    iter (t20_2 fu) fu (id, (at_, ((), ((), (w, (0, ((0, ((), ())), ((n, (l, ())), ())))))))) = some (.inl (id, (at_, ((), ((), (w, (((pos w id : Nat) : Int), ((0, ((), ())), ((n, (l, ())), ()))))))))) := by
  have hle := pos_le w id
  refine iter_run (step := t20_2 fu) (fu := fu) (fun i => (id, (at_, ((), ((), (w, ((i : Int), ((0, ((), ())), ((n, (l, ())), ()))))))))) (n := pos w id) (fun i hi => ?_) ?_ (by omega)
  · have hx : w[i]? = some w[i] := List.getElem?_eq_getElem (by omega)
    have := pos_lt hx hi
    simp only [t20_2, dlen_def, ilt_len (show i < w.length by omega), dat_nat, hx, ilt_iff.2 this, iadd1 (show i < 9223372036854775807 by omega)]
  · by_cases hlt : pos w id < w.length
    · have hx : w[pos w id]? = some w[pos w id] := List.getElem?_eq_getElem hlt
      have := pos_at hx
      simp only [t20_2, dlen_def, ilt_len hlt, dat_nat, hx, ilt_f.2 this]
    · simp only [t20_2, dlen_def, show ilt ((pos w id : Nat) : Int) (w.length : Int) = false from ilt_f.2 (by omega)]

theorem noK_len (l : List Alarm14) (id : Int) : (noK id l).length ≤ l.length := List.length_filter_le _ _

theorem setR (fu : Nat) (n : Int) (l : List Alarm14) (id at_ : Int) (hf : l.length < fu) (hl : l.length < 1000000000) : s20 fu n l id at_ = some (setF n l id at_) := by
  unfold s20 setF
  rw [validR fu n l hf (by omega)]
  cases hv : validB n l with
  | false => rfl
  | true =>
    obtain ⟨hV, _, _, hlen⟩ := (valid_iff n l).1 hv
    simp only [Bool.not_true, cond_false]
    cases h1 : ilt id 0 with
    | true => rfl
    | false =>
      cases h2 : ile at_ n with
      | true => rfl
      | false =>
        cases h3 : ilt 1099511627776 at_ with
        | true => rfl
        | false =>
          simp only [Bool.or_false, cond_false]
          rw [without14 fu l id hf (by omega)]
          have hnl := noK_len l id
          simp only
          cases h4 : ile 32 (dlen (noK id l)) with
          | true => rfl
          | false =>
            simp only [cond_false]
            rw [scan14 fu (noK id l) id at_ n l (by omega) (by omega), pos_noK hV id]
            have hle := pos_le (noK id l) id
            rw [pos_noK hV id] at hle
            simp only [dlen_def (noK id l)]
            rw [dsub0 hle]
            simp only
            have d1 : dapp 16 [] ((noK id l).take (pos l id)) = some ((noK id l).take (pos l id)) := by
              have := dapp_ok (bytes := 16) (l := ([] : List Alarm14)) (ys := (noK id l).take (pos l id)) (by simp; omega) (by simp; omega)
              simpa using this
            rw [d1]
            simp only
            rw [dapp_ok (by simp; omega) (by simp; omega)]
            simp only
            rw [dsub_ok hle (Nat.le_refl _)]
            simp only [List.take_length]
            rw [dapp_ok (by simp; omega) (by simp; omega)]
            simp [setL, stT]

theorem setL_len (l : List Alarm14) (id at_ : Int) : (setL l id at_).length ≤ l.length + 1 := by
  unfold setL
  have := noK_len l id
  simp
  omega
theorem setF_len (n : Int) (l : List Alarm14) (id at_ : Int) : (setF n l id at_).1.2.1.length ≤ l.length + 1 := by
  unfold setF
  have := setL_len l id at_
  cases validB n l <;> cases (ilt id 0 || (ile at_ n || ilt 1099511627776 at_)) <;> cases ile 32 (dlen (noK id l)) <;> simp [stT]
  exact this

theorem val_noK {n : Int} {l : List Alarm14} (h : Val n l) (id : Int) : Val n (noK id l) := h.sub List.filter_sublist

theorem val_set {n : Int} {l : List Alarm14} {id at_ : Int} (h : Val n l) (he : okE n ⟨id, at_⟩) : Val n (setL l id at_) := by
  have hN := val_noK h id
  have hp := pos_noK h id
  unfold setL
  rw [← hp]
  have ht : ∀ x ∈ (noK id l).take (pos (noK id l) id), x.ID < id := fun x hx => take_lt hx
  have hd : ∀ x ∈ (noK id l).drop (pos (noK id l) id), id < x.ID := fun x hx => by
    have h1 := drop_ge hN (Nat.le_refl _) hx
    have h2 : x ∈ noK id l := List.mem_of_mem_drop hx
    unfold noK at h2
    have h3 := (List.mem_filter.1 h2).2
    simp only [keyB, Bool.not_eq_true', ieq_f] at h3
    omega
  have hsplit := hN.2
  rw [← List.take_append_drop (pos (noK id l) id) (noK id l)] at hsplit
  obtain ⟨s1, s2, s3⟩ := List.pairwise_append.1 hsplit
  refine ⟨fun x hx => ?_, List.pairwise_append.2 ⟨s1, List.pairwise_cons.2 ⟨fun y hy => hd y hy, s2⟩, fun a ha b hb => ?_⟩⟩
  · rcases List.mem_append.1 hx with hx | hx
    · exact hN.1 x (List.mem_of_mem_take hx)
    · rcases List.mem_cons.1 hx with rfl | hx
      · exact he
      · exact hN.1 x (List.mem_of_mem_drop hx)
  · rcases List.mem_cons.1 hb with rfl | hb
    · exact ht a ha
    · exact s3 a ha b hb

/-- What Set hands back is valid. -/
theorem setF_valid (n : Int) (l : List Alarm14) (id at_ : Int) : validB (setF n l id at_).1.1 (setF n l id at_).1.2.1 = true := by
  have h0 : validB 0 [] = true := by rw [valid_iff]; exact ⟨⟨by simp, by simp⟩, by omega, by omega, by simp⟩
  unfold setF
  cases hv : validB n l with
  | false => exact h0
  | true =>
    simp only [Bool.not_true, cond_false]
    cases h1 : (ilt id 0 || (ile at_ n || ilt 1099511627776 at_)) with
    | true => exact h0
    | false =>
      simp only [cond_false]
      cases h4 : ile 32 (dlen (noK id l)) with
      | true => exact h0
      | false =>
        obtain ⟨hV, e1, e2, e3⟩ := (valid_iff n l).1 hv
        simp only [Bool.or_eq_false_iff, ilt_f, ile_f] at h1
        rw [ile_f, dlen_def] at h4
        show validB n (setL l id at_) = true
        rw [valid_iff]
        refine ⟨val_set hV ⟨h1.1, h1.2.1, h1.2.2⟩, e1, e2, ?_⟩
        unfold setL
        simp
        omega
end Go.G
