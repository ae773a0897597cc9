import Derived.Test.YtmbblacaodapcaaP10d
set_option linter.unusedVariables false
set_option linter.unusedSimpArgs false
namespace Go.G
set_option maxRecDepth 100000
theorem walk_scan {α σ ε : Type} (c : α → Bool) (upd : Nat → α → σ → σ) (e : ε) (I : Nat → σ → Prop) : ∀ (r : List α) (k : Nat) (s : σ), I k s → (∀ i a s, r[i]? = some a → c a = false → I (k + i) s → I (k + i + 1) (upd (k + i) a s)) →
    (r.any c = true ∧ walkI (fun i x s => if c x then .inr e else .inl (upd i x s)) r k s = .inr e) ∨ (r.any c = false ∧ ∃ s', walkI (fun i x s => if c x then Sum.inr e else Sum.inl (upd i x s)) r k s = .inl s' ∧ I (k + r.length) s')
  | [], k, s, h, _ => .inr ⟨rfl, s, rfl, h⟩
  | a :: r, k, s, h, hs => by
    simp only [walkI, List.any_cons]
    cases hc : c a with
    | true => exact .inl ⟨rfl, by simp⟩
    | false =>
      have h1 := hs 0 a s rfl hc h
      rcases walk_scan c upd e I r (k + 1) (upd k a s) h1 (fun i b t hb hcb ht => by
        have := hs (i + 1) b t (by simpa using hb) hcb (by rw [show k + (i + 1) = k + 1 + i by omega]; exact ht)
        rw [show k + (i + 1) = k + 1 + i by omega] at this
        exact this) with ⟨q1, q2⟩ | ⟨q1, s', q2, q3⟩
      · exact .inl ⟨by simpa using q1, by simpa using q2⟩
      · refine .inr ⟨by simpa using q1, s', by simpa using q2, ?_⟩
        rw [List.length_cons, show k + (r.length + 1) = k + 1 + r.length by omega]
        exact q3

theorem openR (fu : Nat) (l : List Window10) (w : Window10) (hf : l.length < fu) (hl : l.length < 1000000000) : s12 fu l w.Device w.Tag w.Frame w.Write = some (openF l w) := by
  unfold s12 openF
  rw [validR fu l hf (by omega)]
  cases hv : validB l with
  | false => rfl
  | true =>
    have hV := (valid_iff l).1 hv
    simp only [Bool.not_true, cond_false, properR]
    have hpw : properB w.Device w.Tag w.Frame = prpW w := rfl
    rw [hpw]
    cases hp : prpW w with
    | false => rfl
    | true =>
      simp only [Bool.not_true, cond_false]
      rw [findR fu l _ _ hf (by omega)]
      simp only [find_ok]
      cases hk : l.any (keyB w.Device w.Tag) with
      | true => rfl
      | false =>
        simp only [cond_false]
        have hle := pos_le l w
        have hiw := iter_walk (step := t12_3 fu) (fu := fu) (ε := (List Window10 × (Unit × (Int × ((Int × (Int × (Int × (Bool × Unit)))) × Unit)))) ⊕ ((List Window10 × (Int × ((Int × (Int × (Int × (Bool × Unit)))) × Unit))) ⊕ Empty)) l
          (fun j (k : Int) => (l, ((), (k, ((j : Int), ((w.Device, (w.Tag, (w.Frame, (w.Write, ())))), ())))))) (fun i x k => if cfl w x then .inr (.inr (.inl ([], (12, ((w.Device, (w.Tag, (w.Frame, (w.Write, ())))), ()))))) else .inl (if befW x w then ((i + 1 : Nat) : Int) else k))
          (fun _ _ => True) (fun k => .inl (l, ((), (k, ((w.Device, (w.Tag, (w.Frame, (w.Write, ())))), ()))))) 0 hf trivial
          (fun i x k hi _ => by
            have h1 := getElem?_lt hi
            simp only [t12_3, dlen_def l, dat_nat, hi, ilt_len h1, iadd1 (show i < 9223372036854775807 by omega), confR, befR]
            have hc : confB x.Frame x.Write w.Frame w.Write = cfl w x := rfl
            have hb : befB x.Device x.Tag w.Device w.Tag = befW x w := rfl
            rw [hc, hb]
            cases cfl w x with
            | true => rfl
            | false =>
              cases befW x w with
              | true => exact ⟨rfl, trivial⟩
              | false => exact ⟨rfl, trivial⟩)
          (fun k _ => by simp only [t12_3, dlen_def, ilt_end])
        rw [show ((0 : Nat) : Int) = 0 from rfl] at hiw
        rw [hiw]
        rcases walk_scan (ε := (List Window10 × (Unit × (Int × ((Int × (Int × (Int × (Bool × Unit)))) × Unit)))) ⊕ ((List Window10 × (Int × ((Int × (Int × (Int × (Bool × Unit)))) × Unit))) ⊕ Empty)) (cfl w) (fun i x (k : Int) => if befW x w then ((i + 1 : Nat) : Int) else k) (.inr (.inl ([], (12, ((w.Device, (w.Tag, (w.Frame, (w.Write, ())))), ()))))) (fun i k => k = ((min i (pos l w) : Nat) : Int)) l 0 0 (by simp) (fun i x k hi hc hk => by
          rw [Nat.zero_add] at hk ⊢
          cases hb : befW x w with
          | true =>
            have : i < pos l w := by
              rcases Nat.lt_or_ge i (pos l w) with h | h
              · exact h
              · rw [pos_ge hV hi h] at hb; cases hb
            simp only [if_true]
            rw [Nat.min_eq_left (by omega)]
          | false =>
            have : pos l w ≤ i := by
              rcases Nat.lt_or_ge i (pos l w) with h | h
              · rw [pos_lt hi h] at hb; cases hb
              · exact h
            simp only [Bool.false_eq_true, if_false]
            rw [hk, Nat.min_eq_right (by omega), Nat.min_eq_right (by omega)]) with ⟨q1, q2⟩ | ⟨q1, s', q2, q3⟩
        · rw [q2, q1]; rfl
        · rw [q2, q1]
          rw [Nat.zero_add, Nat.min_eq_right hle] at q3
          subst q3
          simp only [cond_false, dlen_def l]
          rw [dsub0 hle]
          simp only
          have d1 : dapp 32 [] (l.take (pos l w)) = some (l.take (pos l w)) := by
            have := dapp_ok (bytes := 32) (l := ([] : List Window10)) (ys := l.take (pos l w)) (by simp; omega) (by simp; omega)
            simpa using this
          rw [d1]
          simp only
          rw [dapp_ok (by simp; omega) (by simp; omega)]
          simp only
          rw [dsub_ok hle (Nat.le_refl _)]
          simp only [List.take_length]
          rw [dapp_ok (by simp; omega) (by simp; omega)]
          simp
end Go.G
