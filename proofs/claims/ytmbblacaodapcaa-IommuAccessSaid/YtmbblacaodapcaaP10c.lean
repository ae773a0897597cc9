import Derived.Test.YtmbblacaodapcaaP10b
set_option linter.unusedVariables false
set_option linter.unusedSimpArgs false
namespace Go.G
set_option maxRecDepth 100000

theorem iter_meas {α ε : Type} {step : α → Option (α ⊕ ε)} (inv : α → Prop) (m : α → Nat) (post : ε → Prop)
    (h : ∀ s, inv s → (∃ s', step s = some (.inl s') ∧ inv s' ∧ m s' < m s) ∨ ∃ e, step s = some (.inr e) ∧ post e) : ∀ (fu : Nat) (s : α), inv s → m s < fu → ∃ e, iter step fu s = some e ∧ post e
  | 0, s, _, hm => by omega
  | fu + 1, s, hi, hm => by
    rcases h s hi with ⟨s', h1, h2, h3⟩ | ⟨e, h1, h2⟩
    · obtain ⟨e, k1, k2⟩ := iter_meas inv m post h fu s' h2 (by omega)
      exact ⟨e, by simp only [iter, h1]; exact k1, k2⟩
    · exact ⟨e, by simp only [iter, h1], h2⟩

theorem befW_trans {a b c : Window10} (h1 : befW a b = true) (h2 : befW b c = true) : befW a c = true := by
  simp only [befW, befB, Bool.or_eq_true, Bool.and_eq_true, ilt_iff, ieq_iff] at *
  omega
theorem befW_irr (a : Window10) : befW a a = false := by
  simp [befW, befB, ilt, ieq]

def Val (l : List Window10) : Prop := (∀ x ∈ l, prpW x = true) ∧ l.Pairwise (fun a b => befW a b = true ∧ cfl b a = false)

theorem Val.sub {l m : List Window10} (h : Val l) (hs : List.Sublist m l) : Val m := ⟨fun x hx => h.1 x (hs.subset hx), h.2.sublist hs⟩

theorem val_snoc {m : List Window10} {x : Window10} : Val (m ++ [x]) ↔ Val m ∧ okAt m x = true := by
  constructor
  · intro h
    refine ⟨h.sub (List.sublist_append_left _ _), ?_⟩
    have hp := (List.pairwise_append.1 h.2).2.2
    simp only [okAt, Bool.and_eq_true]
    refine ⟨h.1 x (by simp), ?_, ?_⟩
    · unfold okLast
      cases hq : m.getLast? with
      | none => rfl
      | some p => exact (hp p (List.mem_of_getLast? hq) x (by simp)).1
    · rw [Bool.not_eq_true', List.any_eq_false]
      intro v hv
      simpa using (hp v hv x (by simp)).2
  · rintro ⟨h, hk⟩
    simp only [okAt, Bool.and_eq_true, Bool.not_eq_true', List.any_eq_false] at hk
    obtain ⟨k1, k2, k3⟩ := hk
    refine ⟨fun y hy => ?_, List.pairwise_append.2 ⟨h.2, List.pairwise_singleton _ _, fun a ha b hb => ?_⟩⟩
    · rcases List.mem_append.1 hy with hy | hy
      · exact h.1 y hy
      · simp at hy; subst hy; exact k1
    · simp at hb
      subst hb
      refine ⟨?_, by simpa using k3 a ha⟩
      unfold okLast at k2
      rcases List.eq_nil_or_concat m with rfl | ⟨m', p, rfl⟩
      · cases ha
      · rw [List.concat_eq_append] at *
        simp only [List.getLast?_append, List.getLast?_singleton, Option.some_or] at k2
        rcases List.mem_append.1 ha with ha | ha
        · exact befW_trans ((List.pairwise_append.1 h.2).2.2 a ha p (by simp)).1 k2
        · simp at ha; subst ha; exact k2

theorem valid_iff (l : List Window10) : validB l = true ↔ Val l := by
  unfold validB
  rw [allI_iff]
  simp only [Nat.zero_add]
  constructor
  · intro h
    have key : ∀ n, n ≤ l.length → Val (l.take n) := by
      intro n
      induction n with
      | zero => intro _; exact ⟨by simp, by simp⟩
      | succ n ih =>
        intro hn
        have hx : l[n]? = some l[n] := List.getElem?_eq_getElem (by omega)
        rw [List.take_add_one, hx]
        exact val_snoc.2 ⟨ih (by omega), h n _ hx⟩
    have := key l.length (Nat.le_refl _)
    rwa [List.take_length] at this
  · intro h i a ha
    have h2 : Val (l.take i ++ [a]) := by
      have : l.take (i + 1) = l.take i ++ [a] := by rw [List.take_add_one, ha]; rfl
      rw [← this]
      exact h.sub (List.take_sublist _ _)
    exact (val_snoc.1 h2).2

def pos (l : List Window10) (w : Window10) : Nat := (l.takeWhile (befW · w)).length

theorem pos_le (l : List Window10) (w : Window10) : pos l w ≤ l.length := (List.takeWhile_sublist _).length_le

theorem pos_lt {l : List Window10} {w x : Window10} {j : Nat} (hx : l[j]? = some x) (hj : j < pos l w) : befW x w = true := by
  induction l generalizing j with
  | nil => simp at hx
  | cons a l ih =>
    unfold pos at hj
    rw [List.takeWhile_cons] at hj
    split at hj
    · rename_i ha
      cases j with
      | zero => simp at hx; subst hx; exact ha
      | succ j => exact ih (j := j) (by simpa using hx) (by simpa [pos] using hj)
    · simp at hj

theorem pos_at {l : List Window10} {w x : Window10} (hx : l[pos l w]? = some x) : befW x w = false := by
  induction l with
  | nil => simp at hx
  | cons a l ih =>
    unfold pos at hx
    rw [List.takeWhile_cons] at hx
    split at hx
    · simp only [List.length_cons, List.getElem?_cons_succ] at hx
      exact ih hx
    · rename_i ha
      simp at hx
      subst hx
      simpa using ha

theorem val_get {l : List Window10} (h : Val l) {i j : Nat} {x y : Window10} (hi : l[i]? = some x) (hj : l[j]? = some y) (hij : i < j) : befW x y = true ∧ cfl y x = false := by
  have hi' := getElem?_lt hi
  have hj' := getElem?_lt hj
  rw [List.getElem?_eq_getElem hi'] at hi
  rw [List.getElem?_eq_getElem hj'] at hj
  cases hi; cases hj
  exact List.pairwise_iff_getElem.1 h.2 i j hi' hj' hij

theorem pos_ge {l : List Window10} (h : Val l) {w x : Window10} {j : Nat} (hx : l[j]? = some x) (hj : pos l w ≤ j) : befW x w = false := by
  rcases Nat.eq_or_lt_of_le hj with hj | hj
  · subst hj; exact pos_at hx
  · have hj' := getElem?_lt hx
    have hy : l[pos l w]? = some l[pos l w] := List.getElem?_eq_getElem (by omega)
    have h1 := pos_at hy
    have h2 := (val_get h hy hx hj).1
    cases hb : befW x w with
    | false => rfl
    | true => rw [befW_trans h2 hb] at h1; cases h1

theorem mid10 {a b : Nat} (ha : a < 1000000000000) (hb : b < 1000000000000) : iwrap .i64 (ishr .u64 (iwrap .u64 (iadd .i64 (a : Int) (b : Int))) 1) = (((a + b) / 2 : Nat) : Int) := by
  rw [iadd64 (by omega)]
  have h1 : iwrap .u64 ((a : Int) + (b : Int)) = (a : Int) + (b : Int) := by
    unfold iwrap
    have : ∀ n : Int, IntKind.u64.wrap n = n % 18446744073709551616 := fun n => by simp [IntKind.wrap, IntKind.bits, IntKind.signed]
    rw [this]
    omega
  have h2 : ishr .u64 ((a : Int) + (b : Int)) 1 = (((a + b) / 2 : Nat) : Int) := by
    unfold ishr
    show ((a : Int) + (b : Int)).fdiv (2 ^ 1) = _
    rw [Int.fdiv_eq_ediv_of_nonneg _ (by decide)]
    omega
  rw [h1, h2]
  unfold iwrap
  exact wrap64 (by omega)

theorem search10 (fu : Nat) (hf0 : 1000 < fu) (l : List Window10) (w : Window10) (hv : Val l) (hf : l.length < fu) (hl : l.length < 1000000000000) :
    iter (t10_2 fu) fu (l, ((), ((), (dlen l, (0, (dlen l, ((w.Device, (w.Tag, (w.Frame, (w.Write, ())))), ()))))))) = some (.inl (l, ((), ((), (dlen l, (((pos l w : Nat) : Int), ((w.Device, (w.Tag, (w.Frame, (w.Write, ())))), ()))))))) := by
  obtain ⟨e, h1, h2⟩ := iter_meas (step := t10_2 fu) (fun s => ∃ lo hi : Nat, s = (l, ((), ((), (dlen l, ((lo : Int), ((hi : Int), ((w.Device, (w.Tag, (w.Frame, (w.Write, ())))), ()))))))) ∧ lo ≤ pos l w ∧ pos l w ≤ hi ∧ hi ≤ l.length)
    (fun s => (s.2.2.2.2.2.1 - s.2.2.2.2.1).toNat) (fun e => e = .inl (l, ((), ((), (dlen l, (((pos l w : Nat) : Int), ((w.Device, (w.Tag, (w.Frame, (w.Write, ())))), ())))))))
    (fun s ⟨lo, hi, hs, k1, k2, k3⟩ => by
      subst hs
      by_cases hlt : lo < hi
      · left
        have hm : (lo + hi) / 2 < l.length := by omega
        have hx : l[(lo + hi) / 2]? = some l[(lo + hi) / 2] := List.getElem?_eq_getElem hm
        have hnn : ilt 1 0 = false := rfl
        simp only [t10_2, dlen_def, ilt_len hlt, hnn, mid10 (show lo < 1000000000000 by omega) (show hi < 1000000000000 by omega), dat_nat, hx, ord10 fu hf0]
        have hlt' := @ord_lt l[(lo + hi) / 2].Device l[(lo + hi) / 2].Tag w.Device w.Tag
        have hb : befB l[(lo + hi) / 2].Device l[(lo + hi) / 2].Tag w.Device w.Tag = befW l[(lo + hi) / 2] w := rfl
        rw [hlt', hb]
        cases hbw : befW l[(lo + hi) / 2] w with
        | true =>
          have : (lo + hi) / 2 < pos l w := by
            rcases Nat.lt_or_ge ((lo + hi) / 2) (pos l w) with h | h
            · exact h
            · rw [pos_ge hv hx h] at hbw; cases hbw
          refine ⟨_, rfl, ⟨(lo + hi) / 2 + 1, hi, ?_, by omega, k2, k3⟩, ?_⟩
          · rw [iadd1 (by omega)]
          · simp only [iadd1 (show (lo + hi) / 2 < 9223372036854775807 by omega)]
            omega
        | false =>
          have : pos l w ≤ (lo + hi) / 2 := by
            rcases Nat.lt_or_ge ((lo + hi) / 2) (pos l w) with h | h
            · rw [pos_lt hx h] at hbw; cases hbw
            · exact h
          refine ⟨_, rfl, ⟨lo, (lo + hi) / 2, ?_, k1, this, by omega⟩, ?_⟩
          · rfl
          · simp only
            omega
      · right
        have h0 : ilt (lo : Int) (hi : Int) = false := ilt_f.2 (by omega)
        have : lo = pos l w := by omega
        exact ⟨.inl (l, ((), ((), (dlen l, ((lo : Int), ((w.Device, (w.Tag, (w.Frame, (w.Write, ())))), ())))))), by simp only [t10_2, h0], by rw [this]⟩) fu (l, ((), ((), (dlen l, (0, (dlen l, ((w.Device, (w.Tag, (w.Frame, (w.Write, ())))), ()))))))) ⟨0, l.length, by rw [dlen_def]; rfl, Nat.zero_le _, pos_le _ _, Nat.le_refl _⟩ (by simp only [dlen_def]; omega)
  rw [h1, h2]
end Go.G
