import Derived.Test.YtbldiioafmcbmaaP14b
set_option linter.unusedVariables false
set_option linter.unusedSimpArgs false
namespace Go.G
set_option maxRecDepth 100000
theorem iter_meas {α ε : Type} {step : α → Option (α ⊕ ε)} (inv : α → Prop) (m : α → Nat) (post : ε → Prop)
    (h : ∀ s, inv s → (∃ s', step s = some (.inl s') ∧ inv s' ∧ m s' < m s) ∨ ∃ e, step s = some (.inr e) ∧ post e) : ∀ (fu : Nat) (s : α), inv s → m s < fu → ∃ e, iter step fu s = some e ∧ post e
  | 0, s, _, hm => by omega
  | fu + 1, s, hi, hm => by
    rcases h s hi with ⟨s', h1, h2, h3⟩ | ⟨e, h1, h2⟩
    · obtain ⟨e, k1, k2⟩ := iter_meas inv m post h fu s' h2 (by omega)
      exact ⟨e, by simp only [iter, h1]; exact k1, k2⟩
    · exact ⟨e, by simp only [iter, h1], h2⟩

def cmpI (a b : Int) : Int := if a < b then -1 else if b < a then 1 else 0
theorem cmp14 (fu : Nat) (a b : Int) : s37 fu a b = some (cmpI a b, ()) := by
  unfold s37 s44 cmpI
  have h1 : ieq a a = true := ieq_iff.2 rfl
  have h2 : ieq b b = true := ieq_iff.2 rfl
  simp only [h1, h2]
  by_cases h3 : a < b
  · rw [ilt_iff.2 h3, if_pos h3]
  · rw [ilt_f.2 (by omega), if_neg h3]
    by_cases h4 : b < a
    · simp [ilt_iff.2 h4, if_pos h4]
    · simp [ilt_f.2 (show a ≤ b by omega), if_neg h4]
theorem cmp_lt {a b : Int} : ilt (cmpI a b) 0 = ilt a b := by
  unfold cmpI ilt
  by_cases h1 : a < b
  · simp [h1]
  · by_cases h2 : b < a <;> simp [h1, h2]
theorem cmp_eq {a b : Int} : ieq (cmpI a b) 0 = ieq a b := by
  unfold cmpI ieq
  by_cases h1 : a < b
  · simp [h1]; omega
  · by_cases h2 : b < a
    · simp [h1, h2]; omega
    · simp [h1, h2]; omega

def okE (n : Int) (x : Alarm14) : Prop := 0 ≤ x.ID ∧ n < x.At ∧ x.At ≤ 1099511627776
def Val (n : Int) (l : List Alarm14) : Prop := (∀ x ∈ l, okE n x) ∧ l.Pairwise (fun a b => a.ID < b.ID)

theorem Val.sub {n : Int} {l m : List Alarm14} (h : Val n l) (hs : List.Sublist m l) : Val n m := ⟨fun x hx => h.1 x (hs.subset hx), h.2.sublist hs⟩

theorem val_snoc {n : Int} {m : List Alarm14} {x : Alarm14} : Val n (m ++ [x]) ↔ Val n m ∧ okAt n m x = true := by
  constructor
  · intro h
    refine ⟨h.sub (List.sublist_append_left _ _), ?_⟩
    have hp := (List.pairwise_append.1 h.2).2.2
    obtain ⟨e1, e2, e3⟩ := h.1 x (by simp)
    simp only [okAt, Bool.and_eq_true, Bool.not_eq_true', ilt_f, ile_f]
    refine ⟨e1, ?_, e2, e3⟩
    unfold okLast
    cases hq : m.getLast? with
    | none => rfl
    | some p => 
      have := hp p (List.mem_of_getLast? hq) x (by simp)
      simp only [Bool.not_eq_true', ile_f]
      exact this
  · rintro ⟨h, hk⟩
    simp only [okAt, Bool.and_eq_true, Bool.not_eq_true', ilt_f, ile_f] at hk
    obtain ⟨k1, k2, k3, k4⟩ := hk
    refine ⟨fun y hy => ?_, List.pairwise_append.2 ⟨h.2, List.pairwise_singleton _ _, fun a ha b hb => ?_⟩⟩
    · rcases List.mem_append.1 hy with hy | hy
      · exact h.1 y hy
      · simp at hy; subst hy; exact ⟨k1, k3, k4⟩
    · simp at hb
      subst hb
      unfold okLast at k2
      rcases List.eq_nil_or_concat m with rfl | ⟨m', p, rfl⟩
      · cases ha
      · rw [List.concat_eq_append] at *
        simp only [List.getLast?_append, List.getLast?_singleton, Option.some_or, Bool.not_eq_true', ile_f] at k2
        rcases List.mem_append.1 ha with ha | ha
        · have := (List.pairwise_append.1 h.2).2.2 a ha p (by simp)
          omega
        · simp at ha; subst ha; exact k2

theorem okL_iff (n : Int) (l : List Alarm14) : okL n l = true ↔ Val n l := by
  unfold okL
  rw [allI_iff]
  simp only [Nat.zero_add]
  constructor
  · intro h
    have key : ∀ k, k ≤ l.length → Val n (l.take k) := by
      intro k
      induction k with
      | zero => intro _; exact ⟨by simp, by simp⟩
      | succ k ih =>
        intro hn
        have hx : l[k]? = some l[k] := List.getElem?_eq_getElem (by omega)
        rw [List.take_add_one, hx]
        exact val_snoc.2 ⟨ih (by omega), h k _ hx⟩
    have := key l.length (Nat.le_refl _)
    rwa [List.take_length] at this
  · intro h i a ha
    have h2 : Val n (l.take i ++ [a]) := by
      have : l.take (i + 1) = l.take i ++ [a] := by rw [List.take_add_one, ha]; rfl
      rw [← this]
      exact h.sub (List.take_sublist _ _)
    exact (val_snoc.1 h2).2

theorem valid_iff (n : Int) (l : List Alarm14) : validB n l = true ↔ Val n l ∧ 0 ≤ n ∧ n ≤ 1099511627776 ∧ l.length ≤ 32 := by
  unfold validB
  simp only [Bool.and_eq_true, okL_iff, ile_iff, dlen_def]
  constructor
  · rintro ⟨h1, h2, h3, h4⟩; exact ⟨h1, h2, h3, by omega⟩
  · rintro ⟨h1, h2, h3, h4⟩; exact ⟨h1, h2, h3, by omega⟩

def pos (l : List Alarm14) (id : Int) : Nat := (l.takeWhile (fun x => ilt x.ID id)).length
theorem pos_le (l : List Alarm14) (id : Int) : pos l id ≤ l.length := (List.takeWhile_sublist _).length_le
theorem pos_lt {l : List Alarm14} {id : Int} {x : Alarm14} {j : Nat} (hx : l[j]? = some x) (hj : j < pos l id) : x.ID < id := by
  induction l generalizing j with
  | nil => simp at hx
  | cons a l ih =>
    unfold pos at hj
    rw [List.takeWhile_cons] at hj
    split at hj
    · rename_i ha
      cases j with
      | zero => simp at hx; subst hx; exact ilt_iff.1 ha
      | succ j => exact ih (j := j) (by simpa using hx) (by simpa [pos] using hj)
    · simp at hj
theorem pos_at {l : List Alarm14} {id : Int} {x : Alarm14} (hx : l[pos l id]? = some x) : id ≤ x.ID := by
  induction l with
  | nil => simp at hx
  | cons a l ih =>
    unfold pos at hx
    rw [List.takeWhile_cons] at hx
    split at hx
    · simp only [List.length_cons, List.getElem?_cons_succ] at hx
      exact ih hx
    · rename_i ha
      simp at hx
      subst hx
      exact ilt_f.1 (by simpa using ha)
theorem val_get {n : Int} {l : List Alarm14} (h : Val n l) {i j : Nat} {x y : Alarm14} (hi : l[i]? = some x) (hj : l[j]? = some y) (hij : i < j) : x.ID < y.ID := by
  have hi' := getElem?_lt hi
  have hj' := getElem?_lt hj
  rw [List.getElem?_eq_getElem hi'] at hi
  rw [List.getElem?_eq_getElem hj'] at hj
  cases hi; cases hj
  exact List.pairwise_iff_getElem.1 h.2 i j hi' hj' hij
theorem pos_ge {n : Int} {l : List Alarm14} (h : Val n l) {id : Int} {x : Alarm14} {j : Nat} (hx : l[j]? = some x) (hj : pos l id ≤ j) : id ≤ x.ID := by
  rcases Nat.eq_or_lt_of_le hj with hj | hj
  · subst hj; exact pos_at hx
  · have hj' := getElem?_lt hx
    have hy : l[pos l id]? = some l[pos l id] := List.getElem?_eq_getElem (by omega)
    have h1 := pos_at hy
    have h2 := val_get h hy hx hj
    omega

theorem mid14 {a b : Nat} (ha : a < 1000000000000) (hb : b < 1000000000000) : iwrap .i64 (ishr .u64 (iwrap .u64 (iadd .i64 (a : Int) (b : Int))) 1) = (((a + b) / 2 : Nat) : Int) := by
  rw [iadd64 (by omega)]
  have h1 : iwrap .u64 ((a : Int) + (b : Int)) = (a : Int) + (b : Int) := by
    unfold iwrap
    have : ∀ n : Int, IntKind.u64.wrap n = n % 18446744073709551616 := fun n => by simp [IntKind.wrap, IntKind.bits, IntKind.signed]
    rw [this]
    omega
  have h2 : ishr .u64 ((a : Int) + (b : Int)) 1 = (((a + b) / 2 : Nat) : Int) := by
    unfold ishr
    show ((a : Int) + (b : Int)).fdiv (2 ^ 1) = _
    rw [Int.fdiv_eq_ediv_of_nonneg _ (by decide)]
    omega
  rw [h1, h2]
  unfold iwrap
  exact wrap64 (by omega)

theorem search14 (fu : Nat) {n : Int} (l : List Alarm14) (id : Int) (hv : Val n l) (hf : l.length < fu) (hl : l.length < 1000000000000) :
    iter (t31_0 fu) fu (l, (id, ((), (dlen l, (0, (dlen l, ())))))) = some (.inl (l, (id, ((), (dlen l, (((pos l id : Nat) : Int), ())))))) := by
  obtain ⟨e, h1, h2⟩ := iter_meas (step := t31_0 fu) (fun s => ∃ lo hi : Nat, s = (l, (id, ((), (dlen l, ((lo : Int), ((hi : Int), ())))))) ∧ lo ≤ pos l id ∧ pos l id ≤ hi ∧ hi ≤ l.length)
    (fun s => (s.2.2.2.2.2.1 - s.2.2.2.2.1).toNat) (fun e => e = .inl (l, (id, ((), (dlen l, (((pos l id : Nat) : Int), ()))))))
    (fun s ⟨lo, hi, hs, k1, k2, k3⟩ => by
      subst hs
      by_cases hlt : lo < hi
      · left
        have hm : (lo + hi) / 2 < l.length := by omega
        have hx : l[(lo + hi) / 2]? = some l[(lo + hi) / 2] := List.getElem?_eq_getElem hm
        have hnn : ilt 1 0 = false := rfl
        simp only [t31_0, s41, dlen_def, ilt_len hlt, hnn, mid14 (show lo < 1000000000000 by omega) (show hi < 1000000000000 by omega), dat_nat, hx, cmp14, cmp_lt]
        cases hbw : ilt l[(lo + hi) / 2].ID id with
        | true =>
          have : (lo + hi) / 2 < pos l id := by
            rcases Nat.lt_or_ge ((lo + hi) / 2) (pos l id) with h | h
            · exact h
            · have h5 := pos_ge hv hx h
              rw [ilt_iff] at hbw
              omega
          refine ⟨_, rfl, ⟨(lo + hi) / 2 + 1, hi, ?_, by omega, k2, k3⟩, ?_⟩
          · rw [iadd1 (by omega)]
          · simp only [iadd1 (show (lo + hi) / 2 < 9223372036854775807 by omega)]
            omega
        | false =>
          have : pos l id ≤ (lo + hi) / 2 := by
            rcases Nat.lt_or_ge ((lo + hi) / 2) (pos l id) with h | h
            · have h5 := pos_lt hx h
              rw [ilt_f] at hbw
              omega
            · exact h
          refine ⟨_, rfl, ⟨lo, (lo + hi) / 2, ?_, k1, this, by omega⟩, ?_⟩
          · rfl
          · simp only
            omega
      · right
        have h0 : ilt (lo : Int) (hi : Int) = false := ilt_f.2 (by omega)
        have : lo = pos l id := by omega
        exact ⟨.inl (l, (id, ((), (dlen l, ((lo : Int), ()))))), by simp only [t31_0, h0], by rw [this]⟩) fu (l, (id, ((), (dlen l, (0, (dlen l, ())))))) ⟨0, l.length, by rw [dlen_def]; rfl, Nat.zero_le _, pos_le _ _, Nat.le_refl _⟩ (by simp only [dlen_def]; omega)
  rw [h1, h2]

def keyB (id : Int) (x : Alarm14) : Bool := ieq x.ID id
theorem found_at {n : Int} {l : List Alarm14} (h : Val n l) {id : Int} {x : Alarm14} {j : Nat} (hx : l[j]? = some x) (hk : keyB id x = true) : j = pos l id := by
  have hk : x.ID = id := ieq_iff.1 hk
  rcases Nat.lt_trichotomy j (pos l id) with hj | hj | hj
  · have := pos_lt hx hj; omega
  · exact hj
  · have hj' := getElem?_lt hx
    have hy : l[pos l id]? = some l[pos l id] := List.getElem?_eq_getElem (by omega)
    have h2 := val_get h hy hx hj
    have h3 := pos_at hy
    omega
theorem any_key {n : Int} {l : List Alarm14} (h : Val n l) (id : Int) : l.any (keyB id) = match l[pos l id]? with
    | some x => keyB id x
    | none => false := by
  cases ha : l.any (keyB id) with
  | true =>
    obtain ⟨x, hx, hk⟩ := List.any_eq_true.1 ha
    obtain ⟨j, hj⟩ := List.getElem?_of_mem hx
    have := found_at h hj hk
    subst this
    rw [hj]
    exact hk.symm
  | false =>
    rw [List.any_eq_false] at ha
    cases hx : l[pos l id]? with
    | none => rfl
    | some x => simpa using (ha x (List.mem_of_getElem? hx))
theorem find14 (fu : Nat) (n n' : Int) (l : List Alarm14) (id : Int) (hv : Val n l) (hf : l.length < fu) (hl : l.length < 1000000000000) : s31 fu n' l id = some (((pos l id : Nat) : Int), (l.any (keyB id), ())) := by
  unfold s31
  rw [search14 fu l id hv hf hl, any_key hv id]
  simp only [dlen_def]
  by_cases hlt : pos l id < l.length
  · have hx : l[pos l id]? = some l[pos l id] := List.getElem?_eq_getElem hlt
    simp only [ilt_len hlt, dat_nat, hx, s41, cmp14, cmp_eq, keyB]
  · have hx : l[pos l id]? = none := List.getElem?_eq_none (by omega)
    simp only [show ilt ((pos l id : Nat) : Int) (l.length : Int) = false from ilt_f.2 (by omega), hx]
end Go.G
