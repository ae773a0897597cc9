import Derived.Test.YtmknondapmmehaaGSort
set_option linter.unusedVariables false
set_option linter.unusedSimpArgs false
namespace Go.G
set_option maxRecDepth 100000
/-- A strict weak order. -/
structure Ordr {α : Type} (lt : α → α → Bool) : Prop where
  asym : ∀ {a b}, lt a b = true → lt b a = false
  ntr : ∀ {a b c}, lt a b = false → lt b c = false → lt a c = false
variable {α : Type} {lt : α → α → Bool}
theorem Ordr.irr (o : Ordr lt) (a : α) : lt a a = false := by
  cases h : lt a a with
  | false => rfl
  | true => have := o.asym h; rw [h] at this; exact this
theorem Ordr.trans (o : Ordr lt) {a b c : α} (h1 : lt a b = true) (h2 : lt b c = true) : lt a c = true := by
  cases h : lt a c with
  | true => rfl
  | false => have := o.ntr h (o.asym h2); rw [h1] at this; exact this.symm
theorem Ordr.lt_of_lt_of_ge (o : Ordr lt) {a b c : α} (h1 : lt a b = true) (h2 : lt c b = false) : lt a c = true := by
  cases h : lt a c with
  | true => rfl
  | false => have := o.ntr h h2; rw [h1] at this; exact this.symm
theorem Ordr.lt_of_ge_of_lt (o : Ordr lt) {a b c : α} (h1 : lt b a = false) (h2 : lt b c = true) : lt a c = true := by
  cases h : lt a c with
  | true => rfl
  | false => have := o.ntr h1 h; rw [h2] at this; exact this.symm
variable (lt) in
def Srt (l : List α) : Prop := l.Pairwise (fun a b => lt a b = true)
variable (lt) in
def posB (l : List α) (x : α) : Nat := (l.takeWhile (fun a => lt a x)).length
variable (lt) in
def same (a x : α) : Bool := !lt a x && !lt x a
theorem posB_le (l : List α) (x : α) : posB lt l x ≤ l.length := (List.takeWhile_sublist _).length_le
theorem posB_lt {l : List α} {x a : α} {j : Nat} (ha : l[j]? = some a) (hj : j < posB lt l x) : lt a x = true := by
  induction l generalizing j with
  | nil => simp at ha
  | cons b l ih =>
    unfold posB at hj
    rw [List.takeWhile_cons] at hj
    split at hj
    · rename_i hb
      cases j with
      | zero => simp at ha; subst ha; exact hb
      | succ j => exact ih (j := j) (by simpa using ha) (by simpa [posB] using hj)
    · simp at hj
theorem posB_at {l : List α} {x a : α} (ha : l[posB lt l x]? = some a) : lt a x = false := by
  induction l with
  | nil => simp at ha
  | cons b l ih =>
    unfold posB at ha
    rw [List.takeWhile_cons] at ha
    split at ha
    · simp only [List.length_cons, List.getElem?_cons_succ] at ha
      exact ih ha
    · rename_i hb
      simp at ha
      subst ha
      simpa using hb
theorem Srt.get {l : List α} (h : Srt lt l) {i j : Nat} {a b : α} (hi : l[i]? = some a) (hj : l[j]? = some b) (hij : i < j) : lt a b = true := by
  have hi' := getElem?_lt hi
  have hj' := getElem?_lt hj
  rw [List.getElem?_eq_getElem hi'] at hi
  rw [List.getElem?_eq_getElem hj'] at hj
  cases hi; cases hj
  exact List.pairwise_iff_getElem.1 h i j hi' hj' hij
theorem posB_gt (o : Ordr lt) {l : List α} (h : Srt lt l) {x a : α} {j : Nat} (ha : l[j]? = some a) (hj : posB lt l x < j) : lt x a = true := by
  have hj' := getElem?_lt ha
  have hy : l[posB lt l x]? = some l[posB lt l x] := List.getElem?_eq_getElem (by omega)
  exact o.lt_of_ge_of_lt (posB_at hy) (h.get hy ha hj)
theorem posB_ge (o : Ordr lt) {l : List α} (h : Srt lt l) {x a : α} {j : Nat} (ha : l[j]? = some a) (hj : posB lt l x ≤ j) : lt a x = false := by
  rcases Nat.eq_or_lt_of_le hj with hj | hj
  · subst hj; exact posB_at ha
  · exact o.asym (posB_gt o h ha hj)
theorem same_at (o : Ordr lt) {l : List α} (h : Srt lt l) {x a : α} {j : Nat} (ha : l[j]? = some a) (hk : same lt a x = true) : j = posB lt l x := by
  simp only [same, Bool.and_eq_true, Bool.not_eq_true'] at hk
  rcases Nat.lt_trichotomy j (posB lt l x) with hj | hj | hj
  · have := posB_lt ha hj; rw [hk.1] at this; cases this
  · exact hj
  · have := posB_gt o h ha hj; rw [hk.2] at this; cases this
theorem any_same (o : Ordr lt) {l : List α} (h : Srt lt l) (x : α) : l.any (fun a => same lt a x) = match l[posB lt l x]? with
    | some a => same lt a x
    | none => false := by
  cases ha : l.any (fun a => same lt a x) with
  | true =>
    obtain ⟨a, hm, hk⟩ := List.any_eq_true.1 ha
    obtain ⟨j, hj⟩ := List.getElem?_of_mem hm
    have := same_at o h hj hk
    subst this
    rw [hj]
    exact hk.symm
  | false =>
    rw [List.any_eq_false] at ha
    cases hx : l[posB lt l x]? with
    | none => rfl
    | some a => simpa using (ha a (List.mem_of_getElem? hx))
/-- Without what has the key of x. -/
def noS (lt : α → α → Bool) (x : α) (l : List α) : List α := l.filter (fun a => !same lt a x)
theorem mem_noS {x a : α} {l : List α} : a ∈ noS lt x l ↔ a ∈ l ∧ same lt a x = false := by
  unfold noS
  rw [List.mem_filter]
  simp
theorem noS_none {l : List α} {x : α} (h : l.any (fun a => same lt a x) = false) : noS lt x l = l := by
  unfold noS
  rw [List.filter_eq_self]
  intro a ha
  have := List.any_eq_false.1 h a ha
  simpa using this
theorem noS_out (o : Ordr lt) {l : List α} (h : Srt lt l) {x a : α} (ha : l[posB lt l x]? = some a) (hk : same lt a x = true) : noS lt x l = l.take (posB lt l x) ++ l.drop (posB lt l x + 1) := by
  have hlt := getElem?_lt ha
  have e : l = l.take (posB lt l x) ++ a :: l.drop (posB lt l x + 1) := by
    have h1 := List.getElem?_eq_getElem hlt
    rw [ha] at h1
    have h2 := List.drop_eq_getElem_cons hlt
    cases h1
    rw [← h2, List.take_append_drop]
  have hno : ∀ j y, l[j]? = some y → j ≠ posB lt l x → same lt y x = false := fun j y hy hj => by
    cases hh : same lt y x with
    | false => rfl
    | true => exact absurd (same_at o h hy hh) hj
  unfold noS
  conv => lhs; rw [e]
  rw [List.filter_append, List.filter_cons]
  simp only [hk, Bool.not_true, Bool.false_eq_true, if_false]
  rw [List.filter_eq_self.2, List.filter_eq_self.2]
  · intro y hy
    obtain ⟨j, hj⟩ := List.getElem?_of_mem hy
    rw [List.getElem?_drop] at hj
    rw [hno _ _ hj (by omega)]
    rfl
  · intro y hy
    obtain ⟨j, hj⟩ := List.getElem?_of_mem hy
    have h1 := getElem?_lt hj
    rw [List.length_take] at h1
    rw [List.getElem?_take_of_lt (by omega)] at hj
    rw [hno _ _ hj (by omega)]
    rfl
theorem srt_noS {l : List α} (h : Srt lt l) (x : α) : Srt lt (noS lt x l) := h.sublist List.filter_sublist
theorem posB_append {a b : List α} {x : α} (ha : ∀ y ∈ a, lt y x = true) (hb : ∀ y ∈ b, lt y x = false) : posB lt (a ++ b) x = a.length := by
  induction a with
  | nil =>
    cases b with
    | nil => rfl
    | cons y b =>
      have := hb y (by simp)
      simp [posB, List.takeWhile_cons, this]
  | cons y a ih =>
    have h1 := ha y (by simp)
    have h2 := ih (fun z hz => ha z (by simp [hz]))
    unfold posB at h2 ⊢
    rw [List.cons_append, List.takeWhile_cons, if_pos h1, List.length_cons, h2, List.length_cons]
theorem posB_split (o : Ordr lt) {l : List α} (h : Srt lt l) (x : α) : (∀ y ∈ l.take (posB lt l x), lt y x = true) ∧ ∀ y ∈ l.drop (posB lt l x), lt y x = false := by
  constructor
  · intro y hy
    obtain ⟨j, hj⟩ := List.getElem?_of_mem hy
    have h1 := getElem?_lt hj
    rw [List.length_take] at h1
    rw [List.getElem?_take_of_lt (by omega)] at hj
    exact posB_lt hj (by omega)
  · intro y hy
    obtain ⟨j, hj⟩ := List.getElem?_of_mem hy
    rw [List.getElem?_drop] at hj
    exact posB_ge o h hj (by omega)
/-- x at its place, in place of what has its key. -/
def putS (lt : α → α → Bool) (x : α) (l : List α) : List α := (noS lt x l).take (posB lt (noS lt x l) x) ++ x :: (noS lt x l).drop (posB lt (noS lt x l) x)
theorem mem_putS {x a : α} {l : List α} : a ∈ putS lt x l ↔ a = x ∨ (a ∈ l ∧ same lt a x = false) := by
  unfold putS
  rw [List.mem_append, List.mem_cons, ← mem_noS]
  constructor
  · rintro (h | h | h)
    · exact .inr (List.mem_of_mem_take h)
    · exact .inl h
    · exact .inr (List.mem_of_mem_drop h)
  · rintro (h | h)
    · exact .inr (.inl h)
    · rw [← List.take_append_drop (posB lt (noS lt x l) x) (noS lt x l), List.mem_append] at h
      rcases h with h | h
      · exact .inl h
      · exact .inr (.inr h)
theorem srt_putS (o : Ordr lt) {l : List α} (h : Srt lt l) (x : α) : Srt lt (putS lt x l) := by
  have hn := srt_noS h x
  obtain ⟨s1, s2⟩ := posB_split o hn x
  unfold putS
  generalize posB lt (noS lt x l) x = p at *
  have hs : Srt lt ((noS lt x l).take p ++ (noS lt x l).drop p) := by rw [List.take_append_drop]; exact hn
  obtain ⟨q1, q2, q3⟩ := List.pairwise_append.1 hs
  have h2 : ∀ y ∈ (noS lt x l).drop p, lt x y = true := fun y hy => by
    have e1 := s2 y hy
    have e2 := (mem_noS.1 (List.mem_of_mem_drop hy)).2
    simp only [same, e1, Bool.not_false, Bool.true_and, Bool.not_eq_false'] at e2
    exact e2
  refine List.pairwise_append.2 ⟨q1, List.pairwise_cons.2 ⟨h2, q2⟩, fun a ha b hb => ?_⟩
  rcases List.mem_cons.1 hb with rfl | hb
  · exact s1 a ha
  · exact q3 a ha b hb
theorem srt_ext (o : Ordr lt) : ∀ (l m : List α), Srt lt l → Srt lt m → (∀ x, x ∈ l ↔ x ∈ m) → l = m
  | [], [], _, _, _ => rfl
  | [], b :: m, _, _, h => absurd ((h b).2 (by simp)) (by simp)
  | a :: l, [], _, _, h => absurd ((h a).1 (by simp)) (by simp)
  | a :: l, b :: m, hl, hm, h => by
    obtain ⟨l1, l2⟩ := List.pairwise_cons.1 hl
    obtain ⟨m1, m2⟩ := List.pairwise_cons.1 hm
    have e : a = b := by
      rcases List.mem_cons.1 ((h a).1 (by simp)) with h1 | h1
      · exact h1
      · rcases List.mem_cons.1 ((h b).2 (by simp)) with h2 | h2
        · exact h2.symm
        · have := o.asym (l1 b h2)
          rw [m1 a h1] at this
          cases this
    subst e
    rw [srt_ext o l m l2 m2 fun x => ⟨fun hx => ?_, fun hx => ?_⟩]
    · rcases List.mem_cons.1 ((h x).1 (by simp [hx])) with h1 | h1
      · subst h1; have := l1 x hx; rw [o.irr] at this; cases this
      · exact h1
    · rcases List.mem_cons.1 ((h x).2 (by simp [hx])) with h1 | h1
      · subst h1; have := m1 x hx; rw [o.irr] at this; cases this
      · exact h1
theorem putS_new {l : List α} {x : α} (h : l.any (fun a => same lt a x) = false) : putS lt x l = l.take (posB lt l x) ++ x :: l.drop (posB lt l x) := by
  unfold putS
  rw [noS_none h]
theorem posB_noS (o : Ordr lt) {l : List α} (h : Srt lt l) (x : α) : posB lt (noS lt x l) x = posB lt l x := by
  cases hk : l.any (fun a => same lt a x) with
  | false => rw [noS_none hk]
  | true =>
    have hak := any_same o h x
    rw [hk] at hak
    cases hx : l[posB lt l x]? with
    | none => rw [hx] at hak; cases hak
    | some a =>
      rw [hx] at hak
      rw [noS_out o h hx hak.symm]
      have hlt := getElem?_lt hx
      have : ((l.take (posB lt l x)).length) = posB lt l x := by rw [List.length_take]; omega
      obtain ⟨s1, s2⟩ := posB_split o h x
      rw [posB_append s1 (fun y hy => s2 y (by rw [← List.drop_drop] at hy; exact List.mem_of_mem_drop hy)), this]
theorem putS_old (o : Ordr lt) {l : List α} (h : Srt lt l) {x : α} (hk : l.any (fun a => same lt a x) = true) : putS lt x l = l.set (posB lt l x) x ∧ posB lt l x < l.length := by
  have hak := any_same o h x
  rw [hk] at hak
  cases hx : l[posB lt l x]? with
  | none => rw [hx] at hak; cases hak
  | some a =>
    rw [hx] at hak
    have hlt := getElem?_lt hx
    refine ⟨?_, hlt⟩
    unfold putS
    rw [posB_noS o h, noS_out o h hx hak.symm]
    have : ((l.take (posB lt l x)).length) = posB lt l x := by rw [List.length_take]; omega
    rw [List.take_append_of_le_length (by omega), List.take_of_length_le (by omega), List.drop_append_of_le_length (by omega), List.drop_of_length_le (by omega), List.nil_append, List.set_eq_take_append_cons_drop, if_pos hlt]
theorem noS_putS {l : List α} {x : α} (o : Ordr lt) : noS lt x (putS lt x l) = noS lt x l := by
  have h1 : ∀ m : List α, (∀ a ∈ m, a ∈ noS lt x l) → noS lt x m = m := fun m hm => by
    unfold noS
    rw [List.filter_eq_self]
    intro a ha
    have := (mem_noS.1 (hm a ha)).2
    simp [this]
  have hk : same lt x x = true := by simp [same, o.irr]
  unfold putS
  have : ∀ a b : List α, noS lt x (a ++ x :: b) = noS lt x a ++ noS lt x b := fun a b => by
    unfold noS
    rw [List.filter_append, List.filter_cons]
    simp [hk]
  rw [this, h1 _ (fun a ha => List.mem_of_mem_take ha), h1 _ (fun a ha => List.mem_of_mem_drop ha), List.take_append_drop]
theorem putS_len {l : List α} {x : α} : (putS lt x l).length = (noS lt x l).length + 1 := by
  unfold putS
  have := posB_le (lt := lt) (noS lt x l) x
  simp
  omega
theorem noS_len {l : List α} {x : α} : (noS lt x l).length ≤ l.length := List.length_filter_le _ _
/-- Binary search. -/
theorem iter_bin {X ε : Type} {step : X → Option (X ⊕ ε)} {fu : Nat} (o : Ordr lt) {l : List α} (h : Srt lt l) (x : α) (st : Nat → Nat → X) (e : Nat → ε)
    (hs : ∀ (lo hi : Nat) a, lo < hi → hi ≤ l.length → l[(lo + hi) / 2]? = some a → step (st lo hi) = some (.inl (bif lt a x then st ((lo + hi) / 2 + 1) hi else st lo ((lo + hi) / 2))))
    (he : ∀ lo : Nat, lo ≤ l.length → step (st lo lo) = some (.inr (e lo))) (hf : l.length < fu) : iter step fu (st 0 l.length) = some (e (posB lt l x)) := by
  have key : ∀ (d lo hi fu : Nat), hi - lo ≤ d → lo ≤ posB lt l x → posB lt l x ≤ hi → hi ≤ l.length → d < fu → iter step fu (st lo hi) = some (e (posB lt l x)) := by
    intro d
    induction d with
    | zero =>
      intro lo hi fu h1 h2 h3 h4 h5
      obtain ⟨fu, rfl⟩ : ∃ k, fu = k + 1 := ⟨fu - 1, by omega⟩
      have : lo = posB lt l x := by omega
      have h6 : hi = posB lt l x := by omega
      rw [this, h6]
      simp only [iter, he _ (posB_le l x)]
    | succ d ih =>
      intro lo hi fu h1 h2 h3 h4 h5
      obtain ⟨fu, rfl⟩ : ∃ k, fu = k + 1 := ⟨fu - 1, by omega⟩
      by_cases hlt : lo < hi
      · have hm : (lo + hi) / 2 < l.length := by omega
        have hx : l[(lo + hi) / 2]? = some l[(lo + hi) / 2] := List.getElem?_eq_getElem hm
        simp only [iter, hs lo hi _ hlt h4 hx]
        cases hb : lt l[(lo + hi) / 2] x with
        | true =>
          have : (lo + hi) / 2 < posB lt l x := by
            rcases Nat.lt_or_ge ((lo + hi) / 2) (posB lt l x) with h | h'
            · exact h
            · have h6 := posB_ge o h hx h'
              rw [hb] at h6; cases h6
          exact ih _ _ fu (by omega) (by omega) h3 h4 (by omega)
        | false =>
          have : posB lt l x ≤ (lo + hi) / 2 := by
            rcases Nat.lt_or_ge ((lo + hi) / 2) (posB lt l x) with h | h
            · have h6 := posB_lt hx h
              rw [hb] at h6; cases h6
            · exact h
          exact ih _ _ fu (by omega) h2 this (by omega) (by omega)
      · have : lo = posB lt l x := by omega
        have h6 : hi = posB lt l x := by omega
        rw [this, h6]
        simp only [iter, he _ (posB_le l x)]
  exact key l.length 0 l.length fu (by omega) (by omega) (posB_le l x) (by omega) hf
/-- What is checked one after the other. -/
def adjB (lt : α → α → Bool) (ok : α → Bool) (pre : List α) (x : α) : Bool := ok x && match pre.getLast? with
  | some p => lt p x
  | none => true
theorem adj_iff (o : Ordr lt) {ok : α → Bool} {l : List α} : allI (fun i x => adjB lt ok (l.take i) x) l 0 = true ↔ (∀ x ∈ l, ok x = true) ∧ Srt lt l := by
  have snoc : ∀ (m : List α) (x : α), ((∀ a ∈ m ++ [x], ok a = true) ∧ Srt lt (m ++ [x])) ↔ ((∀ a ∈ m, ok a = true) ∧ Srt lt m) ∧ adjB lt ok m x = true := by
    intro m x
    constructor
    · rintro ⟨h1, h2⟩
      obtain ⟨p1, p2, p3⟩ := List.pairwise_append.1 h2
      refine ⟨⟨fun a ha => h1 a (by simp [ha]), p1⟩, ?_⟩
      unfold adjB
      rw [h1 x (by simp)]
      cases hq : m.getLast? with
      | none => rfl
      | some p => simpa using p3 p (List.mem_of_getLast? hq) x (by simp)
    · rintro ⟨⟨h1, h2⟩, h3⟩
      unfold adjB at h3
      rw [Bool.and_eq_true] at h3
      refine ⟨fun a ha => ?_, List.pairwise_append.2 ⟨h2, List.pairwise_singleton _ _, fun a ha b hb => ?_⟩⟩
      · rcases List.mem_append.1 ha with ha | ha
        · exact h1 a ha
        · simp at ha; subst ha; exact h3.1
      · simp at hb
        subst hb
        rcases List.eq_nil_or_concat m with rfl | ⟨m', p, rfl⟩
        · cases ha
        · rw [List.concat_eq_append] at *
          have h4 := h3.2
          simp only [List.getLast?_append, List.getLast?_singleton, Option.some_or] at h4
          rcases List.mem_append.1 ha with ha | ha
          · exact o.trans ((List.pairwise_append.1 h2).2.2 a ha p (by simp)) h4
          · simp at ha; subst ha; exact h4
  rw [allI_iff]
  simp only [Nat.zero_add]
  constructor
  · intro h
    have key : ∀ k, k ≤ l.length → (∀ a ∈ l.take k, ok a = true) ∧ Srt lt (l.take k) := by
      intro k
      induction k with
      | zero => intro _; exact ⟨by simp, by simp [Srt]⟩
      | succ k ih =>
        intro hn
        have hx : l[k]? = some l[k] := List.getElem?_eq_getElem (by omega)
        rw [List.take_add_one, hx]
        exact (snoc _ _).2 ⟨ih (by omega), h k _ hx⟩
    have := key l.length (Nat.le_refl _)
    rwa [List.take_length] at this
  · rintro ⟨h1, h2⟩ i a ha
    have h3 : (∀ b ∈ l.take i ++ [a], ok b = true) ∧ Srt lt (l.take i ++ [a]) := by
      have : l.take (i + 1) = l.take i ++ [a] := by rw [List.take_add_one, ha]; rfl
      rw [← this]
      exact ⟨fun b hb => h1 b (List.mem_of_mem_take hb), List.Pairwise.sublist (List.take_sublist _ _) h2⟩
    exact ((snoc _ _).1 h3).2
end Go.G
