import Derived.Test.YtffmffcnfhcgbaaP22y
set_option linter.unusedVariables false
set_option linter.unusedSimpArgs false
namespace Go.G
set_option maxRecDepth 100000
/-- In order, block by block. -/
def Chk (bs : Nat) (l : List Timer22) : Prop := ∀ i j x y, i < j → i / bs = j / bs → l[i]? = some x → l[j]? = some y → ltD y x = false
theorem asc_iff {l : List Timer22} : Asc ltD l ↔ ∀ (i j : Nat) (x y : Timer22), i < j → l[i]? = some x → l[j]? = some y → ltD y x = false := by
  refine ⟨fun h i j x y hij hi hj => h.get hi hj hij, fun h => ?_⟩
  refine List.pairwise_iff_getElem.2 fun i j hi hj hij => ?_
  exact h i j _ _ hij (List.getElem?_eq_getElem hi) (List.getElem?_eq_getElem hj)
theorem chk_head {bs : Nat} {L Q : List Timer22} (hl : L.length ≤ bs) (h : Chk bs (L ++ Q)) : Asc ltD L := by
  refine asc_iff.2 fun i j x y hij hi hj => ?_
  have h1 := getElem?_lt hi
  have h2 := getElem?_lt hj
  exact h i j x y hij (by rw [Nat.div_eq_of_lt (by omega), Nat.div_eq_of_lt (by omega)]) (by rw [List.getElem?_append_left h1]; exact hi) (by rw [List.getElem?_append_left h2]; exact hj)
theorem chk_tail {bs k : Nat} {L Q : List Timer22} (hb : 0 < bs) (hl : L.length = bs * k) (h : Chk bs (L ++ Q)) : Chk bs Q := by
  intro i j x y hij hd hi hj
  refine h (L.length + i) (L.length + j) x y (by omega) ?_ (by rw [List.getElem?_append_right (by omega), Nat.add_sub_cancel_left]; exact hi) (by rw [List.getElem?_append_right (by omega), Nat.add_sub_cancel_left]; exact hj)
  rw [hl, Nat.mul_add_div hb, Nat.mul_add_div hb, hd]
theorem chk_app {bs k : Nat} {A X : List Timer22} (hb : 0 < bs) (hl : A.length = bs * k) (h : Chk bs A) (hX : Asc ltD X) : Chk bs (A ++ X) := by
  intro i j x y hij hd hi hj
  rcases Nat.lt_or_ge j A.length with h1 | h1
  · rw [List.getElem?_append_left (by omega)] at hi hj
    exact h i j x y hij hd hi hj
  · rcases Nat.lt_or_ge i A.length with h2 | h2
    · exfalso
      have a1 : i / bs < k := (Nat.div_lt_iff_lt_mul hb).2 (by rw [Nat.mul_comm, ← hl]; exact h2)
      have a2 : k ≤ j / bs := (Nat.le_div_iff_mul_le hb).2 (by rw [Nat.mul_comm, ← hl]; exact h1)
      omega
    · rw [List.getElem?_append_right h2] at hi
      rw [List.getElem?_append_right h1] at hj
      exact hX.get hi hj (by omega)
theorem chk_nil {bs : Nat} : Chk bs [] := fun i j x y _ _ hi _ => by simp at hi
section
variable {fu : Nat} (hfu : 200000 < fu)
include hfu
theorem phase1 {l : List Timer22} (hl : l.length < 400) : ∃ A Q : List Timer22, (A ++ Q).Perm l ∧ (∃ k, A.length = 20 * k) ∧ Chk 20 A ∧ Q.length < 20 ∧
    iter (t42_0 fu) fu ((), ((l.length : Int), ((), (20, (0, (20, (l, ()))))))) = some (.inl ((), ((l.length : Int), ((), (20, ((A.length : Int), (A ++ Q, ()))))))) := by
  obtain ⟨e, he, A, Q, h1, h2, h3, h4, rfl⟩ := iter_meas (step := t42_0 fu)
    (fun s => ∃ A Q : List Timer22, (A ++ Q).Perm l ∧ (∃ k, A.length = 20 * k) ∧ Chk 20 A ∧ s = ((), ((l.length : Int), ((), (20, ((A.length : Int), (((A.length + 20 : Nat) : Int), (A ++ Q, ()))))))))
    (fun s => ((l.length : Int) - s.2.2.2.2.1).toNat)
    (fun e => ∃ A Q : List Timer22, (A ++ Q).Perm l ∧ (∃ k, A.length = 20 * k) ∧ Chk 20 A ∧ Q.length < 20 ∧ e = .inl ((), ((l.length : Int), ((), (20, ((A.length : Int), (A ++ Q, ())))))))
    (by
      rintro s ⟨A, Q, h1, ⟨k, hk⟩, h3, rfl⟩
      have hlen := h1.length_eq
      simp only [List.length_append] at hlen
      rcases Nat.lt_or_ge Q.length 20 with hq | hq
      · refine .inr ⟨_, ?_, A, Q, h1, ⟨k, hk⟩, h3, hq, rfl⟩
        have e1 : ile ((A.length + 20 : Nat) : Int) (l.length : Int) = false := ile_f.2 (by omega)
        simp only [t42_0, e1]
      · obtain ⟨X, Q', rfl, hX⟩ := split_at Q hq
        have e1 : ile ((A.length + 20 : Nat) : Int) (l.length : Int) = true := ile_iff.2 (by omega)
        simp only [List.length_append] at hlen
        obtain ⟨X', x1, x2, x3⟩ := ins22 (fu := fu) (A := A) (X := X) (B := Q') (by simp only [List.length_append]; omega) (by simp only [List.length_append]; omega)
        have xl := x2.length_eq
        rw [hX] at x3
        have e2 : iadd .i64 ((A.length + 20 : Nat) : Int) 20 = ((A.length + 20 + 20 : Nat) : Int) := by rw [iadd64 (by omega)]; omega
        rw [← List.append_assoc] 
        refine .inl ⟨((), ((l.length : Int), ((), (20, (((A.length + 20 : Nat) : Int), (((A.length + 20 + 20 : Nat) : Int), (A ++ X' ++ Q', ()))))))), by simp only [t42_0, e1, x3, e2], ⟨A ++ X', Q', ?_, ⟨k + 1, by rw [List.length_append]; omega⟩, chk_app (by omega) hk h3 x1, ?_⟩, ?_⟩
        · refine List.Perm.trans ?_ h1
          rw [List.append_assoc]
          exact List.Perm.append_left A (x2.append_right Q')
        · rw [List.length_append, xl, hX]
        · show ((l.length : Int) - ((A.length + 20 : Nat) : Int)).toNat < ((l.length : Int) - (A.length : Int)).toNat
          omega)
    fu ((), ((l.length : Int), ((), (20, (0, (20, (l, ()))))))) ⟨[], l, by simp, ⟨0, rfl⟩, chk_nil, rfl⟩ (by show ((l.length : Int) - 0).toNat < fu; omega)
  exact ⟨A, Q, h1, h2, h3, h4, he⟩
theorem phase2 {l : List Timer22} {bs : Nat} (hl : l.length < 400) (hb : 0 < bs) (hbl : bs < l.length) (hc : Chk bs l) : ∃ A Q : List Timer22, (A ++ Q).Perm l ∧ (∃ k, A.length = 2 * bs * k) ∧ Chk (2 * bs) A ∧ Chk bs Q ∧ Q.length < 2 * bs ∧
    iter (t42_6 fu) fu ((), ((l.length : Int), ((), ((bs : Int), (0, (((2 * bs : Nat) : Int), (l, ()))))))) = some (.inl ((), ((l.length : Int), ((), ((bs : Int), ((A.length : Int), (A ++ Q, ()))))))) := by
  obtain ⟨e, he, A, Q, h1, h2, h3, h4, h5, rfl⟩ := iter_meas (step := t42_6 fu)
    (fun s => ∃ A Q : List Timer22, (A ++ Q).Perm l ∧ (∃ k, A.length = 2 * bs * k) ∧ Chk (2 * bs) A ∧ Chk bs Q ∧ s = ((), ((l.length : Int), ((), ((bs : Int), ((A.length : Int), (((A.length + 2 * bs : Nat) : Int), (A ++ Q, ()))))))))
    (fun s => ((l.length : Int) - s.2.2.2.2.1).toNat)
    (fun e => ∃ A Q : List Timer22, (A ++ Q).Perm l ∧ (∃ k, A.length = 2 * bs * k) ∧ Chk (2 * bs) A ∧ Chk bs Q ∧ Q.length < 2 * bs ∧ e = .inl ((), ((l.length : Int), ((), ((bs : Int), ((A.length : Int), (A ++ Q, ())))))))
    (by
      rintro s ⟨A, Q, h1, ⟨k, hk⟩, h3, h4, rfl⟩
      have hlen := h1.length_eq
      simp only [List.length_append] at hlen
      rcases Nat.lt_or_ge Q.length (2 * bs) with hq | hq
      · refine .inr ⟨_, ?_, A, Q, h1, ⟨k, hk⟩, h3, h4, hq, rfl⟩
        have e1 : ile ((A.length + 2 * bs : Nat) : Int) (l.length : Int) = false := ile_f.2 (by omega)
        simp only [t42_6, e1]
      · obtain ⟨L, Q1, rfl, hL⟩ := split_at Q (k := bs) (by omega)
        simp only [List.length_append] at hlen hq
        have e1 : ile ((A.length + 2 * bs : Nat) : Int) (l.length : Int) = true := ile_iff.2 (by omega)
        obtain ⟨R, Q', rfl, hR⟩ := split_at Q1 (k := bs) (by omega)
        simp only [List.length_append] at hlen hq
        have aL : Asc ltD L := chk_head (by omega) h4
        have h5 : Chk bs (R ++ Q') := chk_tail (k := 1) hb (by omega) h4
        have aR : Asc ltD R := chk_head (by omega) h5
        have h6 : Chk bs Q' := chk_tail (k := 1) hb (by omega) h5
        obtain ⟨X, x1, x2, x3⟩ := s48_ok hfu A L R Q' (List.length_pos_iff.1 (by omega)) (List.length_pos_iff.1 (by omega)) (by omega) aL aR (by simp only [List.length_append]; omega)
        have xl := x2.length_eq
        simp only [List.length_append] at xl
        have e2 : iadd .i64 (A.length : Int) (bs : Int) = ((A.length + L.length : Nat) : Int) := by rw [iadd64 (by omega)]; omega
        have e3 : ((A.length + 2 * bs : Nat) : Int) = ((A.length + L.length + R.length : Nat) : Int) := by omega
        have e4 : imul .i64 2 (bs : Int) = ((2 * bs : Nat) : Int) := by
          unfold imul
          rw [wrap64 (by omega)]
          omega
        have e5 : iadd .i64 ((A.length + L.length + R.length : Nat) : Int) ((2 * bs : Nat) : Int) = ((A.length + L.length + R.length + 2 * bs : Nat) : Int) := by rw [iadd64 (by omega)]; omega
        have er : A ++ (L ++ (R ++ Q')) = A ++ L ++ R ++ Q' := by simp only [List.append_assoc]
        rw [er]
        rw [e3] at e1
        rw [e3]
        refine .inl ⟨((), ((l.length : Int), ((), ((bs : Int), (((A.length + L.length + R.length : Nat) : Int), (((A.length + L.length + R.length + 2 * bs : Nat) : Int), (A ++ X ++ Q', ()))))))), by simp only [t42_6, e1, e2, x3, e4, e5], ⟨A ++ X, Q', ?_, ⟨k + 1, ?_⟩, chk_app (by omega) hk h3 x1, h6, ?_⟩, ?_⟩
        · refine List.Perm.trans ?_ h1
          rw [er, List.append_assoc, List.append_assoc, List.append_assoc]
          exact List.Perm.append_left A (by have := x2.append_right Q'; simpa only [List.append_assoc] using this)
        · rw [List.length_append, Nat.mul_add, ← hk]; omega
        · rw [List.length_append, xl, ← Nat.add_assoc]
        · show ((l.length : Int) - ((A.length + L.length + R.length : Nat) : Int)).toNat < ((l.length : Int) - (A.length : Int)).toNat
          omega)
    fu ((), ((l.length : Int), ((), ((bs : Int), (0, (((2 * bs : Nat) : Int), (l, ()))))))) ⟨[], l, by simp, ⟨0, rfl⟩, chk_nil, hc, by simp⟩ (by show ((l.length : Int) - 0).toNat < fu; omega)
  exact ⟨A, Q, h1, h2, h3, h4, h5, he⟩
theorem phase3 {l : List Timer22} (hl : l.length < 400) (hc : Chk 20 l) : ∃ l', Asc ltD l' ∧ l'.Perm l ∧ iter (t42_5 fu) fu ((), ((l.length : Int), ((), (20, (l, ()))))) = some (.inl (l', ())) := by
  obtain ⟨e, he, l', h1, h2, rfl⟩ := iter_meas (step := t42_5 fu)
    (fun s => ∃ (m : List Timer22) (bs : Nat), 0 < bs ∧ bs < 1000 ∧ m.Perm l ∧ Chk bs m ∧ s = ((), ((l.length : Int), ((), ((bs : Int), (m, ()))))))
    (fun s => (1000 - s.2.2.2.1).toNat)
    (fun e => ∃ l', Asc ltD l' ∧ l'.Perm l ∧ e = .inl (l', ()))
    (by
      rintro s ⟨m, bs, hb, hb2, hp, hcm, rfl⟩
      have hlen := hp.length_eq
      rcases Nat.lt_or_ge bs l.length with hlt | hge
      · have e1 : ilt (bs : Int) (l.length : Int) = true := ilt_len hlt
        have e2 : imul .i64 2 (bs : Int) = ((2 * bs : Nat) : Int) := by
          unfold imul
          rw [wrap64 (by omega)]
          omega
        have e3 : imul .i64 (bs : Int) 2 = ((2 * bs : Nat) : Int) := by
          unfold imul
          rw [wrap64 (by omega)]
          omega
        obtain ⟨A, Q, p1, ⟨k, p2⟩, p3, p4, p5, p6⟩ := phase2 hfu (l := m) (bs := bs) (by omega) hb (by omega) hcm
        rw [hlen] at p6
        have plen := p1.length_eq
        simp only [List.length_append] at plen
        have e4 : iadd .i64 (A.length : Int) (bs : Int) = ((A.length + bs : Nat) : Int) := by rw [iadd64 (by omega)]; omega
        rcases Nat.lt_or_ge bs Q.length with hq | hq
        · have e5 : ilt ((A.length + bs : Nat) : Int) (l.length : Int) = true := ilt_iff.2 (by omega)
          obtain ⟨L, R, rfl, hL⟩ := split_at Q (k := bs) (by omega)
          simp only [List.length_append] at plen p5 hq
          have aL : Asc ltD L := chk_head (by omega) p4
          have p7 : Chk bs R := chk_tail (k := 1) hb (by omega) p4
          have aR : Asc ltD R := chk_head (bs := bs) (Q := []) (by omega) (by rw [List.append_nil]; exact p7)
          obtain ⟨X, x1, x2, x3⟩ := s48_ok hfu A L R [] (List.length_pos_iff.1 (by omega)) (List.length_pos_iff.1 (by omega)) (by omega) aL aR (by simp only [List.length_append, List.length_nil]; omega)
          simp only [List.append_nil] at x3
          rw [hL, show A.length + bs + R.length = l.length by omega] at x3
          have er : A ++ (L ++ R) = A ++ L ++ R := by simp only [List.append_assoc]
          rw [er] at p6
          refine .inl ⟨((), ((l.length : Int), ((), (((2 * bs : Nat) : Int), (A ++ X, ()))))), by simp only [t42_5, e1, e2, p6, e4, e5, x3, e3], ⟨A ++ X, 2 * bs, by omega, by omega, ?_, chk_app (by omega) p2 p3 x1, rfl⟩, ?_⟩
          · exact (List.Perm.append_left A x2).trans (p1.trans hp)
          · show (1000 - ((2 * bs : Nat) : Int)).toNat < (1000 - (bs : Int)).toNat
            omega
        · have e5 : ilt ((A.length + bs : Nat) : Int) (l.length : Int) = false := ilt_f.2 (by omega)
          have aQ : Asc ltD Q := chk_head (Q := []) hq (by rw [List.append_nil]; exact p4)
          refine .inl ⟨((), ((l.length : Int), ((), (((2 * bs : Nat) : Int), (A ++ Q, ()))))), by simp only [t42_5, e1, e2, p6, e4, e5, e3], ⟨A ++ Q, 2 * bs, by omega, by omega, p1.trans hp, chk_app (by omega) p2 p3 aQ, rfl⟩, ?_⟩
          show (1000 - ((2 * bs : Nat) : Int)).toNat < (1000 - (bs : Int)).toNat
          omega
      · refine .inr ⟨_, ?_, m, chk_head (Q := []) (by omega : m.length ≤ bs) (by rw [List.append_nil]; exact hcm), hp, rfl⟩
        have e1 : ilt (bs : Int) (l.length : Int) = false := ilt_f.2 (by omega)
        simp only [t42_5, e1])
    fu ((), ((l.length : Int), ((), (20, (l, ()))))) ⟨l, 20, by omega, by omega, .refl _, hc, rfl⟩ (by show (1000 - (20 : Int)).toNat < fu; omega)
  exact ⟨l', h1, h2, he⟩
/-- THE STABLE SORT. -/
theorem sort22 {l : List Timer22} (hl : l.length < 400) : ∃ l', Asc ltD l' ∧ l'.Perm l ∧ s26 fu l = some l' := by
  obtain ⟨A, Q, h1, ⟨k, h2⟩, h3, h4, h5⟩ := phase1 hfu hl
  have hlen := h1.length_eq
  simp only [List.length_append] at hlen
  obtain ⟨X, x1, x2, x3⟩ := ins22 (fu := fu) (A := A) (X := Q) (B := []) (by simp only [List.length_append, List.length_nil]; omega) (by simp only [List.length_append, List.length_nil]; omega)
  have xl := x2.length_eq
  simp only [List.append_nil] at x3
  rw [hlen] at x3
  have hAX : (A ++ X).length = l.length := by rw [List.length_append]; omega
  obtain ⟨l', y1, y2, y3⟩ := phase3 hfu (l := A ++ X) (by omega) (chk_app (by omega) h2 h3 x1)
  rw [hAX] at y3
  refine ⟨l', y1, y2.trans ((List.Perm.append_left A x2).trans h1), ?_⟩
  unfold s26 s42
  simp only [dlen_def, h5, x3, y3]
end
end Go.G
