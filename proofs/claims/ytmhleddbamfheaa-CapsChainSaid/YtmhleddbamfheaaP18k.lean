import Derived.Test.YtmhleddbamfheaaP18j
set_option linter.unusedVariables false
set_option linter.unusedSimpArgs false
namespace Go.G
set_option maxRecDepth 100000
abbrev gF : Cap18 → Bool := fun _ => false
theorem mk_out (g : Cap18 → Bool) : ∀ (l : List Cap18) (m : Int → Bool) (j : Int), (∀ x ∈ l, x.ID ≠ j) → mk g l m j = m j
  | [], _, _, _ => rfl
  | x :: l, m, j, h => by
    simp only [mk]
    have hx := h x (by simp)
    cases m x.Parent || g x with
    | true =>
      simp only [cond_true]
      rw [mk_out g l _ j fun y hy => h y (by simp [hy]), show ieq j x.ID = false from ieq_f.2 (Ne.symm hx)]
      rfl
    | false => exact mk_out g l m j fun y hy => h y (by simp [hy])
theorem mk_spec : ∀ (l : List Cap18) (m : Int → Bool), l.Pairwise Ahead → (∀ x ∈ l, x.Parent < x.ID) →
    specW gF l m = l.filter (fun x => !mk gF l m x.Parent) ∧ ∀ x ∈ l, mk gF l m x.ID = (m x.ID || mk gF l m x.Parent)
  | [], _, _, _ => ⟨rfl, by simp⟩
  | x :: l, m, h, hp => by
    rw [List.pairwise_cons] at h
    have hx := hp x (by simp)
    have step : ∃ m1 : Int → Bool, mk gF (x :: l) m = mk gF l m1 ∧ m1 x.Parent = m x.Parent ∧ m1 x.ID = (m x.ID || m x.Parent) ∧ (∀ y ∈ l, m1 y.ID = m y.ID) ∧ specW gF (x :: l) m = (bif m x.Parent then specW gF l m1 else x :: specW gF l m1) := by
      simp only [mk, specW, Bool.or_false]
      cases hm : m x.Parent with
      | true => exact ⟨fun k => ieq k x.ID || m k, rfl, by simp [hm], by simp [ieq], fun y hy => by simp only [show ieq y.ID x.ID = false from ieq_f.2 (by have := (h.1 y hy).1; omega), Bool.false_or], rfl⟩
      | false => exact ⟨m, rfl, hm, by simp, fun _ _ => rfl, rfl⟩
    obtain ⟨m1, e1, e2, e3, e4, e5⟩ := step
    have ih := mk_spec l m1 h.2 fun y hy => hp y (by simp [hy])
    have hpar : mk gF l m1 x.Parent = m x.Parent := by rw [mk_out gF l m1 x.Parent fun y hy => by have := (h.1 y hy).1; omega, e2]
    rw [e1, e5, ih.1]
    refine ⟨?_, fun y hy => ?_⟩
    · rw [List.filter_cons, hpar]
      cases m x.Parent <;> rfl
    · rcases List.mem_cons.1 hy with rfl | hy
      · rw [hpar, mk_out gF l m1 y.ID fun z hz => by have := (h.1 z hz).1; omega, e3]
      · rw [ih.2 y hy, e4 y hy]

theorem valid_parent {n : Int} {l : List Cap18} (h : validL n [] l = true) : ∀ x ∈ l, x.Parent = 0 ∨ ∃ p ∈ l, p.ID = x.Parent ∧ p.ID < x.ID ∧ rEq p x = true := by
  intro x hx
  obtain ⟨a, b, e, hok⟩ := valid_okAt l [] h x hx
  have pw := valid_pw h
  simp only [List.nil_append] at e
  rcases parOK_inv (okAt_parOK hok) with ⟨h1, _⟩ | ⟨_, p, h2, h3, h4⟩
  · exact .inl h1
  · refine .inr ⟨p, by rw [e]; simp [h2], h3, ?_, h4⟩
    rw [e, List.pairwise_append] at pw
    exact (pw.2.2 p h2 x (by simp)).1
theorem valid_parent_lt {n : Int} {l : List Cap18} (h : validL n [] l = true) : ∀ x ∈ l, x.Parent < x.ID := by
  intro x hx
  have := validL_mem l [] h (by simp [lastID]) x hx
  rcases valid_parent h x hx with h1 | ⟨p, _, h3, h4, _⟩ <;> omega

/-- Where an element stands. -/
def rk (l : List Cap18) (y : Cap18) : Nat := (l.filter fun z => decide (z.ID ≤ y.ID)).length
theorem rk_lt {l : List Cap18} {p y : Cap18} (hy : y ∈ l) (h : p.ID < y.ID) : rk l p < rk l y := by
  unfold rk
  induction l with
  | nil => simp at hy
  | cons a l ih =>
    have mono : ∀ (r : List Cap18), (r.filter fun z => decide (z.ID ≤ p.ID)).length ≤ (r.filter fun z => decide (z.ID ≤ y.ID)).length := by
      intro r
      induction r with
      | nil => simp
      | cons b r ihr =>
        simp only [List.filter_cons]
        by_cases h1 : b.ID ≤ p.ID
        · rw [if_pos (by simpa using h1), if_pos (by simp; omega)]
          simp; omega
        · rw [if_neg (by simpa using h1)]
          by_cases h2 : b.ID ≤ y.ID
          · rw [if_pos (by simpa using h2)]; simp; omega
          · rw [if_neg (by simpa using h2)]; exact ihr
    simp only [List.filter_cons]
    rcases List.mem_cons.1 hy with rfl | hy
    · rw [if_neg (by simp; omega), if_pos (by simp)]
      have := mono l
      simp; omega
    · have := ih hy
      by_cases h1 : a.ID ≤ p.ID
      · rw [if_pos (by simpa using h1), if_pos (by simp; omega)]
        simp; omega
      · rw [if_neg (by simpa using h1)]
        by_cases h2 : a.ID ≤ y.ID
        · rw [if_pos (by simpa using h2)]; simp; omega
        · rw [if_neg (by simpa using h2)]; exact this
theorem rk_pos {l : List Cap18} {y : Cap18} (hy : y ∈ l) : 1 ≤ rk l y := by
  unfold rk
  have : y ∈ l.filter fun z => decide (z.ID ≤ y.ID) := List.mem_filter.2 ⟨hy, by simp⟩
  exact List.length_pos_of_mem this
theorem rk_le (l : List Cap18) (y : Cap18) : rk l y ≤ l.length := List.length_filter_le _ _

theorem derived_loop (fu : Nat) (n : Int) (l : List Cap18) (k : Int) (hf : l.length < fu) (hl : l.length < 1000000000000) (hv : validL n [] l = true) (hk : 1 ≤ k) : ∀ (t : Nat) (y : Cap18) (i : Nat) (g : Nat), y ∈ l → rk l y ≤ t → i + rk l y ≤ l.length → t < g →
    iter (t24_0 fu) g (y.ID, (k, ((), ((i : Int), ((n, (l, ())), ()))))) = some (.inr (.inl (mk gF l (fun j => ieq j k) y.Parent, ((n, (l, ())), ()))))
  | t, y, i, 0, _, _, _, hg => absurd hg (by omega)
  | 0, y, i, g + 1, hy, hr, hi, hg => by have := rk_pos hy; omega
  | t + 1, y, i, g + 1, hy, hr, hi, hg => by
    have pw := valid_pw hv
    have spec := mk_spec l (fun j => ieq j k) pw (valid_parent_lt hv)
    simp only [iter]
    have hstep : t24_0 fu (y.ID, (k, ((), ((i : Int), ((n, (l, ())), ()))))) = (match ieq y.Parent 0 with
      | true => some (.inr (.inr (.inl (false, ((n, (l, ())), ())))))
      | false => match ieq y.Parent k with
        | true => some (.inr (.inr (.inl (true, ((n, (l, ())), ())))))
        | false => some (.inl (y.Parent, (k, ((), (((i + 1 : Nat) : Int), ((n, (l, ())), ()))))))) := by
      simp only [t24_0, dlen_def, show ile (i : Int) (l.length : Int) = true from ile_iff.2 (by omega), find_ref fu l y.ID hf (by omega), find_byID pw hy, capT, iadd1 (show i < 9223372036854775807 by omega)]
      cases ieq y.Parent 0 <;> cases ieq y.Parent k <;> rfl
    rw [hstep]
    cases h0 : ieq y.Parent 0 with
    | true =>
      have h0' := ieq_iff.1 h0
      simp only
      rw [h0', mk_out gF l _ 0 fun x hx => by have := validL_mem l [] hv (by simp [lastID]) x hx; omega, show ieq 0 k = false from ieq_f.2 (by omega)]
    | false =>
      simp only
      rcases valid_parent hv y hy with h1 | ⟨p, hp, h3, h4, _⟩
      · exact absurd h1 (ieq_f.1 h0)
      · cases hpk : ieq y.Parent k with
        | true =>
          simp only
          rw [mk_mono gF l _ y.Parent (by exact hpk)]
        | false =>
          simp only
          have ih := derived_loop fu n l k hf hl hv hk t p (i + 1) g hp (by have := rk_lt hy h4; omega) (by have := rk_lt hy h4; omega) (by omega)
          rw [← h3, ih]
          have := spec.2 p hp
          rw [h3] at this ⊢
          rw [this, hpk, Bool.false_or]

theorem derived_ref (fu : Nat) (n : Int) (l : List Cap18) (k : Int) (y : Cap18) (hf : l.length < fu) (hl : l.length < 1000000000000) (hv : validL n [] l = true) (hk : 1 ≤ k) (hy : y ∈ l) : s24 fu n l y.ID k = some (mk gF l (fun j => ieq j k) y.Parent, ()) := by
  unfold s24
  have := derived_loop fu n l k hf hl hv hk (rk l y) y 0 fu hy (Nat.le_refl _) (by have := rk_le l y; omega) (by have := rk_le l y; omega)
  simp only [Int.natCast_zero] at this
  rw [this]

theorem owner0 {n : Int} : ∀ (r pre : List Cap18), validL n pre r = true → (∀ p ∈ pre, ∃ q ∈ pre, q.Owner = 0 ∧ rEq q p = true) → ∀ x ∈ r, x.Owner = 0 → x.Parent = 0
  | [], _, _, _, x, hx, _ => by cases hx
  | y :: r, pre, hv, h, x, hx, ho => by
    simp only [validL, Bool.and_eq_true] at hv
    have root : ∀ z, rEq z z = true := fun z => by simp [rEq, ieq]
    have tr : ∀ a b c, rEq a b = true → rEq b c = true → rEq a c = true := fun a b c h1 h2 => by
      simp only [rEq, Bool.and_eq_true, ieq_iff] at h1 h2 ⊢
      omega
    rcases List.mem_cons.1 hx with rfl | hx
    · rcases parOK_inv (okAt_parOK hv.1) with ⟨h1, _⟩ | ⟨_, p, hp, _, hr⟩
      · exact h1
      · obtain ⟨q, hq, hq0, hqr⟩ := h p hp
        have := List.any_eq_false.1 (okAt_has hv.1) q hq
        have h2 := tr q p x hqr hr
        simp only [rEq, Bool.and_eq_true, ieq_iff] at h2
        simp [isHas, ieq, hq0, ho, h2] at this
    · refine owner0 r (pre ++ [y]) hv.2 (fun p hp => ?_) x hx ho
      rcases List.mem_append.1 hp with hp | hp
      · obtain ⟨q, hq, h1, h2⟩ := h p hp
        exact ⟨q, by simp [hq], h1, h2⟩
      · simp at hp
        subst hp
        rcases parOK_inv (okAt_parOK hv.1) with ⟨_, h2⟩ | ⟨_, q, hq, _, hr⟩
        · exact ⟨p, by simp, h2, root p⟩
        · obtain ⟨q', hq', h1, h2⟩ := h q hq
          exact ⟨q', by simp [hq'], h1, tr _ _ _ h2 hr⟩
theorem addR_any (o t p c : Int) : ∀ (r : List Cap18) (n : Int), (addR o n r).any (isHas o t p c) = r.any (fun x => ieq x.Right_Type t && (ieq x.Right_Peer p && ieq x.Right_Code c))
  | [], _ => rfl
  | x :: r, n => by simp only [addR, List.any_cons, addR_any o t p c r, isHas, show ieq o o = true from ieq_iff.2 rfl, Bool.true_and]
theorem addR_owner (o : Int) : ∀ (r : List Cap18) (n : Int), ∀ x ∈ addR o n r, x.Owner = o
  | [], _, x, hx => by cases hx
  | c :: r, n, x, hx => by
    simp only [addR, List.mem_cons] at hx
    rcases hx with rfl | hx
    · rfl
    · exact addR_owner o r _ x hx
theorem roots_has {n : Int} {l : List Cap18} (hv : validL n [] l = true) (t p c : Int) : (l.filter isRoot).any (fun x => ieq x.Right_Type t && (ieq x.Right_Peer p && ieq x.Right_Code c)) = (ieq t 1 && (ieq c 1 && l.any (isHas 0 t p c))) := by
  rw [Bool.eq_iff_iff]
  simp only [Bool.and_eq_true, List.any_eq_true, List.mem_filter, isRoot, isHas, ieq_iff]
  constructor
  · rintro ⟨x, ⟨hx, h1, h2, h3⟩, rfl, rfl, rfl⟩
    refine ⟨h2, h3, x, hx, ?_, rfl, rfl, rfl⟩
    obtain ⟨_, _, _, hok⟩ := valid_okAt l [] hv x hx
    rcases parOK_inv (okAt_parOK hok) with ⟨_, h⟩ | ⟨h, _⟩
    · exact h
    · exact absurd h1 h
  · rintro ⟨rfl, rfl, x, hx, h0, h1, h2, h3⟩
    exact ⟨x, ⟨hx, owner0 l [] hv (by simp) x hx h0, h1, h3⟩, h1, h2, h3⟩
end Go.G
