import Derived.Test.YtffmffcnfhcgbaaP22v
set_option linter.unusedVariables false
set_option linter.unusedSimpArgs false
namespace Go.G
set_option maxRecDepth 100000
theorem mid22 {a b : Nat} (ha : a < 1000000000000) (hb : b < 1000000000000) : mid48 (a : Int) (b : Int) = (((a + b) / 2 : Nat) : Int) := mid64 ha hb
/-- A place's element lies below x. -/
def atB (l : List Timer22) (f : Timer22 → Bool) (i : Nat) : Bool := match l[i]? with
  | some y => f y
  | none => true
theorem atB_some {l : List Timer22} {f : Timer22 → Bool} {i : Nat} {y : Timer22} (h : l[i]? = some y) : atB l f i = f y := by unfold atB; rw [h]
theorem split_at {α : Type} (l : List α) {k : Nat} (h : k ≤ l.length) : ∃ l1 l2, l = l1 ++ l2 ∧ l1.length = k := ⟨l.take k, l.drop k, (List.take_append_drop k l).symm, by rw [List.length_take]; omega⟩
section
variable {fu : Nat} (hfu : 200000 < fu)
include hfu
/-- One element ahead of a list in order. -/
theorem one_left {A R B : List Timer22} {x : Timer22} (hR : Asc ltD R) (hl : (A ++ [x] ++ R ++ B).length < 100000) :
    ∃ X, Asc ltD X ∧ X.Perm ([x] ++ R) ∧ (match iter (t48_65 fu) fu ((), ((A.length : Int), ((), (((A.length + 1 : Nat) : Int), (((A.length + 1 + R.length : Nat) : Int), (A ++ [x] ++ R ++ B, ())))))) with
      | none => none
      | some (.inl y) => (match iter (t48_73 fu) fu ((), (y.2.2.1, (y.2.1, (y.2.2.2.1, ())))) with
        | none => none
        | some (.inl z) => some z.1
        | some (.inr z) => Empty.elim z)
      | some (.inr y) => Empty.elim y) = some (A ++ X ++ B) := by
  simp only [List.length_append, List.length_cons, List.length_nil] at hl
  have hx : (A ++ [x] ++ R ++ B)[A.length]? = some x := by simp
  have hr : ∀ i y, R[i]? = some y → (A ++ [x] ++ R ++ B)[A.length + 1 + i]? = some y := fun i y h => by
    have := get_part (A ++ [x]) R B (getElem?_lt h)
    rw [h] at this
    simpa using this
  have hg : ∀ c, A.length + 1 ≤ c → c < A.length + 1 + R.length → ∃ y, R[c - (A.length + 1)]? = some y ∧ (A ++ [x] ++ R ++ B)[c]? = some y := fun c h1 h2 => by
    have hy : R[c - (A.length + 1)]? = some _ := List.getElem?_eq_getElem (by omega)
    refine ⟨_, hy, ?_⟩
    have := hr _ _ hy
    rw [show A.length + 1 + (c - (A.length + 1)) = c by omega] at this
    exact this
  obtain ⟨s, s1, s2, s3, s4, s5⟩ := iter_bisect (step := t48_65 fu) (atB (A ++ [x] ++ R ++ B) fun y => !ltD y x) (fun i j => ((), ((A.length : Int), ((), ((i : Int), ((j : Int), (A ++ [x] ++ R ++ B, ())))))))
    (fun i => .inl ((), ((A.length : Int), ((i : Int), (A ++ [x] ++ R ++ B, ()))))) (lo := A.length + 1) (hi := A.length + 1 + R.length) (fu := fu) (by omega) (by omega)
    (fun i j h1 h2 h3 h4 => by
      obtain ⟨y, y1, y2⟩ := hg i h1 (by omega)
      obtain ⟨z, z1, z2⟩ := hg j (by omega) h3
      rw [atB_some y2] at h4
      rw [atB_some z2]
      have := hR.get_le ordD y1 z1 (by omega)
      simp only [Bool.not_eq_true'] at h4 ⊢
      exact ordD.ntr this h4)
    (fun i j h1 h2 h3 => by
      obtain ⟨y, y1, y2⟩ := hg ((i + j) / 2) (by omega) (by omega)
      rw [atB_some y2]
      have e1 : iadd .i64 (((i + j) / 2 : Nat) : Int) 1 = (((i + j) / 2 + 1 : Nat) : Int) := iadd1 (by omega)
      simp only [t48_65, ilt_len h2, show ilt 1 0 = false from rfl, mid64 (a := i) (b := j) (by omega) (by omega), dat_nat, y2, hx, cmpT22 fu (by omega), cmpT_lt, e1]
      cases hy : ltD y x <;> simp)
    (fun i h1 h2 => by simp only [t48_65, ilt_end])
  obtain ⟨R1, R2, rfl, hR1⟩ := split_at R (k := s - (A.length + 1)) (by omega)
  simp only [List.length_append] at hl hg s2
  have aR := asc_append.1 hR
  refine ⟨R1 ++ x :: R2, asc_mid hR (fun y hy => ?_) (fun y hy => ?_), List.perm_middle, ?_⟩
  · obtain ⟨i, hi⟩ := List.getElem?_of_mem hy
    have hlt := getElem?_lt hi
    have h1 := hr i y (by rw [List.getElem?_append_left hlt]; exact hi)
    have := s3 (A.length + 1 + i) (by omega) (by omega)
    rw [atB_some h1] at this
    simp only [Bool.not_eq_false'] at this
    exact ordD.asym this
  · obtain ⟨i, hi⟩ := List.getElem?_of_mem hy
    have hlt := getElem?_lt hi
    have h1 := hr (R1.length + i) y (by rw [List.getElem?_append_right (by omega), Nat.add_sub_cancel_left]; exact hi)
    have := s4 (A.length + 1 + (R1.length + i)) (by omega) (by simp only [List.length_append]; omega)
    rw [atB_some h1] at this
    simpa using this
  · rw [show A.length + 1 + (R1 ++ R2).length = A.length + 1 + (R1 ++ R2).length from rfl]
    simp only [s5]
    have es : ((s : Nat) : Int) = ((A.length + 1 + R1.length : Nat) : Int) := by omega
    have := iter_run (step := t48_73 fu) (fu := fu) (fun j => ((), (((A.length + 1 + R1.length : Nat) : Int), (((A.length + j : Nat) : Int), (A ++ R1.take j ++ x :: (R1.drop j ++ R2 ++ B), ())))))
      (e := .inl (A ++ R1 ++ x :: (R2 ++ B), ())) (n := R1.length)
      (fun j hj => by
        have e0 : isub .i64 ((A.length + 1 + R1.length : Nat) : Int) 1 = ((A.length + R1.length : Nat) : Int) := by rw [isub64 (by omega)]; omega
        have e1 : ilt ((A.length + j : Nat) : Int) ((A.length + R1.length : Nat) : Int) = true := ilt_iff.2 (by omega)
        have e2 : iadd .i64 ((A.length + j : Nat) : Int) 1 = ((A.length + j + 1 : Nat) : Int) := iadd1 (by omega)
        have hd : R1.drop j = R1[j] :: R1.drop (j + 1) := List.drop_eq_getElem_cons hj
        have ht : R1.take (j + 1) = R1.take j ++ [R1[j]] := by rw [List.take_add_one, List.getElem?_eq_getElem hj]; rfl
        obtain ⟨k1, k2, _, _, _, k6, k7, k8⟩ := adj_step (A ++ R1.take j) (R1.drop (j + 1) ++ R2 ++ B) x R1[j]
        have hla : (A ++ R1.take j).length = A.length + j := by simp; omega
        rw [hla] at k1 k2 k6 k7 k8
        have er : A ++ R1.take j ++ x :: (R1.drop j ++ R2 ++ B) = A ++ R1.take j ++ x :: R1[j] :: (R1.drop (j + 1) ++ R2 ++ B) := by rw [hd]; rfl
        have er2 : A ++ R1.take (j + 1) ++ x :: (R1.drop (j + 1) ++ R2 ++ B) = A ++ R1.take j ++ R1[j] :: x :: (R1.drop (j + 1) ++ R2 ++ B) := by rw [ht]; simp only [List.append_assoc, List.cons_append, List.nil_append]
        rw [er, er2]
        simp only [t48_73, e0, e1, e2, dat_nat, k1, k2, eta22, dset_nat, k6, k7, k8]
        rfl)
      (by
        have e0 : isub .i64 ((A.length + 1 + R1.length : Nat) : Int) 1 = ((A.length + R1.length : Nat) : Int) := by rw [isub64 (by omega)]; omega
        simp only [t48_73, e0, ilt_end, List.take_length, List.drop_length, List.nil_append]) (by omega)
    simp only [List.take_zero, List.drop_zero, List.append_nil, Nat.add_zero] at this
    have er : A ++ [x] ++ (R1 ++ R2) ++ B = A ++ x :: (R1 ++ R2 ++ B) := by simp
    rw [er, es, this]
    simp
/-- One element behind a list in order. -/
theorem one_right {A L B : List Timer22} {x : Timer22} (hL : Asc ltD L) (hl : (A ++ L ++ [x] ++ B).length < 100000) :
    ∃ X, Asc ltD X ∧ X.Perm (L ++ [x]) ∧ (match iter (t48_44 fu) fu ((), (((A.length + L.length : Nat) : Int), ((), ((A.length : Int), (((A.length + L.length : Nat) : Int), (A ++ L ++ [x] ++ B, ())))))) with
      | none => none
      | some (.inl y) => (match iter (t48_52 fu) fu ((), (y.2.2.1, (y.2.1, (y.2.2.2.1, ())))) with
        | none => none
        | some (.inl z) => some z.1
        | some (.inr z) => Empty.elim z)
      | some (.inr y) => Empty.elim y) = some (A ++ X ++ B) := by
  simp only [List.length_append, List.length_cons, List.length_nil] at hl
  have hx : (A ++ L ++ [x] ++ B)[A.length + L.length]? = some x := by
    have := get_part (A ++ L) [x] B (i := 0) (by simp)
    simp
  have hr : ∀ i y, L[i]? = some y → (A ++ L ++ [x] ++ B)[A.length + i]? = some y := fun i y h => by
    have := get_part A L ([x] ++ B) (getElem?_lt h)
    rw [h] at this
    simpa using this
  have hg : ∀ c, A.length ≤ c → c < A.length + L.length → ∃ y, L[c - A.length]? = some y ∧ (A ++ L ++ [x] ++ B)[c]? = some y := fun c h1 h2 => by
    have hy : L[c - A.length]? = some _ := List.getElem?_eq_getElem (by omega)
    refine ⟨_, hy, ?_⟩
    have := hr _ _ hy
    rw [show A.length + (c - A.length) = c by omega] at this
    exact this
  obtain ⟨s, s1, s2, s3, s4, s5⟩ := iter_bisect (step := t48_44 fu) (atB (A ++ L ++ [x] ++ B) fun y => ltD x y) (fun i j => ((), (((A.length + L.length : Nat) : Int), ((), ((i : Int), ((j : Int), (A ++ L ++ [x] ++ B, ())))))))
    (fun i => .inl ((), (((A.length + L.length : Nat) : Int), ((i : Int), (A ++ L ++ [x] ++ B, ()))))) (lo := A.length) (hi := A.length + L.length) (fu := fu) (by omega) (by omega)
    (fun i j h1 h2 h3 h4 => by
      obtain ⟨y, y1, y2⟩ := hg i h1 (by omega)
      obtain ⟨z, z1, z2⟩ := hg j (by omega) h3
      rw [atB_some y2] at h4
      rw [atB_some z2]
      exact ordD.lt_of_lt_of_ge h4 (hL.get_le ordD y1 z1 (by omega)))
    (fun i j h1 h2 h3 => by
      obtain ⟨y, y1, y2⟩ := hg ((i + j) / 2) (by omega) (by omega)
      rw [atB_some y2]
      have e1 : iadd .i64 (((i + j) / 2 : Nat) : Int) 1 = (((i + j) / 2 + 1 : Nat) : Int) := iadd1 (by omega)
      simp only [t48_44, ilt_len h2, show ilt 1 0 = false from rfl, mid64 (a := i) (b := j) (by omega) (by omega), dat_nat, y2, hx, cmpT22 fu (by omega), cmpT_lt, e1]
      cases hy : ltD x y <;> simp)
    (fun i h1 h2 => by simp only [t48_44, ilt_end])
  obtain ⟨L1, L2, rfl, hL1⟩ := split_at L (k := s - A.length) (by omega)
  simp only [List.length_append] at hl hg s2
  refine ⟨L1 ++ x :: L2, asc_mid hL (fun y hy => ?_) (fun y hy => ?_), List.perm_middle.trans (List.perm_append_singleton x (L1 ++ L2)).symm, ?_⟩
  · obtain ⟨i, hi⟩ := List.getElem?_of_mem hy
    have hlt := getElem?_lt hi
    have h1 := hr i y (by rw [List.getElem?_append_left hlt]; exact hi)
    have := s3 (A.length + i) (by omega) (by omega)
    rw [atB_some h1] at this
    exact this
  · obtain ⟨i, hi⟩ := List.getElem?_of_mem hy
    have hlt := getElem?_lt hi
    have h1 := hr (L1.length + i) y (by rw [List.getElem?_append_right (by omega), Nat.add_sub_cancel_left]; exact hi)
    have := s4 (A.length + (L1.length + i)) (by omega) (by simp only [List.length_append]; omega)
    rw [atB_some h1] at this
    exact ordD.asym this
  · simp only [s5]
    have es : ((s : Nat) : Int) = ((A.length + L1.length : Nat) : Int) := by omega
    have := iter_run (step := t48_52 fu) (fu := fu) (fun j => ((), (((A.length + L1.length : Nat) : Int), (((A.length + L1.length + (L2.length - j) : Nat) : Int), (A ++ L1 ++ L2.take (L2.length - j) ++ x :: (L2.drop (L2.length - j) ++ B), ())))))
      (e := .inl (A ++ L1 ++ x :: (L2 ++ B), ())) (n := L2.length)
      (fun j hj => by
        obtain ⟨i, hi⟩ : ∃ i, L2.length - j = i + 1 := ⟨L2.length - j - 1, by omega⟩
        have hi2 : L2.length - (j + 1) = i := by omega
        have hil : i < L2.length := by omega
        rw [hi, hi2]
        have e1 : ilt ((A.length + L1.length : Nat) : Int) ((A.length + L1.length + (i + 1) : Nat) : Int) = true := ilt_iff.2 (by omega)
        have e2 : isub .i64 ((A.length + L1.length + (i + 1) : Nat) : Int) 1 = ((A.length + L1.length + i : Nat) : Int) := by rw [isub64 (by omega)]; omega
        have hd : L2.drop i = L2[i] :: L2.drop (i + 1) := List.drop_eq_getElem_cons hil
        have ht : L2.take (i + 1) = L2.take i ++ [L2[i]] := by rw [List.take_add_one, List.getElem?_eq_getElem hil]; rfl
        obtain ⟨k1, k2, k3, k4, k5, _⟩ := adj_step (A ++ L1 ++ L2.take i) (L2.drop (i + 1) ++ B) L2[i] x
        have hla : (A ++ L1 ++ L2.take i).length = A.length + L1.length + i := by simp; omega
        rw [hla] at k1 k2 k3 k4 k5
        have er : A ++ L1 ++ L2.take (i + 1) ++ x :: (L2.drop (i + 1) ++ B) = A ++ L1 ++ L2.take i ++ L2[i] :: x :: (L2.drop (i + 1) ++ B) := by rw [ht]; simp only [List.append_assoc, List.cons_append, List.nil_append]
        have er2 : A ++ L1 ++ L2.take i ++ x :: (L2.drop i ++ B) = A ++ L1 ++ L2.take i ++ x :: L2[i] :: (L2.drop (i + 1) ++ B) := by rw [hd]; rfl
        rw [er, er2]
        rw [← Nat.add_assoc] at e1 e2 ⊢
        simp only [t48_52, e1, e2, dat_nat, k1, k2, eta22, dset_nat, k3, k4, k5])
      (by simp only [t48_52, Nat.sub_self, Nat.add_zero, ilt_end, List.take_zero, List.drop_zero, List.append_nil]) (by omega)
    simp only [Nat.sub_zero, List.take_length, List.drop_length, List.nil_append] at this
    have er : A ++ (L1 ++ L2) ++ [x] ++ B = A ++ L1 ++ L2 ++ x :: B := by simp
    simp only [List.length_append, ← Nat.add_assoc]
    rw [er, es, this]
    simp
end
end Go.G
