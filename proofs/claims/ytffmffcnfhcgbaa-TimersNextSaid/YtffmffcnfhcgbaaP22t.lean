import Derived.Test.YtffmffcnfhcgbaaP22s
set_option linter.unusedVariables false
set_option linter.unusedSimpArgs false
namespace Go.G
set_option maxRecDepth 100000
/-! ### The order by times -/
def ltD (a b : Timer22) : Bool := ilt a.Due b.Due || (ieq a.Due b.Due && ltT a b)
theorem ltD_iff {a b : Timer22} : ltD a b = true ↔ a.Due < b.Due ∨ (a.Due = b.Due ∧ (a.Owner < b.Owner ∨ (a.Owner = b.Owner ∧ a.Tag < b.Tag))) := by
  unfold ltD
  rw [Bool.or_eq_true, Bool.and_eq_true, ilt_iff, ieq_iff, ltT_iff]
theorem ltD_f {a b : Timer22} : ltD a b = false ↔ ¬ (a.Due < b.Due ∨ (a.Due = b.Due ∧ (a.Owner < b.Owner ∨ (a.Owner = b.Owner ∧ a.Tag < b.Tag)))) := by
  rw [← ltD_iff]; simp
theorem ordD : Ordr ltD := ⟨fun {a b} h => by rw [ltD_iff] at h; rw [ltD_f]; omega, fun {a b c} h1 h2 => by rw [ltD_f] at *; omega⟩
theorem ltD_eq (a b : Timer22) (h1 : ltD a b = false) (h2 : ltD b a = false) : a = b := by
  rw [ltD_f] at *
  obtain ⟨x, y, z⟩ := a
  obtain ⟨x', y', z'⟩ := b
  simp only at *
  have : x = x' ∧ y = y' ∧ z = z' := by omega
  obtain ⟨rfl, rfl, rfl⟩ := this
  rfl
def cmpT (a b : Timer22) : Int := orI (cmpI a.Due b.Due) (ordI a b)
theorem cmpT22 (fu : Nat) (hf : 3 < fu) (a b : Timer22) : s27 fu a.Owner a.Tag a.Due b.Owner b.Tag b.Due = some (cmpT a b, ()) := by
  unfold s27
  simp only [cmp22, ord22 fu hf, or2 fu hf]
  rfl
theorem cmpT_lt (a b : Timer22) : ilt (cmpT a b) 0 = ltD a b := by
  unfold cmpT orI ltD
  rw [← ord_lt]
  unfold cmpI
  by_cases h1 : a.Due < b.Due
  · simp [h1, ilt_iff.2 h1]; rfl
  · by_cases h2 : b.Due < a.Due
    · have : a.Due ≠ b.Due := by omega
      simp [h1, h2, ilt_f.2 (show b.Due ≤ a.Due by omega), ieq_f.2 this]; rfl
    · have : a.Due = b.Due := by omega
      simp [h1, h2, ilt_f.2 (show b.Due ≤ a.Due by omega), ieq_iff.2 this]
/-! ### Neighbours -/
theorem adj_step {α : Type} (A B : List α) (p x : α) : (A ++ p :: x :: B)[A.length]? = some p ∧ (A ++ p :: x :: B)[A.length + 1]? = some x ∧
    (A ++ p :: x :: B).set (A.length + 1) p = A ++ p :: p :: B ∧ (A ++ p :: p :: B)[A.length]? = some p ∧ (A ++ p :: p :: B).set A.length x = A ++ x :: p :: B ∧
    (A ++ p :: x :: B).set A.length x = A ++ x :: x :: B ∧ (A ++ x :: x :: B)[A.length + 1]? = some x ∧ (A ++ x :: x :: B).set (A.length + 1) p = A ++ x :: p :: B := by
  refine ⟨?_, ?_, ?_, ?_, ?_, ?_, ?_, ?_⟩ <;> simp [List.getElem?_append_right, List.set_append_right]
/-! ### insertion sort -/
theorem asc_mid {P1 P2 : List Timer22} {x : Timer22} (h : Asc ltD (P1 ++ P2)) (h1 : ∀ y ∈ P1, ltD x y = false) (h2 : ∀ y ∈ P2, ltD y x = false) : Asc ltD (P1 ++ x :: P2) := by
  obtain ⟨a1, a2, a3⟩ := asc_append.1 h
  refine asc_append.2 ⟨a1, List.pairwise_cons.2 ⟨h2, a2⟩, fun a ha b hb => ?_⟩
  rcases List.mem_cons.1 hb with rfl | hb
  · exact h1 a ha
  · exact a3 a ha b hb
theorem asc_last {P1 : List Timer22} {p x : Timer22} (h : Asc ltD (P1 ++ [p])) (hp : ltD x p = false) : ∀ y ∈ P1 ++ [p], ltD x y = false := by
  intro y hy
  rcases List.mem_append.1 hy with hy | hy
  · exact le_trans' ordD ((asc_append.1 h).2.2 y hy p (by simp)) hp
  · simp at hy; subst hy; exact hp
theorem ins_in {fu : Nat} (hf3 : 3 < fu) {A P R : List Timer22} {x : Timer22} {b i : Int} (hP : Asc ltD P) (hl : (A ++ P ++ x :: R).length < 1000000000) (hf : P.length + 1 < fu) :
    ∃ P', Asc ltD P' ∧ P'.Perm (P ++ [x]) ∧ iter (t47_1 fu) fu ((), ((A.length : Int), (b, ((), (i, (((A.length + P.length : Nat) : Int), (A ++ P ++ x :: R, ()))))))) = some (.inl ((), ((A.length : Int), (b, ((), (i, (A ++ P' ++ R, ()))))))) := by
  simp only [List.length_append, List.length_cons] at hl
  obtain ⟨e, he, P', h1, h2, rfl⟩ := iter_meas (step := t47_1 fu)
    (fun s => ∃ P1 P2 : List Timer22, s = ((), ((A.length : Int), (b, ((), (i, (((A.length + P1.length : Nat) : Int), (A ++ P1 ++ x :: (P2 ++ R), ()))))))) ∧ P1 ++ P2 = P ∧ ∀ y ∈ P2, ltD x y = true)
    (fun s => (s.2.2.2.2.2.1 - A.length).toNat)
    (fun e => ∃ P', Asc ltD P' ∧ P'.Perm (P ++ [x]) ∧ e = .inl ((), ((A.length : Int), (b, ((), (i, (A ++ P' ++ R, ())))))))
    (by
      rintro s ⟨P1, P2, rfl, rfl, h2⟩
      simp only [List.length_append] at hl hf
      have stop : ∀ _ : (∀ y ∈ P1, ltD x y = false), ∃ P', Asc ltD P' ∧ P'.Perm (P1 ++ P2 ++ [x]) ∧ (Sum.inl ((), ((A.length : Int), (b, ((), (i, (A ++ P1 ++ x :: (P2 ++ R), ())))))) : (Unit × (Int × (Int × (Unit × (Int × ((List Timer22) × Unit)))))) ⊕ Empty) = .inl ((), ((A.length : Int), (b, ((), (i, (A ++ P' ++ R, ())))))) := fun h1 => by
        refine ⟨P1 ++ x :: P2, asc_mid hP h1 fun y hy => ordD.asym (h2 y hy), ?_, by simp⟩
        exact List.perm_middle.trans (List.perm_append_singleton x (P1 ++ P2)).symm
      rcases List.eq_nil_or_concat P1 with rfl | ⟨P0, p, rfl⟩
      · refine .inr ⟨_, ?_, stop (by simp)⟩
        have e1 : ilt (A.length : Int) ((A.length + ([] : List Timer22).length : Nat) : Int) = false := ilt_f.2 (by simp)
        simp only [t47_1, e1]
      · simp only [List.concat_eq_append, List.length_append, List.length_cons, List.length_nil] at *
        have e1 : ilt (A.length : Int) ((A.length + (P0.length + (0 + 1)) : Nat) : Int) = true := ilt_iff.2 (by omega)
        have e2 : isub .i64 ((A.length + (P0.length + (0 + 1)) : Nat) : Int) 1 = ((A.length + P0.length : Nat) : Int) := by rw [isub64 (by omega)]; omega
        obtain ⟨k1, k2, k3, k4, k5, _⟩ := adj_step (A ++ P0) (P2 ++ R) p x
        have er : A ++ (P0 ++ [p]) ++ x :: (P2 ++ R) = (A ++ P0) ++ p :: x :: (P2 ++ R) := by simp
        simp only [List.length_append] at k1 k2 k3 k4 k5
        rw [er]
        have ea : A.length + (P0.length + (0 + 1)) = A.length + P0.length + 1 := by omega
        rw [ea] at e1 e2 ⊢
        cases hx : ltD x p with
        | false =>
          have st := stop (asc_last (asc_append.1 hP).1 hx)
          rw [er] at st
          refine .inr ⟨_, ?_, st⟩
          simp only [t47_1, e1, e2, dat_nat, k1, k2, cmpT22 fu hf3, cmpT_lt, hx]
        | true =>
          refine .inl ⟨_, by simp only [t47_1, e1, e2, dat_nat, k1, k2, cmpT22 fu hf3, cmpT_lt, hx, eta22, dset_nat, k3, k4, k5]; rfl, ⟨P0, p :: P2, by simp, by simp, fun y hy => ?_⟩, ?_⟩
          · rcases List.mem_cons.1 hy with rfl | hy
            · exact hx
            · exact h2 y hy
          · show ((((A.length + P0.length : Nat)) : Int) - A.length).toNat < ((((A.length + P0.length + 1 : Nat)) : Int) - A.length).toNat
            omega)
    fu ((), ((A.length : Int), (b, ((), (i, (((A.length + P.length : Nat) : Int), (A ++ P ++ x :: R, ()))))))) ⟨P, [], by rw [List.nil_append], by simp, by simp⟩ (by show ((((A.length + P.length : Nat)) : Int) - A.length).toNat < fu; omega)
  exact ⟨P', h1, h2, he⟩
theorem ins22 {fu : Nat} {A X B : List Timer22} (hl : (A ++ X ++ B).length < 1000000000) (hf : (A ++ X ++ B).length + 4 < fu) :
    ∃ X', Asc ltD X' ∧ X'.Perm X ∧ s47 fu (A ++ X ++ B) (A.length : Int) ((A.length + X.length : Nat) : Int) = some (A ++ X' ++ B) := by
  simp only [List.length_append] at hl hf
  have e0 : iadd .i64 (A.length : Int) 1 = ((A.length + 1 : Nat) : Int) := iadd1 (by omega)
  cases X with
  | nil =>
    refine ⟨[], List.Pairwise.nil, .refl _, ?_⟩
    have e1 : ilt ((A.length + 1 : Nat) : Int) ((A.length + ([] : List Timer22).length : Nat) : Int) = false := ilt_f.2 (by simp only [List.length_nil]; omega)
    obtain ⟨k, rfl⟩ : ∃ k, fu = k + 1 := ⟨fu - 1, by omega⟩
    unfold s47
    rw [e0]
    simp only [iter, t47_0, e1]
  | cons x0 X =>
    simp only [List.length_cons] at hl hf
    obtain ⟨e, he, X', h1, h2, rfl⟩ := iter_meas (step := t47_0 fu)
      (fun s => ∃ P Q : List Timer22, s = ((), ((A.length : Int), (((A.length + (x0 :: X).length : Nat) : Int), ((), (((A.length + P.length : Nat) : Int), (A ++ P ++ Q ++ B, ())))))) ∧ Asc ltD P ∧ (P ++ Q).Perm (x0 :: X))
      (fun s => ((A.length + X.length + 1 : Int) - s.2.2.2.2.1).toNat)
      (fun e => ∃ X', Asc ltD X' ∧ X'.Perm (x0 :: X) ∧ e = .inl (A ++ X' ++ B, ()))
      (by
        rintro s ⟨P, Q, rfl, hP, hp⟩
        have hlen := hp.length_eq
        simp only [List.length_append, List.length_cons] at hlen
        cases Q with
        | nil =>
          refine .inr ⟨.inl (A ++ P ++ [] ++ B, ()), ?_, P, hP, by simpa using hp, by rw [List.append_nil]⟩
          have e1 : ilt ((A.length + P.length : Nat) : Int) ((A.length + (x0 :: X).length : Nat) : Int) = false := ilt_f.2 (by simp at hlen ⊢; omega)
          simp only [t47_0, e1]
        | cons x Q =>
          simp only [List.length_cons] at hlen
          have e1 : ilt ((A.length + P.length : Nat) : Int) ((A.length + (x0 :: X).length : Nat) : Int) = true := ilt_iff.2 (by simp only [List.length_cons]; omega)
          obtain ⟨P', p1, p2, p3⟩ := ins_in (fu := fu) (by omega) (A := A) (P := P) (R := Q ++ B) (x := x) (b := ((A.length + (x0 :: X).length : Nat) : Int)) (i := ((A.length + P.length : Nat) : Int)) hP (by simp only [List.length_append, List.length_cons]; omega) (by omega)
          have pl := p2.length_eq
          simp only [List.length_append, List.length_cons, List.length_nil] at pl
          have e2 : iadd .i64 ((A.length + P.length : Nat) : Int) 1 = ((A.length + P'.length : Nat) : Int) := by rw [iadd1 (by omega)]; omega
          have er : A ++ P ++ (x :: Q) ++ B = A ++ P ++ x :: (Q ++ B) := by simp
          rw [er]
          refine .inl ⟨_, by simp only [t47_0, e1, p3, e2]; rfl, ⟨P', Q, by simp, p1, ?_⟩, ?_⟩
          · refine List.Perm.trans ?_ hp
            rw [show P ++ x :: Q = (P ++ [x]) ++ Q by simp]
            exact p2.append_right Q
          · show ((A.length + X.length + 1 : Int) - ((A.length + P'.length : Nat) : Int)).toNat < ((A.length + X.length + 1 : Int) - ((A.length + P.length : Nat) : Int)).toNat
            omega)
      fu ((), ((A.length : Int), (((A.length + (x0 :: X).length : Nat) : Int), ((), (((A.length + 1 : Nat) : Int), (A ++ [x0] ++ X ++ B, ())))))) ⟨[x0], X, rfl, List.pairwise_singleton _ _, by simp⟩ (by show ((A.length + X.length + 1 : Int) - ((A.length + 1 : Nat) : Int)).toNat < fu; omega)
    refine ⟨X', h1, h2, ?_⟩
    unfold s47
    rw [e0]
    have er : A ++ x0 :: X ++ B = A ++ [x0] ++ X ++ B := by simp
    rw [er]
    rw [he]
end Go.G
