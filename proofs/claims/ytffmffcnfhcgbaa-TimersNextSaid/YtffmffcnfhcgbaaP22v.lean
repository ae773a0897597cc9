import Derived.Test.YtffmffcnfhcgbaaP22t
import Derived.KernelRfl
set_option linter.unusedVariables false
set_option linter.unusedSimpArgs false
namespace Go.G
set_option maxRecDepth 100000
/-! ### symMerge -/
section
variable (rec : List Timer22 → Int → Int → Int → Option (List Timer22))
def tl3 (mid b en : Int) (r : List Timer22) : Option (List Timer22) := match ilt mid en with
  | false => some r
  | true => match ilt en b with
    | false => some r
    | true => match rec r mid en b with
      | none => none
      | some r => some r
def tl2 (a mid b start en : Int) (r : List Timer22) : Option (List Timer22) := match ilt a start with
  | false => tl3 rec mid b en r
  | true => match ilt start mid with
    | false => tl3 rec mid b en r
    | true => match rec r a start mid with
      | none => none
      | some r => tl3 rec mid b en r
def tl1 (fu : Nat) (a m b mid start en : Int) (r : List Timer22) : Option (List Timer22) := match ilt start m with
  | false => tl2 rec a mid b start en r
  | true => match ilt m en with
    | false => tl2 rec a mid b start en r
    | true => match s50 fu r start m en with
      | none => none
      | some r => tl2 rec a mid b start en r
def mid48 (a b : Int) : Int := iwrap .i64 (ishr .u64 (iwrap .u64 (iadd .i64 a b)) 1)
theorem w48_eq (fu : Nat) (l : List Timer22) (a m b : Int) : w48 fu rec l a m b = (match ieq (isub .i64 m a) 1 with
    | false => (match ieq (isub .i64 b m) 1 with
      | false => (match ilt (mid48 a b) m with
        | false => (match iter (t48_0 fu) fu ((), (a, (m, (b, ((), (mid48 a b, (iadd .i64 (mid48 a b) m, (a, (m, (isub .i64 (iadd .i64 (mid48 a b) m) 1, (l, ()))))))))))) with
          | none => none
          | some (.inl y) => tl1 rec fu y.2.1 y.2.2.1 y.2.2.2.1 y.2.2.2.2.2.1 y.2.2.2.2.2.2.2.1 (isub .i64 y.2.2.2.2.2.2.1 y.2.2.2.2.2.2.2.1) y.2.2.2.2.2.2.2.2.1
          | some (.inr y) => Empty.elim y)
        | true => (match iter (t48_22 fu) fu ((), (a, (m, (b, ((), (mid48 a b, (iadd .i64 (mid48 a b) m, (isub .i64 (iadd .i64 (mid48 a b) m) b, (mid48 a b, (isub .i64 (iadd .i64 (mid48 a b) m) 1, (l, ()))))))))))) with
          | none => none
          | some (.inl y) => tl1 rec fu y.2.1 y.2.2.1 y.2.2.2.1 y.2.2.2.2.2.1 y.2.2.2.2.2.2.2.1 (isub .i64 y.2.2.2.2.2.2.1 y.2.2.2.2.2.2.2.1) y.2.2.2.2.2.2.2.2.1
          | some (.inr y) => Empty.elim y))
      | true => (match iter (t48_44 fu) fu ((), (m, ((), (a, (m, (l, ())))))) with
        | none => none
        | some (.inl y) => (match iter (t48_52 fu) fu ((), (y.2.2.1, (y.2.1, (y.2.2.2.1, ())))) with
          | none => none
          | some (.inl z) => some z.1
          | some (.inr z) => Empty.elim z)
        | some (.inr y) => Empty.elim y))
    | true => (match iter (t48_65 fu) fu ((), (a, ((), (m, (b, (l, ())))))) with
      | none => none
      | some (.inl y) => (match iter (t48_73 fu) fu ((), (y.2.2.1, (y.2.1, (y.2.2.2.1, ())))) with
        | none => none
        | some (.inl z) => some z.1
        | some (.inr z) => Empty.elim z)
      | some (.inr y) => Empty.elim y)) := by
  kernel_rfl



end
/-- What a merging does, for parts of fewer than N together. -/
def MergeOK (rec : List Timer22 → Int → Int → Int → Option (List Timer22)) (N : Nat) : Prop :=
  ∀ A L R B : List Timer22, L ≠ [] → R ≠ [] → L.length + R.length < N → Asc ltD L → Asc ltD R → (A ++ L ++ R ++ B).length < 100000 →
    ∃ X, Asc ltD X ∧ X.Perm (L ++ R) ∧ rec (A ++ L ++ R ++ B) (A.length : Int) ((A.length + L.length : Nat) : Int) ((A.length + L.length + R.length : Nat) : Int) = some (A ++ X ++ B)
section
variable {rec : List Timer22 → Int → Int → Int → Option (List Timer22)} {N fu : Nat} (hrec : MergeOK rec N) (hfu : 200000 < fu)
include hrec hfu
theorem tl3_ok {A X L2 R2 B : List Timer22} (hl : (A ++ X ++ L2 ++ R2 ++ B).length < 100000) (hL : Asc ltD L2) (hR : Asc ltD R2) (hN : L2.length + R2.length < N) :
    ∃ Y, Asc ltD Y ∧ Y.Perm (L2 ++ R2) ∧ tl3 rec ((A ++ X).length : Int) (((A ++ X).length + L2.length + R2.length : Nat) : Int) (((A ++ X).length + L2.length : Nat) : Int) (A ++ X ++ L2 ++ R2 ++ B) = some (A ++ X ++ Y ++ B) := by
  have _ := hfu
  unfold tl3
  rcases L2.eq_nil_or_concat with hnil | hcon
  · subst hnil
    refine ⟨R2, hR, by simp, ?_⟩
    simp only [List.length_nil, Nat.add_zero, ilt_end, List.append_nil]
  · have h1 : L2 ≠ [] := by rintro rfl; obtain ⟨_, _, h⟩ := hcon; simp at h
    have h1' := List.length_pos_iff.2 h1
    rw [ilt_iff.2 (by omega)]
    rcases R2.eq_nil_or_concat with hnil | hcon
    · subst hnil
      refine ⟨L2, hL, by simp, ?_⟩
      simp only [List.length_nil, Nat.add_zero, ilt_end, List.append_nil]
    · have h2 : R2 ≠ [] := by rintro rfl; obtain ⟨_, _, h⟩ := hcon; simp at h
      have h2' := List.length_pos_iff.2 h2
      obtain ⟨Y, y1, y2, y3⟩ := hrec (A ++ X) L2 R2 B h1 h2 hN hL hR hl
      refine ⟨Y, y1, y2, ?_⟩
      simp only [ilt_iff.2 (show (((A ++ X).length + L2.length : Nat) : Int) < (((A ++ X).length + L2.length + R2.length : Nat) : Int) by omega), y3]
theorem tl2_ok {A L1 R1 L2 R2 B : List Timer22} {mid b start en : Int} (hl : (A ++ L1 ++ R1 ++ L2 ++ R2 ++ B).length < 100000) (hL : Asc ltD (L1 ++ L2)) (hR : Asc ltD (R1 ++ R2)) (hN1 : L1.length + R1.length < N) (hN2 : L2.length + R2.length < N)
    (h1 : ∀ a ∈ L1, ∀ b ∈ R2, ltD b a = false) (h2 : ∀ a ∈ R1, ∀ b ∈ L2, ltD b a = false)
    (es : start = ((A.length + L1.length : Nat) : Int)) (em : mid = ((A.length + L1.length + R1.length : Nat) : Int)) (ee : en = ((A.length + L1.length + R1.length + L2.length : Nat) : Int)) (eb : b = ((A.length + L1.length + R1.length + L2.length + R2.length : Nat) : Int)) :
    ∃ X, Asc ltD X ∧ X.Perm (L1 ++ L2 ++ (R1 ++ R2)) ∧ tl2 rec (A.length : Int) mid b start en (A ++ L1 ++ R1 ++ L2 ++ R2 ++ B) = some (A ++ X ++ B) := by
  subst es em ee eb
  have aL := asc_append.1 hL
  have aR := asc_append.1 hR
  have hl' : A.length + L1.length + R1.length + L2.length + R2.length + B.length < 100000 := by simpa [Nat.add_assoc] using hl
  -- what comes behind, once the first part is in order
  have behind : ∀ X : List Timer22, Asc ltD X → X.Perm (L1 ++ R1) → ∃ Z, Asc ltD Z ∧ Z.Perm (L1 ++ L2 ++ (R1 ++ R2)) ∧
      tl3 rec ((A.length + L1.length + R1.length : Nat) : Int) ((A.length + L1.length + R1.length + L2.length + R2.length : Nat) : Int) ((A.length + L1.length + R1.length + L2.length : Nat) : Int) (A ++ X ++ L2 ++ R2 ++ B) = some (A ++ Z ++ B) := by
    intro X hX pX
    have hx := pX.length_eq
    simp only [List.length_append] at hx
    obtain ⟨Y, y1, y2, y3⟩ := tl3_ok hrec hfu (A := A) (X := X) (L2 := L2) (R2 := R2) (B := B) (by simp only [List.length_append]; omega) aL.2.1 aR.2.1 hN2
    obtain ⟨z1, z2⟩ := merge_parts hX y1 pX y2 hL hR h1 h2
    refine ⟨X ++ Y, z1, z2, ?_⟩
    rw [List.length_append, hx, ← Nat.add_assoc] at y3
    rw [y3]
    simp only [List.append_assoc]
  unfold tl2
  by_cases hL1 : L1 = []
  · subst hL1
    obtain ⟨Z, z1, z2, z3⟩ := behind R1 aR.1 (by simp)
    refine ⟨Z, z1, z2, ?_⟩
    simp only [List.length_nil, Nat.add_zero, ilt_end, List.append_nil] at z3 ⊢
    exact z3
  · have p1 := List.length_pos_iff.2 hL1
    simp only [ilt_iff.2 (show (A.length : Int) < ((A.length + L1.length : Nat) : Int) by omega)]
    by_cases hR1 : R1 = []
    · subst hR1
      obtain ⟨Z, z1, z2, z3⟩ := behind L1 aL.1 (by simp)
      refine ⟨Z, z1, z2, ?_⟩
      simp only [List.length_nil, Nat.add_zero, ilt_end, List.append_nil] at z3 ⊢
      exact z3
    · have p2 := List.length_pos_iff.2 hR1
      simp only [ilt_iff.2 (show ((A.length + L1.length : Nat) : Int) < ((A.length + L1.length + R1.length : Nat) : Int) by omega)]
      obtain ⟨X, x1, x2, x3⟩ := hrec A L1 R1 (L2 ++ R2 ++ B) hL1 hR1 hN1 aL.1 aR.1 (by simp only [List.length_append]; omega)
      obtain ⟨Z, z1, z2, z3⟩ := behind X x1 x2
      refine ⟨Z, z1, z2, ?_⟩
      have er : A ++ L1 ++ R1 ++ L2 ++ R2 ++ B = A ++ L1 ++ R1 ++ (L2 ++ R2 ++ B) := by simp only [List.append_assoc]
      have er2 : A ++ X ++ (L2 ++ R2 ++ B) = A ++ X ++ L2 ++ R2 ++ B := by simp only [List.append_assoc]
      simp only [er, x3, er2, z3]
theorem tl1_ok {A L1 R1 L2 R2 B : List Timer22} {m mid b start en : Int} (hl : (A ++ L1 ++ L2 ++ R1 ++ R2 ++ B).length < 100000) (hL : Asc ltD (L1 ++ L2)) (hR : Asc ltD (R1 ++ R2)) (hN1 : L1.length + R1.length < N) (hN2 : L2.length + R2.length < N)
    (h1 : ∀ a ∈ L1, ∀ b ∈ R2, ltD b a = false) (h2 : ∀ a ∈ R1, ∀ b ∈ L2, ltD b a = false)
    (es : start = ((A.length + L1.length : Nat) : Int)) (ek : m = ((A.length + L1.length + L2.length : Nat) : Int)) (em : mid = ((A.length + L1.length + R1.length : Nat) : Int)) (ee : en = ((A.length + L1.length + L2.length + R1.length : Nat) : Int)) (eb : b = ((A.length + L1.length + L2.length + R1.length + R2.length : Nat) : Int)) :
    ∃ X, Asc ltD X ∧ X.Perm (L1 ++ L2 ++ (R1 ++ R2)) ∧ tl1 rec fu (A.length : Int) m b mid start en (A ++ L1 ++ L2 ++ R1 ++ R2 ++ B) = some (A ++ X ++ B) := by
  have hl' : A.length + L1.length + L2.length + R1.length + R2.length + B.length < 100000 := by simpa [Nat.add_assoc] using hl
  obtain ⟨X, x1, x2, x3⟩ := tl2_ok hrec hfu (A := A) (L1 := L1) (R1 := R1) (L2 := L2) (R2 := R2) (B := B) (mid := mid) (b := b) (start := start) (en := en) (by simp only [List.length_append]; omega) hL hR hN1 hN2 h1 h2 es em (by omega) (by omega)
  refine ⟨X, x1, x2, ?_⟩
  subst es ek em ee eb
  unfold tl1
  by_cases hL2 : L2 = []
  · subst hL2
    simp only [List.length_nil, Nat.add_zero, ilt_end, List.append_nil] at x3 ⊢
    exact x3
  · have p1 := List.length_pos_iff.2 hL2
    simp only [ilt_iff.2 (show ((A.length + L1.length : Nat) : Int) < ((A.length + L1.length + L2.length : Nat) : Int) by omega)]
    by_cases hR1 : R1 = []
    · subst hR1
      simp only [List.length_nil, Nat.add_zero, ilt_end, List.append_nil] at x3 ⊢
      exact x3
    · have p2 := List.length_pos_iff.2 hR1
      simp only [ilt_iff.2 (show ((A.length + L1.length + L2.length : Nat) : Int) < ((A.length + L1.length + L2.length + R1.length : Nat) : Int) by omega)]
      have k := rot22 (fu := fu) (A := A ++ L1) (U := L2) (V := R1) (B := R2 ++ B) hL2 hR1 (by simp only [List.length_append]; omega) (by simp only [List.length_append]; omega)
      simp only [List.length_append] at k
      have er : A ++ L1 ++ L2 ++ R1 ++ R2 ++ B = A ++ L1 ++ L2 ++ R1 ++ (R2 ++ B) := by simp only [List.append_assoc]
      have er2 : A ++ L1 ++ R1 ++ L2 ++ (R2 ++ B) = A ++ L1 ++ R1 ++ L2 ++ R2 ++ B := by simp only [List.append_assoc]
      simp only [er, k, er2, x3]
end
end Go.G
