import Derived.Test.YtffmffcnfhcgbaaP22w
set_option linter.unusedVariables false
set_option linter.unusedSimpArgs false
namespace Go.G
set_option maxRecDepth 100000
section
variable {fu : Nat} (hfu : 200000 < fu)
include hfu
/-- Where the middle parts are to be exchanged. -/
theorem cut_point {A L R B : List Timer22} {lo up M : Nat} (step : (Unit × (Int × (Int × (Int × (Unit × (Int × (Int × (Int × (Int × (Int × ((List Timer22) × Unit))))))))))) → Option ((Unit × (Int × (Int × (Int × (Unit × (Int × (Int × (Int × (Int × (Int × ((List Timer22) × Unit))))))))))) ⊕ ((Unit × (Int × (Int × (Int × (Unit × (Int × (Int × (Int × ((List Timer22) × Unit))))))))) ⊕ Empty)))
    (hstep : step = t48_0 fu) (hL : Asc ltD L) (hR : Asc ltD R) (hl : (A ++ L ++ R ++ B).length < 100000) (hM : M = (A.length + (A.length + L.length + R.length)) / 2)
    (h0 : lo ≤ up) (h1 : A.length ≤ lo) (h2 : up ≤ A.length + L.length) (h3 : up ≤ M) (h4 : M + L.length ≤ lo + L.length + R.length)
    (hlo : lo = A.length ∨ lo + (A.length + L.length + R.length) = M + (A.length + L.length)) (hhi : up = A.length + L.length ∨ up = M) (x1 x2 x3 : Int) :
    ∃ L1 L2 R1 R2 : List Timer22, L = L1 ++ L2 ∧ R = R1 ++ R2 ∧ A.length + L1.length + R1.length = M ∧ (∀ a ∈ L1, ∀ b ∈ R2, ltD b a = false) ∧ (∀ a ∈ R1, ∀ b ∈ L2, ltD b a = false) ∧
      iter step fu ((), (x1, (x2, (x3, ((), ((M : Int), (((M + (A.length + L.length) : Nat) : Int), ((lo : Int), ((up : Int), (((M + (A.length + L.length) - 1 : Nat) : Int), (A ++ L ++ R ++ B, ()))))))))))) =
        some (.inl ((), (x1, (x2, (x3, ((), ((M : Int), (((M + (A.length + L.length) : Nat) : Int), (((A.length + L1.length : Nat) : Int), (A ++ L ++ R ++ B, ())))))))))) := by
  subst hstep
  simp only [List.length_append] at hl
  have gl : ∀ c, A.length ≤ c → c < A.length + L.length → ∃ y, L[c - A.length]? = some y ∧ (A ++ L ++ R ++ B)[c]? = some y := fun c h1 h2 => by
    have hy : L[c - A.length]? = some _ := List.getElem?_eq_getElem (by omega)
    refine ⟨_, hy, ?_⟩
    have := get_part A L (R ++ B) (i := c - A.length) (by omega)
    rw [hy, show A.length + (c - A.length) = c by omega] at this
    simpa [List.append_assoc] using this
  have gr : ∀ c, A.length + L.length ≤ c → c < A.length + L.length + R.length → ∃ y, R[c - (A.length + L.length)]? = some y ∧ (A ++ L ++ R ++ B)[c]? = some y := fun c h1 h2 => by
    have hy : R[c - (A.length + L.length)]? = some _ := List.getElem?_eq_getElem (by omega)
    refine ⟨_, hy, ?_⟩
    have := get_part (A ++ L) R B (i := c - (A.length + L.length)) (by omega)
    rw [hy, List.length_append, show A.length + L.length + (c - (A.length + L.length)) = c by omega] at this
    exact this
  let q : Nat → Bool := fun c => match (A ++ L ++ R ++ B)[M + (A.length + L.length) - 1 - c]?, (A ++ L ++ R ++ B)[c]? with
    | some y, some z => ltD y z
    | _, _ => false
  have hq : ∀ c, lo ≤ c → c < up → ∃ y z, L[c - A.length]? = some z ∧ R[M - 1 - c]? = some y ∧ (A ++ L ++ R ++ B)[M + (A.length + L.length) - 1 - c]? = some y ∧ (A ++ L ++ R ++ B)[c]? = some z ∧ q c = ltD y z := fun c c1 c2 => by
    obtain ⟨z, z1, z2⟩ := gl c (by omega) (by omega)
    obtain ⟨y, y1, y2⟩ := gr (M + (A.length + L.length) - 1 - c) (by omega) (by omega)
    refine ⟨y, z, z1, by rw [show M - 1 - c = M + (A.length + L.length) - 1 - c - (A.length + L.length) by omega]; exact y1, y2, z2, ?_⟩
    show (match (A ++ L ++ R ++ B)[M + (A.length + L.length) - 1 - c]?, (A ++ L ++ R ++ B)[c]? with | some y, some z => ltD y z | _, _ => false) = _
    rw [y2, z2]
  obtain ⟨s, s1, s2, s3, s4, s5⟩ := iter_bisect (step := t48_0 fu) q (fun i j => ((), (x1, (x2, (x3, ((), ((M : Int), (((M + (A.length + L.length) : Nat) : Int), ((i : Int), ((j : Int), (((M + (A.length + L.length) - 1 : Nat) : Int), (A ++ L ++ R ++ B, ()))))))))))))
    (fun i => .inl ((), (x1, (x2, (x3, ((), ((M : Int), (((M + (A.length + L.length) : Nat) : Int), ((i : Int), (A ++ L ++ R ++ B, ())))))))))) (lo := lo) (hi := up) (fu := fu) h0 (by omega)
    (fun i j i1 i2 i3 i4 => by
      obtain ⟨y, z, a1, a2, a3, a4, a5⟩ := hq i i1 (by omega)
      obtain ⟨y', z', b1, b2, b3, b4, b5⟩ := hq j (by omega) i3
      rw [a5] at i4
      rw [b5]
      have e1 := hL.get_le ordD a1 b1 (by omega)
      have e2 := hR.get_le ordD b2 a2 (by omega)
      exact ordD.lt_of_lt_of_ge (ordD.lt_of_ge_of_lt e2 i4) e1)
    (fun i j i1 i2 i3 => by
      obtain ⟨y, z, a1, a2, a3, a4, a5⟩ := hq ((i + j) / 2) (by omega) (by omega)
      have e1 : iadd .i64 (((i + j) / 2 : Nat) : Int) 1 = (((i + j) / 2 + 1 : Nat) : Int) := iadd1 (by omega)
      have e2 : isub .i64 ((M + (A.length + L.length) - 1 : Nat) : Int) (((i + j) / 2 : Nat) : Int) = ((M + (A.length + L.length) - 1 - (i + j) / 2 : Nat) : Int) := by rw [isub64 (by omega)]; omega
      rw [a5]
      simp only [t48_0, ilt_len i2, show ilt 1 0 = false from rfl, mid64 (a := i) (b := j) (by omega) (by omega), e2, dat_nat, a3, a4, cmpT22 fu (by omega), cmpT_lt, e1]
      cases hy : ltD y z <;> simp)
    (fun i h1 h2 => by simp only [t48_0, ilt_end])
  obtain ⟨L1, L2, rfl, hL1⟩ := split_at L (k := s - A.length) (by omega)
  simp only [List.length_append] at *
  obtain ⟨R1, R2, rfl, hR1⟩ := split_at R (k := M - s) (by omega)
  simp only [List.length_append] at *
  have aL := asc_append.1 hL
  have aR := asc_append.1 hR
  refine ⟨L1, L2, R1, R2, rfl, rfl, by omega, fun a ha b hb => ?_, fun a ha b hb => ?_, by rw [s5]; rw [show A.length + L1.length = s by omega]⟩
  · -- the last of L1 against the first of R2
    obtain ⟨i, hi⟩ := List.getElem?_of_mem ha
    obtain ⟨j, hj⟩ := List.getElem?_of_mem hb
    have hi' := getElem?_lt hi
    have hj' := getElem?_lt hj
    have hls : lo < s := by omega
    obtain ⟨y, z, a1, a2, _, _, a5⟩ := hq (s - 1) (by omega) (by omega)
    rw [s3 (s - 1) (by omega) (by omega)] at a5
    have e1 := hL.get_le ordD (i := i) (j := s - 1 - A.length) (by rw [List.getElem?_append_left hi']; exact hi) a1 (by omega)
    have e2 := hR.get_le ordD (i := M - 1 - (s - 1)) (j := R1.length + j) a2 (by rw [List.getElem?_append_right (by omega), Nat.add_sub_cancel_left]; exact hj) (by omega)
    exact le_trans' ordD (le_trans' ordD e1 a5.symm) e2
  · obtain ⟨i, hi⟩ := List.getElem?_of_mem ha
    obtain ⟨j, hj⟩ := List.getElem?_of_mem hb
    have hi' := getElem?_lt hi
    have hj' := getElem?_lt hj
    obtain ⟨y, z, a1, a2, _, _, a5⟩ := hq s (by omega) (by omega)
    rw [s4 s (by omega) (by omega)] at a5
    have e1 := hR.get_le ordD (i := i) (j := M - 1 - s) (by rw [List.getElem?_append_left hi']; exact hi) a2 (by omega)
    have e2 := hL.get_le ordD (i := s - A.length) (j := L1.length + j) a1 (by rw [List.getElem?_append_right (by omega), Nat.add_sub_cancel_left]; exact hj) (by omega)
    exact le_trans' ordD (le_trans' ordD e1 (ordD.asym a5.symm)) e2
end
end Go.G
