import Derived.Test.YtffmffcnfhcgbaaP22e
import Derived.Test.YtffmffcnfhcgbaaGE5
set_option linter.unusedVariables false
set_option linter.unusedSimpArgs false
namespace Go.G
set_option maxRecDepth 100000
/-! ### Next -/
def minF (m y : Timer22) : Timer22 := bif ilt y.Due m.Due then y else m
def nextF (l : List Timer22) : Int × Bool × Unit := match l with
  | [] => (0, false, ())
  | x :: r => ((r.foldl minF x).Due, true, ())
theorem cmpI_lt (a b : Int) : ilt (cmpI a b) 0 = ilt a b := by
  unfold cmpI
  by_cases h : a < b
  · rw [if_pos h, ilt_iff.2 h]; rfl
  · rw [if_neg h, ilt_f.2 (by omega : b ≤ a)]
    split <;> rfl
theorem next22 {fu : Nat} {l : List Timer22} (hf : l.length < fu) (hl : l.length < 1000000000) : s17 fu l = some (nextF l) := by
  cases l with
  | nil => rfl
  | cons x r =>
    have e1 : ieq (dlen (x :: r)) 0 = false := ieq_f.2 (by rw [dlen_def, List.length_cons]; omega)
    have e2 : ilt (dlen (x :: r)) 1 = false := ilt_f.2 (by rw [dlen_def, List.length_cons]; omega)
    have e3 : dat (x :: r) 0 = some x := rfl
    simp only [List.length_cons] at hf hl
    have := iter_fold (step := t17_1 fu) (fu := fu) r (fun j (m : Timer22) => (x :: r, ((), ((), ((), (((j + 1 : Nat) : Int), ((m.Owner, (m.Tag, (m.Due, ()))), ((0, (0, (0, ()))), ()))))))))
      (fun y m => minF m y) (fun _ _ => True) (fun m => .inl ((), ((), ((m.Owner, (m.Tag, (m.Due, ()))), ((0, (0, (0, ()))), ()))))) x (by omega) trivial
      (fun j y m hy _ => by
        have hj := getElem?_lt hy
        have a1 : ilt ((j + 1 : Nat) : Int) (dlen (x :: r)) = true := ilt_iff.2 (by rw [dlen_def, List.length_cons]; omega)
        have a2 : dat (x :: r) ((j + 1 : Nat) : Int) = some y := by rw [dat_nat]; simpa using hy
        have a3 : iadd .i64 ((j + 1 : Nat) : Int) 1 = ((j + 1 + 1 : Nat) : Int) := iadd1 (by omega)
        refine ⟨?_, trivial⟩
        simp only [t17_1, a1, a2, a3, s35, cmp22, cmpI_lt]
        unfold minF
        cases ilt y.Due m.Due <;> rfl)
      (fun m _ => by
        have a1 : ilt ((r.length + 1 : Nat) : Int) (dlen (x :: r)) = false := ilt_f.2 (by rw [dlen_def, List.length_cons]; omega)
        simp only [t17_1, a1])
    simp only [Nat.zero_add, show ((1 : Nat) : Int) = 1 from rfl] at this
    unfold s17
    simp only [e1, e2, e3, this]
    rfl
theorem nextR22 {fu : Nat} {l : List Timer22} (hf : l.length + 1 < fu) (hl : l.length < 1000000000) : s18 fu l = some (nextF l) := by
  cases l with
  | nil =>
    obtain ⟨k, rfl⟩ : ∃ k, fu = k + 1 := ⟨fu - 1, by omega⟩
    rfl
  | cons x r =>
    simp only [List.length_cons] at hf hl
    obtain ⟨k, rfl⟩ : ∃ k, fu = k + 1 := ⟨fu - 1, by omega⟩
    have := iter_fold (step := t18_0 (k + 1)) (fu := k) r (fun j (m : Timer22) => (x :: r, (m.Due, (((j + 1 : Nat) : Int), ()))))
      (fun y m => minF m y) (fun _ _ => True) (fun m => .inl (x :: r, (m.Due, ()))) x (by omega) trivial
      (fun j y m hy _ => by
        have hj := getElem?_lt hy
        have a1 : ilt ((j + 1 : Nat) : Int) (dlen (x :: r)) = true := ilt_iff.2 (by rw [dlen_def, List.length_cons]; omega)
        have a2 : dat (x :: r) ((j + 1 : Nat) : Int) = some y := by rw [dat_nat]; simpa using hy
        have a3 : iadd .i64 ((j + 1 : Nat) : Int) 1 = ((j + 1 + 1 : Nat) : Int) := iadd1 (by omega)
        have a4 : ieq ((j + 1 : Nat) : Int) 0 = false := ieq_f.2 (by omega)
        refine ⟨?_, trivial⟩
        simp only [t18_0, a1, a2, a3, a4]
        unfold minF
        cases ilt y.Due m.Due <;> rfl)
      (fun m _ => by
        have a1 : ilt ((r.length + 1 : Nat) : Int) (dlen (x :: r)) = false := ilt_f.2 (by rw [dlen_def, List.length_cons]; omega)
        simp only [t18_0, a1])
    simp only [Nat.zero_add, show ((1 : Nat) : Int) = 1 from rfl] at this
    have b1 : ilt 0 (dlen (x :: r)) = true := ilt_iff.2 (by rw [dlen_def, List.length_cons]; omega)
    have b2 : t18_0 (k + 1) (x :: r, (0, (0, ()))) = some (.inl (x :: r, (x.Due, (1, ())))) := by
      simp only [t18_0, b1, show ieq 0 0 = true from rfl, show dat (x :: r) 0 = some x from rfl, show iadd .i64 0 1 = 1 from rfl]
    unfold s18
    simp only [iter, b2, this, b1]
    rfl
/-! ### Drop -/
def ownB (g : Int) (x : Timer22) : Bool := ieq x.Owner g
theorem drop22 {fu : Nat} {l : List Timer22} (hf : l.length < fu) (hl : l.length < 1000000) (g : Int) : s12 fu l g = some (l.filter (fun x => !ownB g x), ()) := by
  have hc : dapp 24 [] l = some l := dapp_nil (by omega) (by omega)
  unfold s12
  simp only [hc]
  rcases iter_first (step := t12_1 fu) (fu := fu) l (fun j => ((), ((), ((dlen l), ((j : Int), ((g, ()), (l, ()))))))) (ownB g) (fun i _ => .inr (.inl ((i : Int), ((g, ()), (l, ()))))) (.inl ((g, ()), (l, ()))) hf
    (fun i x hi hq => by
      have h1 := getElem?_lt hi
      unfold ownB at hq
      simp only [t12_1, dlen_def, ilt_len h1, dat_nat, hi, hq, iadd1 (show i < 9223372036854775807 by omega)])
    (fun i x hi hq => by
      have h1 := getElem?_lt hi
      unfold ownB at hq
      simp only [t12_1, dlen_def, ilt_len h1, dat_nat, hi, hq])
    (by simp only [t12_1, dlen_def, ilt_end]) with ⟨i, x, h1, h2, h3, h4⟩ | ⟨h1, h2⟩
  · rw [show ((0 : Nat) : Int) = 0 from rfl] at h4
    obtain ⟨k, c, q1, q2, q3, q4⟩ := iter_compact (step := t12_17 fu) (fu := fu) (ownB g) l (fun k j c => ((), ((), ((k : Int), ((j : Int), ((g, ()), (c, ()))))))) (fun k c => .inl ((), ((k : Int), ((g, ()), (c, ()))))) i x h1 h2 h3
      (fun k j c y z hc hkj hz hy => by
        have h1 := getElem?_lt hy
        unfold ownB
        simp only [t12_17, dlen_def, dat_nat, hy, hz, ilt_len h1, iadd1 (show j < 9223372036854775807 by omega), iadd1 (show k < 9223372036854775807 by omega), eta22, dset, Int.toNat_natCast]
        cases ieq y.Owner g <;> rfl)
      (fun k c hc => by rw [← hc]; simp only [t12_17, dlen_def, ilt_end]) hf
    have hi' := getElem?_lt h1
    have dd := cut_facts (c := c) (k := k) (by omega) (⟨0, 0, 0⟩ : Timer22)
    have hcut := dd.cut
    rw [dd.c7] at hcut
    simp only [h4, show ieq (i : Int) (-1) = false from ieq_f.2 (by omega), iadd1 (show i < 9223372036854775807 by omega), q4, dd.c1, dd.c2, dd.c3, dd.c4, dd.c5, dd.put, dd.c6, dd.c7, hcut]
    rw [q3]
  · rw [show ((0 : Nat) : Int) = 0 from rfl] at h2
    have hfl : l.filter (fun m => !ownB g m) = l := by
      rw [List.filter_eq_self]
      intro b hb
      simp [h1 b hb]
    simp only [h2, show ieq (-1) (-1) = true from rfl, hfl]
theorem dropR22 {fu : Nat} {l : List Timer22} (hf : l.length < fu) (hl : l.length < 1000000) (g : Int) : s19 fu l g = some (l.filter (fun x => !ownB g x), ()) := by
  have := iter_fold (step := t19_0 fu) (fu := fu) l (fun j (acc : List Timer22) => (l, (g, ((), ((j : Int), (acc, ()))))))
    (fun x acc => if (!ownB g x) = true then acc ++ [x] else acc) (fun i acc => acc.length ≤ i) (fun acc => .inl ((), (acc, ()))) [] hf (Nat.le_refl _)
    (fun i x acc hi hI => by
      have h1 := getElem?_lt hi
      have e1 : iadd .i64 (i : Int) 1 = ((i + 1 : Nat) : Int) := iadd1 (by omega)
      have e2 : dapp 24 acc [x] = some (acc ++ [x]) := dapp_ok (by simp; omega) (by simp; omega)
      unfold ownB
      cases hq : ieq x.Owner g with
      | true => exact ⟨by simp only [t19_0, dlen_def, dat_nat, hi, ilt_len h1, hq, e1]; rfl, by simp; omega⟩
      | false => exact ⟨by simp only [t19_0, dlen_def, dat_nat, hi, ilt_len h1, hq, e1, eta22, e2]; rfl, by simp; omega⟩)
    (fun acc hI => by simp only [t19_0, dlen_def, ilt_end])
  rw [show ((0 : Nat) : Int) = 0 from rfl, foldl_filter_snoc] at this
  unfold s19
  simp only [this, List.nil_append]
end Go.G
