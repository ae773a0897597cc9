import Derived.Test.YtbldiioafmcbmaaP14g
set_option linter.unusedVariables false
set_option linter.unusedSimpArgs false
namespace Go.G
set_option maxRecDepth 100000
theorem tick_rest (fu : Nat) (n : Int) (l : List Alarm14) (i : Nat) (x : Alarm14) (hi : l[i]? = some x) (hd : due n x = true) (hb : ∀ j b, j < i → l[j]? = some b → due n b = false) (hf : l.length < fu) (hl : l.length < 1000000000) :
    ∃ (k : Nat) (c : List Alarm14), k ≤ l.length ∧ c.length = l.length ∧ c.take k = rest n l ∧
      iter (t10_22 fu) fu ((), ((), ((i : Int), (((i + 1 : Nat) : Int), ([x.ID], (((), ()), ((n, (l, ())), (l, ())))))))) = some (.inl ((), ((k : Int), (dueIDs n l, (((), ()), ((n, (l, ())), (c, ()))))))) := by
  have hi' := getElem?_lt hi
  have hpre : rest n (l.take i) = l.take i ∧ dueIDs n (l.take i) = [] := by
    have hall : ∀ b ∈ l.take i, due n b = false := fun b hb' => by
      obtain ⟨j, hj⟩ := List.getElem?_of_mem hb'
      have h1 := getElem?_lt hj
      rw [List.length_take] at h1
      rw [List.getElem?_take_of_lt (by omega)] at hj
      exact hb j b (by omega) hj
    constructor
    · unfold rest
      rw [List.filter_eq_self]
      intro b hb'
      simp [hall b hb']
    · unfold dueIDs
      rw [List.filter_eq_nil_iff.2 (fun b hb' => by simp [hall b hb'])]
      rfl
  have ht : l.take (i + 1) = l.take i ++ [x] := by rw [List.take_add_one, hi]; rfl
  obtain ⟨s, hs, hit⟩ := iter_inv (step := t10_22 fu) (fu := fu) (l.drop (i + 1)) (fun j (s : Nat × List Int × List Alarm14) => ((), ((), ((s.1 : Int), (((i + 1 + j : Nat) : Int), (s.2.1, (((), ()), ((n, (l, ())), (s.2.2, ())))))))))
    (fun _ y s => bif due n y then (s.1, s.2.1 ++ [y.ID], s.2.2) else (s.1 + 1, s.2.1, dset s.2.2 (s.1 : Int) y))
    (fun j s => s.1 ≤ i + j ∧ s.2.2.length = l.length ∧ s.2.2.take s.1 = rest n (l.take (i + 1 + j)) ∧ s.2.1 = dueIDs n (l.take (i + 1 + j)) ∧ ∀ q, i + 1 + j ≤ q → s.2.2[q]? = l[q]?)
    (fun s => .inl ((), ((s.1 : Int), (s.2.1, (((), ()), ((n, (l, ())), (s.2.2, ())))))))
    (i, [x.ID], l) (by rw [List.length_drop]; omega)
    ⟨by omega, rfl, by
      show l.take i = rest n (l.take (i + 1))
      have h1 := hpre.1
      rw [ht]
      unfold rest at h1 ⊢
      rw [List.filter_append, h1]
      simp [hd], by
      show [x.ID] = dueIDs n (l.take (i + 1))
      have h1 := hpre.2
      rw [ht]
      unfold dueIDs at h1 ⊢
      rw [List.filter_append, List.map_append, h1]
      simp [hd], fun _ _ => rfl⟩
    (fun j y s hy hI => by
      obtain ⟨k, off, c⟩ := s
      obtain ⟨i1, i2, i3, i4, i5⟩ := hI
      simp only at i1 i2 i3 i4 i5
      rw [List.getElem?_drop] at hy
      have hy' := getElem?_lt hy
      have hcy : c[i + 1 + j]? = some y := by rw [i5 _ (Nat.le_refl _)]; exact hy
      have hck : c[k]? = some c[k] := List.getElem?_eq_getElem (by omega)
      have lo : off.length ≤ i + 1 + j := by rw [i4]; unfold dueIDs; rw [List.length_map]; have := List.length_filter_le (due n) (l.take (i + 1 + j)); rw [List.length_take] at this; omega
      have d1 : dapp 8 off [y.ID] = some (off ++ [y.ID]) := dapp_ok (by simp; omega) (by simp; omega)
      have ht2 : l.take (i + 1 + j + 1) = l.take (i + 1 + j) ++ [y] := by rw [List.take_add_one, hy]; rfl
      have hdu : ieq y.At n = due n y := rfl
      simp only [t10_22, dlen_def, i2, ilt_len hy', dat_nat, hcy, hck, hdu, iadd1 (show i + 1 + j < 9223372036854775807 by omega), iadd1 (show k < 9223372036854775807 by omega), d1]
      rw [show i + 1 + (j + 1) = i + 1 + j + 1 by omega, ht2]
      cases hdd : due n y with
      | true => exact ⟨rfl, by simp only [cond_true]; omega, by simpa using i2, by simp [i3, rest, hdd], by simp [i4, dueIDs, hdd], fun q hq => i5 q (by omega)⟩
      | false =>
        refine ⟨rfl, by simp only [cond_false]; omega, by simp [dset, i2], ?_, by simp [i4, dueIDs, hdd], fun q hq => ?_⟩
        · simp only [cond_false, dset, Int.toNat_natCast]
          rw [List.take_add_one, List.take_set_of_le (by omega), List.getElem?_set_self (by omega), i3]
          simp [rest, hdd]
        · simp only [cond_false, dset, Int.toNat_natCast]
          rw [List.getElem?_set_ne (by omega)]
          exact i5 q (by omega))
    (fun s hI => by
      obtain ⟨k, off, c⟩ := s
      obtain ⟨i1, i2, i3, i4, i5⟩ := hI
      simp only at i1 i2 i3 i4 i5
      rw [List.length_drop] at *
      rw [show i + 1 + (l.length - (i + 1)) = l.length by omega]
      simp only [t10_22, dlen_def, i2, ilt_end])
  obtain ⟨k, off, c⟩ := s
  obtain ⟨i1, i2, i3, i4, i5⟩ := hs
  simp only at i1 i2 i3 i4 i5
  rw [List.length_drop] at *
  rw [show i + 1 + (l.length - (i + 1)) = l.length by omega, List.take_length] at i3 i4
  refine ⟨k, c, by omega, i2, i3, ?_⟩
  rw [i4] at hit
  simpa using hit
end Go.G
