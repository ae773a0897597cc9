import Derived.Test.YtmknondapmmehaaGSort3
set_option linter.unusedVariables false
set_option linter.unusedSimpArgs false
namespace Go.G
set_option maxRecDepth 100000
/-- What slices.DeleteFunc does behind the first element found: the others move up. -/
theorem iter_compact {α X ε : Type} {step : X → Option (X ⊕ ε)} {fu : Nat} (q : α → Bool) (l : List α) (st : Nat → Nat → List α → X) (fin : Nat → List α → ε) (i : Nat) (x : α) (hi : l[i]? = some x) (hq : q x = true)
    (hb : ∀ j b, j < i → l[j]? = some b → q b = false)
    (hs : ∀ k j c y z, c.length = l.length → k < j → c[k]? = some z → c[j]? = some y → step (st k j c) = some (.inl (bif q y then st k (j + 1) c else st (k + 1) (j + 1) (c.set k y))))
    (he : ∀ k c, c.length = l.length → step (st k l.length c) = some (.inr (fin k c))) (hf : l.length < fu) :
    ∃ (k : Nat) (c : List α), k ≤ l.length ∧ c.length = l.length ∧ c.take k = l.filter (fun a => !q a) ∧ iter step fu (st i (i + 1) l) = some (fin k c) := by
  have hi' := getElem?_lt hi
  have hpre : (l.take i).filter (fun a => !q a) = l.take i := by
    rw [List.filter_eq_self]
    intro b hb'
    obtain ⟨j, hj⟩ := List.getElem?_of_mem hb'
    have h1 := getElem?_lt hj
    rw [List.length_take] at h1
    rw [List.getElem?_take_of_lt (by omega)] at hj
    rw [hb j b (by omega) hj]
    rfl
  have ht : l.take (i + 1) = l.take i ++ [x] := by rw [List.take_add_one, hi]; rfl
  obtain ⟨s, hs', hit⟩ := iter_inv (step := step) (fu := fu) (l.drop (i + 1)) (fun j (s : Nat × List α) => st s.1 (i + 1 + j) s.2)
    (fun _ y s => bif q y then s else (s.1 + 1, s.2.set s.1 y))
    (fun j s => s.1 ≤ i + j ∧ s.2.length = l.length ∧ s.2.take s.1 = (l.take (i + 1 + j)).filter (fun a => !q a) ∧ ∀ p, i + 1 + j ≤ p → s.2[p]? = l[p]?)
    (fun s => fin s.1 s.2) (i, l) (by rw [List.length_drop]; omega)
    ⟨by simp, rfl, by
      show l.take i = (l.take (i + 1)).filter (fun a => !q a)
      rw [ht, List.filter_append, hpre]
      simp [hq], fun _ _ => rfl⟩
    (fun j y s hy hI => by
      obtain ⟨k, c⟩ := s
      obtain ⟨i1, i2, i3, i4⟩ := hI
      simp only at i1 i2 i3 i4
      rw [List.getElem?_drop] at hy
      have hy' := getElem?_lt hy
      have hcy : c[i + 1 + j]? = some y := by rw [i4 _ (Nat.le_refl _)]; exact hy
      have ht2 : l.take (i + 1 + j + 1) = l.take (i + 1 + j) ++ [y] := by rw [List.take_add_one, hy]; rfl
      have h1 := hs k (i + 1 + j) c y c[k] i2 (by omega) (List.getElem?_eq_getElem (by omega)) hcy
      rw [show i + 1 + (j + 1) = i + 1 + j + 1 by omega, ht2]
      simp only
      rw [h1]
      cases hqy : q y with
      | true => exact ⟨rfl, by simp only [cond_true]; omega, by simpa using i2, by simp [i3, hqy], fun p hp => i4 p (by omega)⟩
      | false =>
        refine ⟨rfl, by simp only [cond_false]; omega, by simp [i2], ?_, fun p hp => ?_⟩
        · simp only [cond_false]
          rw [List.take_add_one, List.take_set_of_le (by omega), List.getElem?_set_self (by omega), i3]
          simp [hqy]
        · simp only [cond_false]
          rw [List.getElem?_set_ne (by omega)]
          exact i4 p (by omega))
    (fun s hI => by
      obtain ⟨k, c⟩ := s
      rw [List.length_drop, show i + 1 + (l.length - (i + 1)) = l.length by omega]
      exact he k c hI.2.1)
  obtain ⟨k, c⟩ := s
  obtain ⟨i1, i2, i3, i4⟩ := hs'
  simp only at i1 i2 i3 i4
  rw [List.length_drop] at *
  rw [show i + 1 + (l.length - (i + 1)) = l.length by omega, List.take_length] at i3
  exact ⟨k, c, by omega, i2, i3, by simpa using hit⟩
/-- clear behind k, and the part ahead of it. -/
structure CutF {α : Type} (c : List α) (k : Nat) (z : α) : Prop where
  c1 : ile 0 (k : Int) = true
  c2 : ile (k : Int) (dlen c) = true
  c3 : ile (dlen c) (dlen c) = true
  c4 : ile 0 (osub (dlen c) (k : Int)) = true
  c5 : ile 0 0 = true
  put : dput c (k : Int) (drep (osub (dlen c) (k : Int)) z) = some (c.take k ++ List.replicate (c.length - k) z)
  c6 : ile (k : Int) (dlen (c.take k ++ List.replicate (c.length - k) z)) = true
  cut : dcut (c.take k ++ List.replicate (c.length - k) z) 0 (oadd 0 (osub (k : Int) 0)) = c.take k
  at_ : ∀ j : Nat, j < k → dat (c.take k ++ List.replicate (c.length - k) z) (oadd 0 (j : Int)) = (c.take k)[j]?
  c7 : osub (k : Int) 0 = (k : Int)
theorem cut_facts {α : Type} {c : List α} {k : Nat} (h : k ≤ c.length) (z : α) : CutF c k z := by
  refine ⟨ile_iff.2 (by omega), ile_iff.2 (by rw [dlen_def]; omega), ile_iff.2 (by omega), ile_iff.2 (by rw [dlen_def]; unfold osub; omega), rfl, ?_, ile_iff.2 (by rw [dlen_def]; simp; omega), ?_, fun j hj => ?_, by unfold osub; omega⟩
  · unfold dput drep osub
    rw [dlen_def, show ((c.length : Int) - (k : Int)).toNat = c.length - k by omega, if_pos ⟨by omega, by rw [List.length_replicate]; omega⟩, List.length_replicate]
    simp
    omega
  · unfold dcut oadd osub
    rw [show ((0 : Int) + ((k : Int) - 0)).toNat = (c.take k).length by rw [List.length_take]; omega]
    simp
  · rw [show oadd 0 (j : Int) = (j : Int) by unfold oadd; omega, dat_nat, List.getElem?_append_left (by rw [List.length_take]; omega)]
/-- How many stand ahead, one after the other. -/
theorem iter_while {α X ε : Type} {step : X → Option (X ⊕ ε)} {fu : Nat} {lt : α → α → Bool} {l : List α} {x : α} (st : Nat → X) (e : Nat → ε)
    (hs : ∀ i a, l[i]? = some a → step (st i) = some (bif lt a x then .inl (st (i + 1)) else .inr (e i))) (he : step (st l.length) = some (.inr (e l.length))) (hf : l.length < fu) :
    iter step fu (st 0) = some (e (posB lt l x)) := by
  have hp := posB_le (lt := lt) l x
  refine iter_run (n := posB lt l x) st (fun j hj => ?_) ?_ (by omega)
  · have hx : l[j]? = some l[j] := List.getElem?_eq_getElem (by omega)
    rw [hs j _ hx, posB_lt hx hj]
    rfl
  · by_cases h : posB lt l x < l.length
    · have hx : l[posB lt l x]? = some l[posB lt l x] := List.getElem?_eq_getElem h
      rw [hs _ _ hx, posB_at hx]
      rfl
    · rw [show posB lt l x = l.length by omega]
      exact he
/-- take ++ x :: drop, as append makes it. -/
structure PutF {α : Type} (bytes : Nat) (l : List α) (p : Nat) (x : α) : Prop where
  s1 : dsub l 0 (p : Int) = some (l.take p)
  a1 : dapp bytes [] (l.take p) = some (l.take p)
  a2 : dapp bytes (l.take p) [x] = some (l.take p ++ [x])
  s2 : dsub l (p : Int) (dlen l) = some (l.drop p)
  a3 : dapp bytes (l.take p ++ [x]) (l.drop p) = some (l.take p ++ x :: l.drop p)
theorem put_facts {α : Type} {bytes : Nat} {l : List α} {p : Nat} {x : α} (h : p ≤ l.length) (hl : (l.length + 1) * bytes ≤ 140737488355328) (h2 : l.length + 1 ≤ 9223372036854775807) : PutF bytes l p x := by
  have hm : ∀ n, n ≤ l.length + 1 → n * bytes ≤ 140737488355328 := fun n hn => Nat.le_trans (Nat.mul_le_mul_right _ hn) hl
  refine ⟨dsub0 h, dapp_nil (hm _ (by rw [List.length_take]; omega)) (by rw [List.length_take]; omega), dapp_ok (hm _ (by simp; omega)) (by simp; omega), ?_, ?_⟩
  · rw [dlen_def, dsub_ok h (Nat.le_refl _), List.take_length]
  · rw [dapp_ok (hm _ (by simp; omega)) (by simp; omega)]
    simp
end Go.G
