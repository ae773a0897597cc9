import Derived.Test.YtffmffcnfhcgbaaP22z
set_option linter.unusedVariables false
set_option linter.unusedSimpArgs false
namespace Go.G
set_option maxRecDepth 100000
/-- The timers in the order in which they are due. -/
def sortD (l : List Timer22) : List Timer22 := l.mergeSort (fun a b => !ltD b a)
theorem sortD_perm (l : List Timer22) : (sortD l).Perm l := List.mergeSort_perm _ _
theorem sortD_asc (l : List Timer22) : Asc ltD (sortD l) := by
  have := List.pairwise_mergeSort (le := fun a b => !ltD b a) (fun a b c h1 h2 => by
    simp only [Bool.not_eq_true'] at *
    exact le_trans' ordD h1 h2) (fun a b => by
    cases h : ltD b a with
    | false => rfl
    | true => simp [ordD.asym h]) l
  exact this.imp (fun h => by simpa using h)
theorem sortD_uni {l m : List Timer22} (h : Asc ltD m) (p : m.Perm l) : m = sortD l := asc_unique ltD_eq h (sortD_asc l) (p.trans (sortD_perm l).symm)
def duB (now : Int) (x : Timer22) : Bool := ile x.Due now
def expF (l : List Timer22) (now : Int) : List Timer22 × List Timer22 × Unit := (l.filter (fun x => !duB now x), sortD (l.filter (duB now)), ())
theorem take_fil {l : List Timer22} {j : Nat} {x : Timer22} (q : Timer22 → Bool) (h : l[j]? = some x) : (l.take (j + 1)).filter q = (l.take j).filter q ++ (bif q x then [x] else []) := by
  rw [List.take_add_one, h, List.filter_append]
  cases hq : q x <;> simp [hq]
theorem fil_len (l : List Timer22) (q : Timer22 → Bool) (j : Nat) : ((l.take j).filter q).length ≤ j := Nat.le_trans (List.length_filter_le _ _) (by rw [List.length_take]; omega)
theorem exp22 {fu : Nat} (hfu : 200000 < fu) {l : List Timer22} (hl : l.length < 400) (now : Int) : s11 fu l now = some (expF l now) := by
  have hc : dapp 24 [] l = some l := dapp_nil (by omega) (by omega)
  obtain ⟨⟨R, D, S⟩, ⟨i1, i2, i3⟩, hit⟩ := iter_inv (step := t11_1 fu) (fu := fu) l
    (fun j (s : List Timer22 × List Timer22 × List Timer22) => (now, ((), ((), ((s.1.length : Int), (l, (dlen l, ((j : Int), (s.2.1, (s.1 ++ s.2.2, ()))))))))))
    (fun _ x s => bif duB now x then (s.1, s.2.1 ++ [x], s.2.2) else (s.1 ++ [x], s.2.1, s.2.2.drop 1))
    (fun j s => s.1 = (l.take j).filter (fun x => !duB now x) ∧ s.2.1 = (l.take j).filter (duB now) ∧ s.1.length + s.2.2.length = l.length)
    (fun s => .inl ((), ((), ((s.1.length : Int), (s.2.1, (s.1 ++ s.2.2, ())))))) ([], [], l) (by omega) ⟨by simp, by simp, by simp⟩
    (fun j x s hx hI => by
      obtain ⟨R, D, S⟩ := s
      obtain ⟨i1, i2, i3⟩ := hI
      simp only at i1 i2 i3
      have hj := getElem?_lt hx
      have lR : R.length ≤ j := by rw [i1]; exact fil_len _ _ _
      have lD : D.length ≤ j := by rw [i2]; exact fil_len _ _ _
      have e1 : iadd .i64 (j : Int) 1 = ((j + 1 : Nat) : Int) := iadd1 (by omega)
      rw [take_fil _ hx, take_fil _ hx, ← i1, ← i2]
      cases hq : duB now x with
      | true =>
        have hq' : ile x.Due now = true := hq
        have e2 : dapp 24 D [x] = some (D ++ [x]) := dapp_ok (by simp; omega) (by simp; omega)
        simp only [cond_true]
        exact ⟨by simp only [t11_1, dlen_def, ilt_len hj, dat_nat, hx, hq', eta22, e2, e1], by simp [hq], by simp, i3⟩
      | false =>
        have hq' : ile x.Due now = false := hq
        cases S with
        | nil => simp at i3; omega
        | cons z S =>
          have e2 : (R ++ z :: S)[R.length]? = some z := by simp
          have e3 : dset (R ++ z :: S) (R.length : Int) x = R ++ [x] ++ S := by rw [dset_nat, List.set_append_right _ _ (by omega)]; simp
          have e4 : iadd .i64 (R.length : Int) 1 = ((R ++ [x]).length : Int) := by rw [iadd1 (by omega)]; simp
          simp only [cond_false, List.drop_one, List.tail_cons]
          exact ⟨by simp only [t11_1, dlen_def, ilt_len hj, dat_nat, hx, hq', eta22, e2, e3, e1, e4], by simp [hq], by simp, by simp at i3 ⊢; omega⟩)
    (fun s hI => by simp only [t11_1, dlen_def, ilt_end])
  rw [List.take_length] at i1 i2
  simp only at i1 i2 i3
  have lD : D.length ≤ l.length := by rw [i2]; exact List.length_filter_le _ _
  obtain ⟨D', d1, d2, d3⟩ := sort22 hfu (l := D) (by omega)
  rw [sortD_uni d1 d2] at d3
  have e5 : ile 0 (R.length : Int) = true := ile_iff.2 (by omega)
  have e6 : ile (R.length : Int) (dlen (R ++ S)) = true := ile_iff.2 (by rw [dlen_def, List.length_append]; omega)
  have e7 : dcut (R ++ S) 0 (oadd 0 (osub (R.length : Int) 0)) = R := by
    unfold dcut oadd osub
    rw [show ((0 : Int) + ((R.length : Int) - 0)).toNat = R.length by omega]
    simp
  rw [show ((0 : Nat) : Int) = 0 from rfl] at hit
  simp only [List.length_nil, List.nil_append, show ((0 : Nat) : Int) = 0 from rfl] at hit
  unfold s11
  simp only [hc, hit, d3, e5, e6, e7, show ile 0 0 = true from rfl]
  rw [i1, i2]
  rfl
theorem soon22 (fu : Nat) (a b : Timer22) : s33 fu a.Owner a.Tag a.Due b.Owner b.Tag b.Due = some (ltD a b, ()) := by
  unfold s33 ltD
  rw [bef22]
  cases ilt a.Due b.Due <;> cases ieq a.Due b.Due <;> simp
theorem expR22 {fu : Nat} (hfu : 200000 < fu) {l : List Timer22} (hl : l.length < 400) (now : Int) : s16 fu l now = some (expF l now) := by
  obtain ⟨e, he, rfl⟩ := iter_meas (step := t16_0 fu)
    (fun s => ∃ (i : Nat) (D : List Timer22), i ≤ l.length ∧ Asc ltD D ∧ D.Perm ((l.take i).filter (duB now)) ∧ s = (l, (now, ((), ((), ((i : Int), (D, ((l.take i).filter (fun x => !duB now x), ()))))))))
    (fun s => ((l.length : Int) - s.2.2.2.2.1).toNat)
    (fun e => e = .inl ((), ((), (sortD (l.filter (duB now)), (l.filter (fun x => !duB now x), ())))))
    (by
      rintro s ⟨i, D, hi, hD, pD, rfl⟩
      have lD : D.length ≤ i := by rw [pD.length_eq]; exact fil_len _ _ _
      rcases Nat.lt_or_ge i l.length with hlt | hge
      · obtain ⟨x, hx⟩ : ∃ x, l[i]? = some x := ⟨_, List.getElem?_eq_getElem hlt⟩
        have e1 : iadd .i64 (i : Int) 1 = ((i + 1 : Nat) : Int) := iadd1 (by omega)
        cases hq : duB now x with
        | false =>
          have hq' : ilt now x.Due = true := ilt_iff.2 (ile_f.1 hq)
          have e2 : dapp 24 ((l.take i).filter (fun x => !duB now x)) [x] = some ((l.take (i + 1)).filter (fun x => !duB now x)) := by
            rw [take_fil _ hx]
            have := fil_len l (fun x => !duB now x) i
            simp only [hq, Bool.not_false, cond_true]
            exact dapp_ok (by simp; omega) (by simp; omega)
          refine .inl ⟨_, by simp only [t16_0, dlen_def, ilt_len hlt, dat_nat, hx, hq', eta22, e2, e1], ⟨i + 1, D, by omega, hD, ?_, rfl⟩, ?_⟩
          · rw [take_fil _ hx, hq]; simpa using pD
          · show ((l.length : Int) - ((i + 1 : Nat) : Int)).toNat < ((l.length : Int) - (i : Int)).toNat
            omega
        | true =>
          have hq' : ilt now x.Due = false := ilt_f.2 (ile_iff.1 hq)
          have hO := fil_len l (fun x => !duB now x) i
          obtain ⟨e', he', k, k1, k2, k3, rfl⟩ := iter_meas (step := t16_2 fu)
            (fun s => ∃ k : Nat, k ≤ D.length ∧ (∀ y ∈ D.drop k, ltD x y = true) ∧ s = (l, (now, ((), ((), ((i : Int), ((k : Int), (D, ((l.take i).filter (fun x => !duB now x), ())))))))))
            (fun s => s.2.2.2.2.2.1.toNat)
            (fun e => ∃ k : Nat, k ≤ D.length ∧ (∀ y ∈ D.drop k, ltD x y = true) ∧ (∀ y ∈ D.take k, ltD x y = false) ∧ e = .inl (l, (now, ((), ((), ((i : Int), ((k : Int), (D, ((l.take i).filter (fun x => !duB now x), ())))))))))
            (by
              rintro s ⟨k, k1, k2, rfl⟩
              cases k with
              | zero => exact .inr ⟨_, by simp only [t16_2, show ilt 0 ((0 : Nat) : Int) = false from rfl], 0, k1, k2, by simp, rfl⟩
              | succ k =>
                obtain ⟨y, hy⟩ : ∃ y, D[k]? = some y := ⟨_, List.getElem?_eq_getElem (by omega)⟩
                have a1 : ilt 0 ((k + 1 : Nat) : Int) = true := ilt_iff.2 (by omega)
                have a2 : isub .i64 ((k + 1 : Nat) : Int) 1 = (k : Int) := by rw [isub64 (by omega)]; omega
                cases hxy : ltD x y with
                | false =>
                  refine .inr ⟨_, by simp only [t16_2, a1, a2, dat_nat, hx, hy, soon22, hxy], k + 1, k1, k2, fun z hz => ?_, rfl⟩
                  obtain ⟨j, hj⟩ := List.getElem?_of_mem hz
                  have hj' := getElem?_lt hj
                  rw [List.length_take] at hj'
                  rw [List.getElem?_take_of_lt (by omega)] at hj
                  exact le_trans' ordD (hD.get_le ordD hj hy (by omega)) hxy
                | true =>
                  refine .inl ⟨_, by simp only [t16_2, a1, a2, dat_nat, hx, hy, soon22, hxy], ⟨k, by omega, fun z hz => ?_, rfl⟩, ?_⟩
                  · rw [List.drop_eq_getElem_cons (show k < D.length by omega)] at hz
                    rcases List.mem_cons.1 hz with rfl | hz
                    · rw [List.getElem?_eq_getElem (by omega)] at hy; cases hy; exact hxy
                    · exact k2 z hz
                  · show ((k : Nat) : Int).toNat < ((k + 1 : Nat) : Int).toNat
                    omega)
            fu (l, (now, ((), ((), ((i : Int), ((D.length : Int), (D, ((l.take i).filter (fun x => !duB now x), ())))))))) ⟨D.length, Nat.le_refl _, by simp, rfl⟩ (by show ((D.length : Int)).toNat < fu; omega)
          have b1 : ile 0 (k : Int) = true := ile_iff.2 (by omega)
          have b2 : ile (k : Int) (dlen D) = true := ile_iff.2 (by rw [dlen_def]; omega)
          have b3 : ile (dlen D) (dlen D) = true := ile_iff.2 (Int.le_refl _)
          have b4 : dcut D 0 (oadd 0 (osub (k : Int) 0)) = D.take k := by
            unfold dcut oadd osub
            rw [show ((0 : Int) + ((k : Int) - 0)).toNat = k by omega]
            simp
          have b5 : dcut D (k : Int) (oadd (k : Int) (osub (dlen D) (k : Int))) = D.drop k := by
            unfold dcut oadd osub
            rw [dlen_def, show ((k : Int) + ((D.length : Int) - (k : Int))).toNat = D.length by omega]
            simp
          have lt : (D.take k).length = k := by rw [List.length_take]; omega
          have ld : (D.drop k).length = D.length - k := List.length_drop
          have c1 : dapp 24 [] (D.take k) = some (D.take k) := dapp_nil (by omega) (by omega)
          have c2 : dapp 24 (D.take k) [x] = some (D.take k ++ [x]) := dapp_ok (by simp; omega) (by simp; omega)
          have c3 : dapp 24 (D.take k ++ [x]) (D.drop k) = some (D.take k ++ [x] ++ D.drop k) := dapp_ok (by simp; omega) (by simp; omega)
          rw [dlen_def] at b2 b3 b5
          refine .inl ⟨(l, (now, ((), ((), (((i + 1 : Nat) : Int), (D.take k ++ [x] ++ D.drop k, ((l.take i).filter (fun x => !duB now x), ()))))))), by simp only [t16_0, dlen_def, ilt_len hlt, dat_nat, hx, hq', he', b1, b2, b3, b4, b5, c1, c2, c3, eta22, e1, show ile 0 0 = true from rfl], ⟨i + 1, D.take k ++ [x] ++ D.drop k, by omega, ?_, ?_, ?_⟩, ?_⟩
          · have := asc_mid (P1 := D.take k) (P2 := D.drop k) (x := x) (by rw [List.take_append_drop]; exact hD) k3 (fun y hy => ordD.asym (k2 y hy))
            simpa using this
          · rw [take_fil _ hx, hq]
            simp only [cond_true]
            have : (D.take k ++ [x] ++ D.drop k).Perm (D ++ [x]) := by
              rw [show D.take k ++ [x] ++ D.drop k = D.take k ++ x :: D.drop k by simp]
              have := (List.perm_middle (a := x) (l₁ := D.take k) (l₂ := D.drop k)).trans (List.perm_append_singleton x (D.take k ++ D.drop k)).symm
              rwa [List.take_append_drop] at this
            exact this.trans (pD.append_right [x])
          · rw [take_fil _ hx, hq]; simp
          · show ((l.length : Int) - ((i + 1 : Nat) : Int)).toNat < ((l.length : Int) - (i : Int)).toNat
            omega
      · have : i = l.length := by omega
        subst this
        rw [List.take_length] at *
        refine .inr ⟨.inl ((), ((), (D, (l.filter (fun x => !duB now x), ())))), by simp only [t16_0, dlen_def, ilt_end], by rw [sortD_uni hD pD]⟩)
    fu (l, (now, ((), ((), (0, ([], ([], ()))))))) ⟨0, [], by omega, List.Pairwise.nil, by simp, by simp⟩ (by show ((l.length : Int) - 0).toNat < fu; omega)
  unfold s16
  rw [he]
  rfl
end Go.G
