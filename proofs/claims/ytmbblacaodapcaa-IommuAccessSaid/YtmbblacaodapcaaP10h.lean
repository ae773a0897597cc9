import Derived.Test.YtmbblacaodapcaaP10g
set_option linter.unusedVariables false
set_option linter.unusedSimpArgs false
namespace Go.G
set_option maxRecDepth 100000
def wk (d t : Int) : Window10 := ⟨d, t, 0, false⟩
def closeF (l : List Window10) (d t : Int) : List Window10 × Int × Unit :=
  bif !validB l then ([], 1, ()) else bif !l.any (keyB d t) then ([], 8, ()) else (l.filter (fun x => !keyB d t x), 0, ())

/-- Taking one element out: what slices.Delete comes to. -/
theorem del_cut {α : Type} {l : List α} {p : Nat} (h : p < l.length) : dcut l ((p + 1 : Nat) : Int) (oadd ((p + 1 : Nat) : Int) (osub (dlen l) ((p + 1 : Nat) : Int))) = l.drop (p + 1) := by
  unfold dcut oadd osub
  rw [dlen_def, show (((p + 1 : Nat) : Int) + ((l.length : Int) - ((p + 1 : Nat) : Int))).toNat = l.length by omega, List.take_length]
  simp
theorem del_len {α : Type} {l : List α} {p : Nat} (h : p < l.length) : oadd (osub (p : Int) 0) (dlen (l.drop (p + 1))) = ((l.length - 1 : Nat) : Int) := by
  unfold oadd osub
  rw [dlen_def, List.length_drop]
  omega
theorem del_put {α : Type} {l : List α} {p : Nat} (h : p < l.length) : dput l (oadd 0 (osub (p : Int) 0)) (l.drop (p + 1)) = some (l.take p ++ l.drop (p + 1) ++ l.drop (l.length - 1)) := by
  unfold dput oadd osub
  have e : (0 + ((p : Int) - 0)).toNat = p := by omega
  rw [if_pos ⟨by omega, by rw [List.length_drop]; omega⟩, e, List.length_drop, show p + (l.length - (p + 1)) = l.length - 1 by omega]
theorem del_put2 {α : Type} {m x : List α} {z : α} {n : Nat} (hm : m.length = n) (hx : x.length = 1) : dput (m ++ x) (oadd 0 (n : Int)) (drep (osub ((n + 1 : Nat) : Int) (n : Int)) z) = some (m ++ [z]) := by
  unfold dput drep oadd osub
  have e : (((n + 1 : Nat) : Int) - (n : Int)).toNat = 1 := by omega
  have e2 : (0 + (n : Int)).toNat = n := by omega
  rw [if_pos ⟨by omega, by simp; omega⟩, e, e2]
  obtain ⟨a, rfl⟩ := List.length_eq_one_iff.1 hx
  subst hm
  simp [List.drop_append]
theorem del_cut2 {α : Type} {m x : List α} {n : Nat} (hm : m.length = n) : dcut (m ++ x) 0 (oadd 0 (n : Int)) = m := by
  unfold dcut oadd
  have e2 : (0 + (n : Int)).toNat = n := by omega
  rw [e2]
  subst hm
  simp

theorem filter_out {l : List Window10} (h : Val l) {w x : Window10} (hx : l[pos l w]? = some x) (hk : keyB w.Device w.Tag x = true) : l.filter (fun x => !keyB w.Device w.Tag x) = l.take (pos l w) ++ l.drop (pos l w + 1) := by
  have hlt := getElem?_lt hx
  have e : l = l.take (pos l w) ++ x :: l.drop (pos l w + 1) := by
    have h1 := List.getElem?_eq_getElem hlt
    rw [hx] at h1
    have h2 := List.drop_eq_getElem_cons hlt
    cases h1
    rw [← h2, List.take_append_drop]
  have hno : ∀ j y, l[j]? = some y → j ≠ pos l w → keyB w.Device w.Tag y = false := fun j y hy hj => by
    cases hh : keyB w.Device w.Tag y with
    | false => rfl
    | true => exact absurd (found_at h hy hh) hj
  conv => lhs; rw [e]
  rw [List.filter_append, List.filter_cons]
  simp only [hk, Bool.not_true, Bool.false_eq_true, if_false]
  rw [List.filter_eq_self.2, List.filter_eq_self.2]
  · intro y hy
    obtain ⟨j, hj⟩ := List.getElem?_of_mem hy
    rw [List.getElem?_drop] at hj
    rw [hno _ _ hj (by omega)]
    rfl
  · intro y hy
    obtain ⟨j, hj⟩ := List.getElem?_of_mem hy
    have h1 := getElem?_lt hj
    rw [List.length_take] at h1
    rw [List.getElem?_take_of_lt (by omega)] at hj
    rw [hno _ _ hj (by omega)]
    rfl

theorem close10 (fu : Nat) (hf0 : 1000 < fu) (l : List Window10) (d t : Int) (hf : l.length < fu) (hl : l.length < 1000000000) : s21 fu l d t = some (closeF l d t) := by
  unfold s21 closeF
  rw [valid10 fu hf0 l hf (by omega)]
  cases hv : validB l with
  | false => rfl
  | true =>
    have hV := (valid_iff l).1 hv
    simp only [Bool.not_true, cond_false]
    have e1 : t21_1 fu = t10_2 fu := rfl
    have hs := search10 fu hf0 l (wk d t) hV hf (by omega)
    simp only [wk] at hs
    rw [e1, hs]
    have hle := pos_le l (wk d t)
    have hak := any_key hV (wk d t)
    have hda : dapp 32 [] l = some l := by
      have := dapp_ok (bytes := 32) (l := ([] : List Window10)) (ys := l) (by simp; omega) (by simp; omega)
      simpa using this
    change l.any (keyB d t) = _ at hak
    by_cases hlt : pos l (wk d t) < l.length
    · have hx : l[pos l (wk d t)]? = some l[pos l (wk d t)] := List.getElem?_eq_getElem hlt
      rw [hx] at hak
      simp only at hak
      have hfo := filter_out hV (w := wk d t) hx
      generalize hp : pos l (wk d t) = p at *
      change l.any (keyB d t) = keyB d t l[p] at hak
      change keyB d t l[p] = true → l.filter (fun x => !keyB d t x) = l.take p ++ l.drop (p + 1) at hfo
      have hp' : pos l ⟨d, t, 0, false⟩ = p := hp
      simp only [hp', dlen_def l, ilt_len hlt, dat_nat, hx, ord10 fu hf0, ord_eq]
      have hk : (ieq l[p].Device d && ieq l[p].Tag t) = keyB d t l[p] := rfl
      rw [hk, hak]
      cases hkk : keyB d t l[p] with
      | false => rfl
      | true =>
        rw [hfo hkk]
        have hml : (l.take p ++ l.drop (p + 1)).length = l.length - 1 := by simp; omega
        have hdl : (l.drop (l.length - 1)).length = 1 := by simp; omega
        have c1 : ile 0 ((p : Nat) : Int) = true := ile_iff.2 (by omega)
        have c2 : ile ((p : Nat) : Int) ((p + 1 : Nat) : Int) = true := ile_iff.2 (by omega)
        have c3 : ile ((p + 1 : Nat) : Int) (l.length : Int) = true := ile_iff.2 (by omega)
        have c4 : ile (l.length : Int) (l.length : Int) = true := ile_iff.2 (by omega)
        have c5 : ieq ((p : Nat) : Int) ((p + 1 : Nat) : Int) = false := ieq_f.2 (by omega)
        have c6 : ile 0 0 = true := rfl
        have c7 : ile ((p : Nat) : Int) (l.length : Int) = true := ile_iff.2 (by omega)
        have c8 : ile 0 ((p + 1 : Nat) : Int) = true := ile_iff.2 (by omega)
        have c9 : ile 0 (osub ((p : Nat) : Int) 0) = true := ile_iff.2 (by unfold osub; omega)
        have c10 : ile 0 ((l.length - 1 : Nat) : Int) = true := ile_iff.2 (by omega)
        have c11 : ile ((l.length - 1 : Nat) : Int) (l.length : Int) = true := ile_iff.2 (by omega)
        have c12 : ile (l.length : Int) ((l.length - 1 : Nat) : Int) = false := ile_f.2 (by omega)
        have c13 : ile (oadd 0 (l.length : Int)) (dlen (l.take p ++ l.drop (p + 1) ++ l.drop (l.length - 1))) = true := ile_iff.2 (by rw [dlen_def, List.length_append, hml, hdl]; unfold oadd; omega)
        have c14 : ile 0 (oadd 0 ((l.length - 1 : Nat) : Int)) = true := ile_iff.2 (by unfold oadd; omega)
        have c15 : ile 0 (osub (l.length : Int) ((l.length - 1 : Nat) : Int)) = true := ile_iff.2 (by unfold osub; omega)
        have k1 := del_cut hlt
        have k2 := del_len hlt
        rw [dlen_def] at k1
        have k4 : dput (l.take p ++ l.drop (p + 1) ++ l.drop (l.length - 1)) (oadd 0 ((l.length - 1 : Nat) : Int)) (drep (osub (l.length : Int) ((l.length - 1 : Nat) : Int)) (⟨0, 0, 0, false⟩ : Window10)) = some (l.take p ++ l.drop (p + 1) ++ [⟨0, 0, 0, false⟩]) := by
          have := del_put2 (z := (⟨0, 0, 0, false⟩ : Window10)) hml hdl
          rwa [show l.length - 1 + 1 = l.length by omega] at this
        have k5 : dcut (l.take p ++ l.drop (p + 1) ++ [(⟨0, 0, 0, false⟩ : Window10)]) 0 (oadd 0 ((l.length - 1 : Nat) : Int)) = l.take p ++ l.drop (p + 1) := del_cut2 hml
        simp only [hda, iadd1 (show p < 9223372036854775807 by omega), dlen_def l, k1, k2, del_put hlt, c1, c2, c3, c4, c5, c6, c7, c8, c9, c10, c11, c12, c13, c14, c15, k4, k5, Bool.not_true, cond_false]
    · have hx : l[pos l (wk d t)]? = none := List.getElem?_eq_none (by omega)
      rw [hx] at hak
      simp only at hak
      have hp' : ilt ((pos l ⟨d, t, 0, false⟩ : Nat) : Int) (dlen l) = false := ilt_f.2 (by rw [dlen_def]; have : pos l ⟨d, t, 0, false⟩ = pos l (wk d t) := rfl; omega)
      simp only [hp', hak]
      rfl

theorem closeR (fu : Nat) (l : List Window10) (d t : Int) (hf : l.length < fu) (hl : l.length < 1000000000) : s22 fu l d t = some (closeF l d t) := by
  unfold s22 closeF
  rw [validR fu l hf (by omega)]
  cases hv : validB l with
  | false => rfl
  | true =>
    simp only [Bool.not_true, cond_false]
    rw [findR fu l _ _ hf (by omega)]
    simp only [find_ok]
    cases hk : l.any (keyB d t) with
    | false => rfl
    | true =>
      simp only [Bool.not_true, cond_false]
      have := iter_fold (step := t22_2 fu) (fu := fu) l (fun j acc => (l, (d, (t, ((), ((j : Int), (acc, ())))))))
        (fun x acc => if !keyB d t x then acc ++ [x] else acc) (fun i acc => acc.length ≤ i) (fun acc => .inl ((), (acc, ()))) [] hf (Nat.le_refl _)
        (fun i x acc hi hI => by
          have h1 := getElem?_lt hi
          have hda : dapp 32 acc [(⟨x.Device, x.Tag, x.Frame, x.Write⟩ : Window10)] = some (acc ++ [x]) := dapp_ok (by simp; omega) (by simp; omega)
          simp only [t22_2, dlen_def, dat_nat, hi, ilt_len h1, iadd1 (show i < 9223372036854775807 by omega), hda]
          cases h1 : ieq x.Device d <;> cases h2 : ieq x.Tag t <;> simp [keyB, h1, h2] <;> omega)
        (fun acc hI => by simp only [t22_2, dlen_def, ilt_end])
      rw [show ((0 : Nat) : Int) = 0 from rfl] at this
      rw [this]
      have hff := foldl_filter_snoc (fun x => !keyB d t x) l []
      simp only [hff, List.nil_append]
theorem closeF_len (l : List Window10) (d t : Int) : (closeF l d t).1.length ≤ l.length := by
  unfold closeF
  have := List.length_filter_le (fun x => !keyB d t x) l
  cases validB l <;> cases l.any (keyB d t) <;> simp
  simpa using this
end Go.G
