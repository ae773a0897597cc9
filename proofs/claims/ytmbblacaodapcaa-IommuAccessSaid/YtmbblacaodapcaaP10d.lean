import Derived.Test.YtmbblacaodapcaaP10c
set_option linter.unusedVariables false
set_option linter.unusedSimpArgs false
namespace Go.G
set_option maxRecDepth 100000

def keyB (d t : Int) (x : Window10) : Bool := ieq x.Device d && ieq x.Tag t

theorem keyB_iff {d t : Int} {x : Window10} : keyB d t x = true ↔ x.Device = d ∧ x.Tag = t := by simp [keyB, ieq_iff]

theorem befW_key {x y w : Window10} (h : keyB w.Device w.Tag y = true) : befW x y = befW x w ∧ befW y x = befW w x := by
  obtain ⟨h1, h2⟩ := keyB_iff.1 h
  simp [befW, h1, h2]

/-- Where it would stand, there it stands. -/
theorem found_at {l : List Window10} (h : Val l) {w x : Window10} {j : Nat} (hx : l[j]? = some x) (hk : keyB w.Device w.Tag x = true) : j = pos l w := by
  have h1 : befW x w = false := by rw [← (befW_key hk).1]; exact befW_irr x
  rcases Nat.lt_trichotomy j (pos l w) with hj | hj | hj
  · rw [pos_lt hx hj] at h1; cases h1
  · exact hj
  · have hj' := getElem?_lt hx
    have hy : l[pos l w]? = some l[pos l w] := List.getElem?_eq_getElem (by omega)
    have h2 := (val_get h hy hx hj).1
    rw [(befW_key hk).1, pos_at hy] at h2
    cases h2

theorem any_key {l : List Window10} (h : Val l) (w : Window10) : l.any (keyB w.Device w.Tag) = match l[pos l w]? with
    | some x => keyB w.Device w.Tag x
    | none => false := by
  cases ha : l.any (keyB w.Device w.Tag) with
  | true =>
    obtain ⟨x, hx, hk⟩ := List.any_eq_true.1 ha
    obtain ⟨j, hj⟩ := List.getElem?_of_mem hx
    have := found_at h hj hk
    subst this
    rw [hj]
    exact hk.symm
  | false =>
    rw [List.any_eq_false] at ha
    cases hx : l[pos l w]? with
    | none => rfl
    | some x => simpa using (ha x (List.mem_of_getElem? hx))

def openF (l : List Window10) (w : Window10) : List Window10 × Int × Unit :=
  bif !validB l then ([], 1, ()) else bif !prpW w then ([], 2, ()) else bif l.any (keyB w.Device w.Tag) then ([], 9, ()) else bif l.any (cfl w) then ([], 12, ()) else (l.take (pos l w) ++ w :: l.drop (pos l w), 0, ())

theorem dins_ok {α : Type} {bytes : Nat} {l : List α} {i : Nat} {x : α} (h : i ≤ l.length) (h1 : (l.length + 1) * bytes ≤ 140737488355328) (h2 : l.length + 1 ≤ 9223372036854775807) : dins bytes l (i : Int) x = some (l.take i ++ x :: l.drop i) := by
  unfold dins
  rw [if_pos ⟨by omega, by omega, h1, h2⟩]
  simp

theorem open10 (fu : Nat) (hf0 : 1000 < fu) (l : List Window10) (w : Window10) (hf : l.length < fu) (hl : l.length < 1000000000) : s10 fu l w.Device w.Tag w.Frame w.Write = some (openF l w) := by
  unfold s10 openF
  rw [valid10 fu hf0 l hf (by omega)]
  cases hv : validB l with
  | false => rfl
  | true =>
    have hV := (valid_iff l).1 hv
    simp only [Bool.not_true, cond_false, proper10]
    have hpw : properB w.Device w.Tag w.Frame = prpW w := rfl
    rw [hpw]
    cases hp : prpW w with
    | false => rfl
    | true =>
      simp only [Bool.not_true, cond_false]
      rw [search10 fu hf0 l w hV hf (by omega)]
      simp only [dlen_def l]
      have hci := conf_iter fu l w hf (by omega)
      have e1 : t10_7 fu = t15_4 fu := rfl
      have e2 : t10_21 fu = t15_4 fu := rfl
      rw [e1, e2]
      rw [dlen_def l] at hci
      have hda : dapp 32 [] l = some l := by
        have := dapp_ok (bytes := 32) (l := ([] : List Window10)) (ys := l) (by simp; omega) (by simp; omega)
        simpa using this
      have hdi : dins 32 l ((pos l w : Nat) : Int) w = some (l.take (pos l w) ++ w :: l.drop (pos l w)) := dins_ok (pos_le l w) (by omega) (by omega)
      have hw : (⟨w.Device, w.Tag, w.Frame, w.Write⟩ : Window10) = w := rfl
      have hle := pos_le l w
      have hak := any_key hV w
      by_cases hlt : pos l w < l.length
      · have hx : l[pos l w]? = some l[pos l w] := List.getElem?_eq_getElem hlt
        rw [hx] at hak
        simp only [ilt_len hlt, dat_nat, hx, ord10 fu hf0, ord_eq]
        have hk : (ieq l[pos l w].Device w.Device && ieq l[pos l w].Tag w.Tag) = keyB w.Device w.Tag l[pos l w] := rfl
        rw [hk, hak]
        simp only
        cases hkk : keyB w.Device w.Tag l[pos l w] with
        | true => rfl
        | false =>
          simp only [cond_false]
          rcases hci with ⟨q1, q2⟩ | ⟨k, q1, q2⟩
          · rw [q1, q2]
            simp only [show ile 0 (-1) = false from rfl, hda, hdi, cond_false]
          · rw [q1, q2]
            simp only [show ile 0 (k : Int) = true from ile_iff.2 (by omega), cond_true]
      · have hx : l[pos l w]? = none := List.getElem?_eq_none (by omega)
        rw [hx] at hak
        simp only [show ilt ((pos l w : Nat) : Int) (l.length : Int) = false from ilt_f.2 (by omega), hak, cond_false]
        rcases hci with ⟨q1, q2⟩ | ⟨k, q1, q2⟩
        · rw [q1, q2]
          simp only [show ile 0 (-1) = false from rfl, hda, hdi, cond_false]
        · rw [q1, q2]
          simp only [show ile 0 (k : Int) = true from ile_iff.2 (by omega), cond_true]

def winT (x : Window10) : Int × Int × Int × Bool × Unit := (x.Device, (x.Tag, (x.Frame, (x.Write, ()))))
def findF (l : List Window10) (d t : Int) : (Int × Int × Int × Bool × Unit) × Bool × Unit := match l.find? (keyB d t) with
  | some x => (winT x, (true, ()))
  | none => ((0, (0, (0, (false, ())))), (false, ()))

theorem findR (fu : Nat) (l : List Window10) (d t : Int) (hf : l.length < fu) (hl : l.length < 1000000000000) : s24 fu l d t = some (findF l d t) := by
  unfold s24 findF
  have := iter_find (step := t24_0 fu) (fu := fu) l (fun j => (l, (d, (t, ((), ((j : Int), ((0, (0, (0, (false, ())))), ()))))))) (keyB d t) (fun x => .inr (.inl (true, ((), (winT x, ()))))) (.inl ((), ((0, (0, (0, (false, ())))), ()))) hf
      (fun i x hi hq => by
        have h1 := getElem?_lt hi
        simp only [t24_0, dlen_def, dat_nat, hi, ilt_len h1, iadd1 (show i < 9223372036854775807 by omega)]
        simp only [keyB] at hq
        cases h1 : ieq x.Device d <;> cases h2 : ieq x.Tag t <;> simp_all)
      (fun i x hi hq => by
        have h1 := getElem?_lt hi
        simp only [t24_0, dlen_def, dat_nat, hi, ilt_len h1]
        simp only [keyB, Bool.and_eq_true] at hq
        simp only [hq, winT])
      (by simp only [t24_0, dlen_def, ilt_end])
  rw [show ((0 : Nat) : Int) = 0 from rfl] at this
  rw [this]
  cases l.find? (keyB d t) <;> rfl

theorem find10 (fu : Nat) (l : List Window10) (d t : Int) (hf : l.length < fu) (hl : l.length < 1000000000000) : s23 fu l d t = some (findF l d t) := by
  unfold s23 findF
  rcases iter_first (step := t23_0 fu) (fu := fu) l (fun j => (l, ((), (dlen l, ((j : Int), ((t, ()), ((d, ()), ()))))))) (keyB d t) (fun j _ => .inr (.inl ((j : Int), ((t, ()), ((d, ()), ()))))) (.inl ((t, ()), ((d, ()), ()))) hf
      (fun i x hi hq => by
        have h1 := getElem?_lt hi
        simp only [t23_0, dlen_def, dat_nat, hi, ilt_len h1, iadd1 (show i < 9223372036854775807 by omega)]
        simp only [keyB] at hq
        cases h1 : ieq x.Device d <;> cases h2 : ieq x.Tag t <;> simp_all)
      (fun i x hi hq => by
        have h1 := getElem?_lt hi
        simp only [t23_0, dlen_def, dat_nat, hi, ilt_len h1]
        simp only [keyB, Bool.and_eq_true] at hq
        simp only [hq])
      (by simp only [t23_0, dlen_def, ilt_end]) with ⟨i, x, h1, h2, h3, h4⟩ | ⟨h1, h2⟩
  · simp only [Int.natCast_zero] at h4
    rw [h4, find_of_first h1 h2 h3]
    simp only [show ilt (i : Int) 0 = false from ilt_f.2 (by omega), dat_nat, h1, winT]
  · rw [show ((0 : Nat) : Int) = 0 from rfl] at h2
    have : l.find? (keyB d t) = none := List.find?_eq_none.2 (by simpa using h1)
    rw [h2, this]
    rfl
theorem find_ok (l : List Window10) (d t : Int) : (findF l d t).2.1 = l.any (keyB d t) := by
  unfold findF
  cases hf : l.find? (keyB d t) with
  | some x => 
    have := List.find?_some hf
    have hm := List.mem_of_find?_eq_some hf
    exact (List.any_eq_true.2 ⟨x, hm, this⟩).symm
  | none =>
    rw [List.find?_eq_none] at hf
    exact (List.any_eq_false.2 (by simpa using hf)).symm
end Go.G
