import Derived.Test.YtbldiioafmcbmaaP14aw
set_option linter.unusedVariables false
set_option linter.unusedSimpArgs false
namespace Go.G
set_option maxRecDepth 100000
/-- Taking one element out: what slices.Delete comes to. -/
theorem del_cut {α : Type} {l : List α} {p : Nat} (h : p < l.length) : dcut l ((p + 1 : Nat) : Int) (oadd ((p + 1 : Nat) : Int) (osub (dlen l) ((p + 1 : Nat) : Int))) = l.drop (p + 1) := by
  unfold dcut oadd osub
  rw [dlen_def, show (((p + 1 : Nat) : Int) + ((l.length : Int) - ((p + 1 : Nat) : Int))).toNat = l.length by omega, List.take_length]
  simp
theorem del_len {α : Type} {l : List α} {p : Nat} (h : p < l.length) : oadd (osub (p : Int) 0) (dlen (l.drop (p + 1))) = ((l.length - 1 : Nat) : Int) := by
  unfold oadd osub
  rw [dlen_def, List.length_drop]
  omega
theorem del_put {α : Type} {l : List α} {p : Nat} (h : p < l.length) : dput l (oadd 0 (osub (p : Int) 0)) (l.drop (p + 1)) = some (l.take p ++ l.drop (p + 1) ++ l.drop (l.length - 1)) := by
  unfold dput oadd osub
  have e : (0 + ((p : Int) - 0)).toNat = p := by omega
  rw [if_pos ⟨by omega, by rw [List.length_drop]; omega⟩, e, List.length_drop, show p + (l.length - (p + 1)) = l.length - 1 by omega]
theorem del_put2 {α : Type} {m x : List α} {z : α} {n : Nat} (hm : m.length = n) (hx : x.length = 1) : dput (m ++ x) (oadd 0 (n : Int)) (drep (osub ((n + 1 : Nat) : Int) (n : Int)) z) = some (m ++ [z]) := by
  unfold dput drep oadd osub
  have e : (((n + 1 : Nat) : Int) - (n : Int)).toNat = 1 := by omega
  have e2 : (0 + (n : Int)).toNat = n := by omega
  rw [if_pos ⟨by omega, by simp; omega⟩, e, e2]
  obtain ⟨a, rfl⟩ := List.length_eq_one_iff.1 hx
  subst hm
  simp [List.drop_append]
theorem del_cut2 {α : Type} {m x : List α} {n : Nat} (hm : m.length = n) : dcut (m ++ x) 0 (oadd 0 (n : Int)) = m := by
  unfold dcut oadd
  have e2 : (0 + (n : Int)).toNat = n := by omega
  rw [e2]
  subst hm
  simp


def cancelF (n : Int) (l : List Alarm14) (id : Int) : (Int × List Alarm14 × Unit) × Int × Unit :=
  bif !validB n l then (stT 0 [], 1, ()) else bif !l.any (keyB id) then (stT 0 [], 8, ()) else (stT n (noK id l), 0, ())

theorem cancel14 (fu : Nat) (n : Int) (l : List Alarm14) (id : Int) (hf : l.length < fu) (hl : l.length < 1000000000) : s24 fu n l id = some (cancelF n l id) := by
  unfold s24 cancelF
  rw [valid14 fu n l hf (by omega)]
  cases hv : validB n l with
  | false => rfl
  | true =>
    obtain ⟨hV, _, _, hlen⟩ := (valid_iff n l).1 hv
    simp only [Bool.not_true, cond_false]
    rw [find14 fu n n l id hV hf (by omega)]
    have hda : dapp 16 [] l = some l := by
      have := dapp_ok (bytes := 16) (l := ([] : List Alarm14)) (ys := l) (by simp; omega) (by simp; omega)
      simpa using this
    cases hk : l.any (keyB id) with
    | false => rfl
    | true =>
      have hak := any_key hV id
      rw [hk] at hak
      cases hx : l[pos l id]? with
      | none => rw [hx] at hak; cases hak
      | some x =>
        rw [hx] at hak
        have hlt := getElem?_lt hx
        rw [noK_out hV hx hak.symm]
        generalize hp : pos l id = p at *
        have hml : (l.take p ++ l.drop (p + 1)).length = l.length - 1 := by simp; omega
        have hdl : (l.drop (l.length - 1)).length = 1 := by simp; omega
        have c1 : ile 0 ((p : Nat) : Int) = true := ile_iff.2 (by omega)
        have c2 : ile ((p : Nat) : Int) ((p + 1 : Nat) : Int) = true := ile_iff.2 (by omega)
        have c3 : ile ((p + 1 : Nat) : Int) (l.length : Int) = true := ile_iff.2 (by omega)
        have c4 : ile (l.length : Int) (l.length : Int) = true := ile_iff.2 (by omega)
        have c5 : ieq ((p : Nat) : Int) ((p + 1 : Nat) : Int) = false := ieq_f.2 (by omega)
        have c6 : ile 0 0 = true := rfl
        have c7 : ile ((p : Nat) : Int) (l.length : Int) = true := ile_iff.2 (by omega)
        have c8 : ile 0 ((p + 1 : Nat) : Int) = true := ile_iff.2 (by omega)
        have c9 : ile 0 (osub ((p : Nat) : Int) 0) = true := ile_iff.2 (by unfold osub; omega)
        have c10 : ile 0 ((l.length - 1 : Nat) : Int) = true := ile_iff.2 (by omega)
        have c11 : ile ((l.length - 1 : Nat) : Int) (l.length : Int) = true := ile_iff.2 (by omega)
        have c12 : ile (l.length : Int) ((l.length - 1 : Nat) : Int) = false := ile_f.2 (by omega)
        have c13 : ile (oadd 0 (l.length : Int)) (dlen (l.take p ++ l.drop (p + 1) ++ l.drop (l.length - 1))) = true := ile_iff.2 (by rw [dlen_def, List.length_append, hml, hdl]; unfold oadd; omega)
        have c14 : ile 0 (oadd 0 ((l.length - 1 : Nat) : Int)) = true := ile_iff.2 (by unfold oadd; omega)
        have c15 : ile 0 (osub (l.length : Int) ((l.length - 1 : Nat) : Int)) = true := ile_iff.2 (by unfold osub; omega)
        have k1 := del_cut hlt
        have k2 := del_len hlt
        rw [dlen_def] at k1
        have k4 : dput (l.take p ++ l.drop (p + 1) ++ l.drop (l.length - 1)) (oadd 0 ((l.length - 1 : Nat) : Int)) (drep (osub (l.length : Int) ((l.length - 1 : Nat) : Int)) (⟨0, 0⟩ : Alarm14)) = some (l.take p ++ l.drop (p + 1) ++ [⟨0, 0⟩]) := by
          have := del_put2 (z := (⟨0, 0⟩ : Alarm14)) hml hdl
          rwa [show l.length - 1 + 1 = l.length by omega] at this
        have k5 : dcut (l.take p ++ l.drop (p + 1) ++ [(⟨0, 0⟩ : Alarm14)]) 0 (oadd 0 ((l.length - 1 : Nat) : Int)) = l.take p ++ l.drop (p + 1) := del_cut2 hml
        simp only [hda, iadd1 (show p < 9223372036854775807 by omega), dlen_def l, k1, k2, del_put hlt, c1, c2, c3, c4, c5, c6, c7, c8, c9, c10, c11, c12, c13, c14, c15, k4, k5, Bool.not_true, cond_false, stT]

theorem noK_same {l : List Alarm14} {id : Int} : (noK id l).length = l.length ↔ l.any (keyB id) = false := by
  unfold noK
  rw [List.length_filter_eq_length_iff, List.any_eq_false]
  simp

theorem cancelR (fu : Nat) (n : Int) (l : List Alarm14) (id : Int) (hf : l.length < fu) (hl : l.length < 1000000000) : s26 fu n l id = some (cancelF n l id) := by
  unfold s26 cancelF
  rw [validR fu n l hf (by omega)]
  cases hv : validB n l with
  | false => rfl
  | true =>
    simp only [Bool.not_true, cond_false]
    rw [without14 fu l id hf (by omega)]
    simp only [dlen_def]
    cases hk : l.any (keyB id) with
    | false =>
      rw [noK_none hk, ieq_iff.2 rfl]
      rfl
    | true =>
      have : (noK id l).length ≠ l.length := fun h => by rw [noK_same.1 h] at hk; cases hk
      rw [ieq_f.2 (by omega)]
      rfl

theorem cancelF_len (n : Int) (l : List Alarm14) (id : Int) : (cancelF n l id).1.2.1.length ≤ l.length := by
  unfold cancelF
  have := noK_len l id
  cases validB n l <;> cases l.any (keyB id) <;> simp [stT]
  exact this
theorem cancelF_valid (n : Int) (l : List Alarm14) (id : Int) : validB (cancelF n l id).1.1 (cancelF n l id).1.2.1 = true := by
  have h0 : validB 0 [] = true := by rw [valid_iff]; exact ⟨⟨by simp, by simp⟩, by omega, by omega, by simp⟩
  unfold cancelF
  cases hv : validB n l with
  | false => exact h0
  | true =>
    cases hk : l.any (keyB id) with
    | false => exact h0
    | true =>
      obtain ⟨hV, e1, e2, e3⟩ := (valid_iff n l).1 hv
      show validB n (noK id l) = true
      rw [valid_iff]
      exact ⟨val_noK hV id, e1, e2, by have := noK_len l id; omega⟩

/-! ### Next -/
def nextF : List Alarm14 → Int × Bool × Unit
  | [] => (0, (false, ()))
  | x :: r => (r.foldl (fun m y => bif ilt y.At m then y.At else m) x.At, (true, ()))

theorem fold_at (r : List Alarm14) : ∀ x : Alarm14, (r.foldl (fun m y => bif ilt y.At m.At then y else m) x).At = r.foldl (fun m y => bif ilt y.At m then y.At else m) x.At := by
  induction r with
  | nil => intro _; rfl
  | cons y r ih =>
    intro x
    simp only [List.foldl_cons]
    rw [ih]
    cases ilt y.At x.At <;> rfl

theorem next14 (fu : Nat) (n : Int) (l : List Alarm14) (hf : l.length < fu) (hl : l.length < 1000000000) : s23 fu n l = some (nextF l) := by
  unfold s23
  cases l with
  | nil => rfl
  | cons x r =>
    have h1 : ieq (dlen (x :: r)) 0 = false := ieq_f.2 (by rw [dlen_def, List.length_cons]; omega)
    have h2 : ilt (dlen (x :: r)) 1 = false := ilt_f.2 (by rw [dlen_def, List.length_cons]; omega)
    have h3 : dat (x :: r) 0 = some x := rfl
    simp only [h1, h2, h3]
    rw [List.length_cons] at hf hl
    have := iter_fold (step := t23_1 fu) (fu := fu) r (fun j m => (x :: r, ((), ((), ((), (((j + 1 : Nat) : Int), ((m.ID, (m.At, ())), ((0, (0, ())), ()))))))))
      (fun y m => bif ilt y.At m.At then y else m) (fun _ _ => True) (fun m => .inl ((), ((), ((m.ID, (m.At, ())), ((0, (0, ())), ()))))) x (by omega) trivial
      (fun i y m hi _ => by
        have h1 := getElem?_lt hi
        have hy : (x :: r)[i + 1]? = some y := by simpa using hi
        simp only [t23_1, dlen_def, List.length_cons, ilt_len (show i + 1 < r.length + 1 by omega), dat_nat, hy, s36, cmp14, cmp_lt, iadd1 (show i + 1 < 9223372036854775807 by omega)]
        cases ilt y.At m.At <;> exact ⟨rfl, trivial⟩)
      (fun m _ => by simp only [t23_1, dlen_def, List.length_cons, ilt_end])
    rw [show ((0 + 1 : Nat) : Int) = 1 from rfl] at this
    rw [this]
    simp only [nextF, fold_at]

theorem nextR (fu : Nat) (n : Int) (l : List Alarm14) (hf : l.length < fu) (hl : l.length < 1000000000) : s27 fu n l = some (nextF l) := by
  unfold s27
  have := iter_fold (step := t27_0 fu) (fu := fu) l (fun j (s : Int × Bool) => ((), (s.1, (s.2, ((j : Int), ((n, (l, ())), ()))))))
    (fun y s => bif s.2 then (bif ilt y.At s.1 then (y.At, true) else s) else (y.At, true)) (fun _ _ => True) (fun s => .inl (s.1, (s.2, ((n, (l, ())), ())))) (0, false) hf trivial
    (fun i y s hi _ => by
      have h1 := getElem?_lt hi
      obtain ⟨a, b⟩ := s
      simp only [t27_0, dlen_def, ilt_len h1, dat_nat, hi, iadd1 (show i < 9223372036854775807 by omega)]
      cases b with
      | false => exact ⟨rfl, trivial⟩
      | true => cases ilt y.At a <;> exact ⟨rfl, trivial⟩)
    (fun s _ => by simp only [t27_0, dlen_def, ilt_end])
  rw [show ((0 : Nat) : Int) = 0 from rfl] at this
  rw [this]
  have key : ∀ (r : List Alarm14) (a : Int), r.foldl (fun (s : Int × Bool) y => bif s.2 then (bif ilt y.At s.1 then (y.At, true) else s) else (y.At, true)) (a, true) = (r.foldl (fun m y => bif ilt y.At m then y.At else m) a, true) := by
    intro r
    induction r with
    | nil => intro _; rfl
    | cons y r ih =>
      intro a
      simp only [List.foldl_cons, cond_true]
      cases ilt y.At a <;> exact ih _
  cases l with
  | nil => rfl
  | cons x r => simp only [List.foldl_cons, cond_false, key, nextF]
end Go.G
