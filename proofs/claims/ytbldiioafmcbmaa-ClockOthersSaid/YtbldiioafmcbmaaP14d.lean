import Derived.Test.YtbldiioafmcbmaaP14c
set_option linter.unusedVariables false
set_option linter.unusedSimpArgs false
namespace Go.G
set_option maxRecDepth 100000
def noK (id : Int) (l : List Alarm14) : List Alarm14 := l.filter (fun x => !keyB id x)

theorem without14 (fu : Nat) (l : List Alarm14) (id : Int) (hf : l.length < fu) (hl : l.length < 1000000000) : s33 fu l id = some (noK id l, ()) := by
  unfold s33 noK
  have := iter_fold (step := t33_0 fu) (fu := fu) l (fun j acc => (l, (id, ((), ((j : Int), (acc, ()))))))
    (fun x acc => if !keyB id x then acc ++ [x] else acc) (fun i acc => acc.length ≤ i) (fun acc => .inl ((), (acc, ()))) [] hf (Nat.le_refl _)
    (fun i x acc hi hI => by
      have h1 := getElem?_lt hi
      have hda : dapp 16 acc [(⟨x.ID, x.At⟩ : Alarm14)] = some (acc ++ [x]) := dapp_ok (by simp; omega) (by simp; omega)
      simp only [t33_0, dlen_def, dat_nat, hi, ilt_len h1, iadd1 (show i < 9223372036854775807 by omega), hda]
      cases h1 : ieq x.ID id <;> simp [keyB, h1] <;> omega)
    (fun acc hI => by simp only [t33_0, dlen_def, ilt_end])
  rw [show ((0 : Nat) : Int) = 0 from rfl] at this
  rw [this]
  have hff := foldl_filter_snoc (fun x => !keyB id x) l []
  simp only [hff, List.nil_append]

theorem noK_out {n : Int} {l : List Alarm14} (h : Val n l) {id : Int} {x : Alarm14} (hx : l[pos l id]? = some x) (hk : keyB id x = true) : noK id l = l.take (pos l id) ++ l.drop (pos l id + 1) := by
  have hlt := getElem?_lt hx
  have e : l = l.take (pos l id) ++ x :: l.drop (pos l id + 1) := by
    have h1 := List.getElem?_eq_getElem hlt
    rw [hx] at h1
    have h2 := List.drop_eq_getElem_cons hlt
    cases h1
    rw [← h2, List.take_append_drop]
  have hno : ∀ j y, l[j]? = some y → j ≠ pos l id → keyB id y = false := fun j y hy hj => by
    cases hh : keyB id y with
    | false => rfl
    | true => exact absurd (found_at h hy hh) hj
  unfold noK
  conv => lhs; rw [e]
  rw [List.filter_append, List.filter_cons]
  simp only [hk, Bool.not_true, Bool.false_eq_true, if_false]
  rw [List.filter_eq_self.2, List.filter_eq_self.2]
  · intro y hy
    obtain ⟨j, hj⟩ := List.getElem?_of_mem hy
    rw [List.getElem?_drop] at hj
    rw [hno _ _ hj (by omega)]
    rfl
  · intro y hy
    obtain ⟨j, hj⟩ := List.getElem?_of_mem hy
    have h1 := getElem?_lt hj
    rw [List.length_take] at h1
    rw [List.getElem?_take_of_lt (by omega)] at hj
    rw [hno _ _ hj (by omega)]
    rfl

theorem noK_none {l : List Alarm14} {id : Int} (h : l.any (keyB id) = false) : noK id l = l := by
  unfold noK
  rw [List.filter_eq_self]
  intro x hx
  have := List.any_eq_false.1 h x hx
  simpa using this

theorem pos_append {a b : List Alarm14} {id : Int} (ha : ∀ x ∈ a, x.ID < id) (hb : ∀ x ∈ b, id ≤ x.ID) : pos (a ++ b) id = a.length := by
  induction a with
  | nil =>
    cases b with
    | nil => rfl
    | cons x b =>
      have := hb x (by simp)
      simp [pos, List.takeWhile_cons, ilt_f.2 this]
  | cons x a ih =>
    have h1 := ha x (by simp)
    have h2 := ih (fun y hy => ha y (by simp [hy]))
    unfold pos at h2 ⊢
    rw [List.cons_append, List.takeWhile_cons, if_pos (ilt_iff.2 h1), List.length_cons, h2, List.length_cons]

theorem take_lt {l : List Alarm14} {id : Int} {x : Alarm14} (hx : x ∈ l.take (pos l id)) : x.ID < id := by
  obtain ⟨j, hj⟩ := List.getElem?_of_mem hx
  have h1 := getElem?_lt hj
  rw [List.length_take] at h1
  rw [List.getElem?_take_of_lt (by omega)] at hj
  exact pos_lt hj (by omega)
theorem drop_ge {n : Int} {l : List Alarm14} (h : Val n l) {id : Int} {x : Alarm14} {k : Nat} (hk : pos l id ≤ k) (hx : x ∈ l.drop k) : id ≤ x.ID := by
  obtain ⟨j, hj⟩ := List.getElem?_of_mem hx
  rw [List.getElem?_drop] at hj
  exact pos_ge h hj (by omega)

theorem pos_noK {n : Int} {l : List Alarm14} (h : Val n l) (id : Int) : pos (noK id l) id = pos l id := by
  cases hk : l.any (keyB id) with
  | false => rw [noK_none hk]
  | true =>
    have hak := any_key h id
    rw [hk] at hak
    cases hx : l[pos l id]? with
    | none => rw [hx] at hak; cases hak
    | some x =>
      rw [hx] at hak
      rw [noK_out h hx hak.symm, pos_append (fun y hy => take_lt hy) (fun y hy => drop_ge h (by omega) hy), List.length_take]
      have := pos_le l id
      omega

/-- Set: the alarms with the one of this number replaced or put in. -/
def setL (l : List Alarm14) (id at_ : Int) : List Alarm14 := (noK id l).take (pos l id) ++ ⟨id, at_⟩ :: (noK id l).drop (pos l id)
def stT (n : Int) (l : List Alarm14) : Int × List Alarm14 × Unit := (n, (l, ()))
def setF (n : Int) (l : List Alarm14) (id at_ : Int) : (Int × List Alarm14 × Unit) × Int × Unit :=
  bif !validB n l then (stT 0 [], 1, ()) else bif ilt id 0 || (ile at_ n || ilt 1099511627776 at_) then (stT 0 [], 2, ()) else bif ile 32 (dlen (noK id l)) then (stT 0 [], 6, ()) else (stT n (setL l id at_), 0, ())

theorem dins_ok {α : Type} {bytes : Nat} {l : List α} {i : Nat} {x : α} (h : i ≤ l.length) (h1 : (l.length + 1) * bytes ≤ 140737488355328) (h2 : l.length + 1 ≤ 9223372036854775807) : dins bytes l (i : Int) x = some (l.take i ++ x :: l.drop i) := by
  unfold dins
  rw [if_pos ⟨by omega, by omega, h1, h2⟩]
  simp

theorem set14 (fu : Nat) (n : Int) (l : List Alarm14) (id at_ : Int) (hf : l.length < fu) (hl : l.length < 1000000000) : s17 fu n l id at_ = some (setF n l id at_) := by
  unfold s17 setF
  rw [valid14 fu n l hf (by omega)]
  cases hv : validB n l with
  | false => rfl
  | true =>
    obtain ⟨hV, _, _, hlen⟩ := (valid_iff n l).1 hv
    simp only [Bool.not_true, cond_false]
    cases h1 : ilt id 0 with
    | true => rfl
    | false =>
      cases h2 : ile at_ n with
      | true => rfl
      | false =>
        cases h3 : ilt 1099511627776 at_ with
        | true => rfl
        | false =>
          simp only [Bool.or_false, cond_false]
          rw [find14 fu n n l id hV hf (by omega)]
          have hda : dapp 16 [] l = some l := by
            have := dapp_ok (bytes := 16) (l := ([] : List Alarm14)) (ys := l) (by simp; omega) (by simp; omega)
            simpa using this
          have hle := pos_le l id
          simp only [hda]
          cases hk : l.any (keyB id) with
          | false =>
            unfold setL
            rw [noK_none hk]
            simp only
            cases h4 : ieq (dlen l) 32 with
            | true =>
              rw [ieq_iff] at h4
              rw [ile_iff.2 (by omega)]
              rfl
            | false =>
              rw [ieq_f, dlen_def] at h4
              rw [dlen_def, ile_f.2 (by omega)]
              simp only [cond_false]
              rw [dins_ok hle (by omega) (by omega)]
              rfl
          | true =>
            have hak := any_key hV id
            rw [hk] at hak
            cases hx : l[pos l id]? with
            | none => rw [hx] at hak; cases hak
            | some x =>
              rw [hx] at hak
              have hlt := getElem?_lt hx
              have hid : x.ID = id := ieq_iff.1 hak.symm
              unfold setL
              rw [noK_out hV hx hak.symm]
              simp only [dat_nat, hx]
              have hnl : (l.take (pos l id) ++ l.drop (pos l id + 1)).length = l.length - 1 := by simp; omega
              rw [dlen_def, hnl, ile_f.2 (by omega)]
              simp only [cond_false, dset, Int.toNat_natCast, hid, stT]
              have ht : (l.take (pos l id)).length = pos l id := by rw [List.length_take]; omega
              rw [List.take_append_of_le_length (by omega), List.take_of_length_le (by omega), List.drop_append_of_le_length (by omega), List.drop_of_length_le (by omega), List.nil_append, List.set_eq_take_append_cons_drop, if_pos hlt]
end Go.G
