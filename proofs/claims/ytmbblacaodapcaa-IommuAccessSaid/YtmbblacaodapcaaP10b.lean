import Derived.Test.YtmbblacaodapcaaP10a
set_option linter.unusedVariables false
set_option linter.unusedSimpArgs false
namespace Go.G
set_option maxRecDepth 100000
def cfl (x v : Window10) : Bool := confB v.Frame v.Write x.Frame x.Write
def befW (a b : Window10) : Bool := befB a.Device a.Tag b.Device b.Tag
def prpW (x : Window10) : Bool := properB x.Device x.Tag x.Frame
def okLast (pre : List Window10) (x : Window10) : Bool := match pre.getLast? with
  | some p => befW p x
  | none => true
def okAt (pre : List Window10) (x : Window10) : Bool := prpW x && (okLast pre x && !pre.any (cfl x))
def validB (l : List Window10) : Bool := allI (fun i x => okAt (l.take i) x) l 0

theorem conf_iter (fu : Nat) (m : List Window10) (x : Window10) (hf : m.length < fu) (hl : m.length < 1000000000000) :
    (iter (t15_4 fu) fu (m, ((), (dlen m, (0, ((x.Device, (x.Tag, (x.Frame, (x.Write, ())))), ()))))) = some (.inl ((x.Device, (x.Tag, (x.Frame, (x.Write, ())))), ())) ∧ m.any (cfl x) = false) ∨
    ∃ k : Nat, iter (t15_4 fu) fu (m, ((), (dlen m, (0, ((x.Device, (x.Tag, (x.Frame, (x.Write, ())))), ()))))) = some (.inr (.inl ((k : Int), ((x.Device, (x.Tag, (x.Frame, (x.Write, ())))), ())))) ∧ m.any (cfl x) = true := by
  rcases iter_first (step := t15_4 fu) (fu := fu) m (fun j => (m, ((), (dlen m, ((j : Int), ((x.Device, (x.Tag, (x.Frame, (x.Write, ())))), ())))))) (cfl x) (fun j _ => .inr (.inl ((j : Int), ((x.Device, (x.Tag, (x.Frame, (x.Write, ())))), ())))) (.inl ((x.Device, (x.Tag, (x.Frame, (x.Write, ())))), ())) hf
      (fun i v hi hq => by
        have h1 := getElem?_lt hi
        simp only [t15_4, dlen_def, dat_nat, hi, ilt_len h1, iadd1 (show i < 9223372036854775807 by omega), conf10]
        simp only [cfl] at hq
        simp only [hq])
      (fun i v hi hq => by
        have h1 := getElem?_lt hi
        simp only [t15_4, dlen_def, dat_nat, hi, ilt_len h1, conf10]
        simp only [cfl] at hq
        simp only [hq])
      (by simp only [t15_4, dlen_def, ilt_end]) with ⟨i, v, h1, h2, _, h4⟩ | ⟨h1, h2⟩
  · refine .inr ⟨i, h4, List.any_eq_true.2 ⟨v, List.mem_of_getElem? h1, h2⟩⟩
  · exact .inl ⟨h2, List.any_eq_false.2 (by simpa using h1)⟩

theorem take_last {l : List Window10} {i : Nat} {x : Window10} (h : l[i]? = some x) : (l.take (i + 1)).getLast? = some x := by
  rw [List.take_add_one, h]; simp

theorem getD_idx {l : List Window10} {i : Nat} (h : 0 < i) (hi : i ≤ l.length) : ∃ p, l[i - 1]? = some p ∧ (l.take i).getLast? = some p := by
  have h2 : i - 1 < l.length := by omega
  refine ⟨l[i - 1], List.getElem?_eq_getElem h2, ?_⟩
  have := take_last (List.getElem?_eq_getElem h2)
  rwa [show i - 1 + 1 = i by omega] at this

theorem valid10 (fu : Nat) (hf0 : 1000 < fu) (l : List Window10) (hf : l.length < fu) (hl : l.length < 1000000000000) : s15 fu l = some (validB l, ()) := by
  unfold s15
  have := iter_walk (step := t15_0 fu) (fu := fu) (ε := Unit ⊕ ((Bool × Unit) ⊕ Empty)) l (fun j (_ : Unit) => (l, (l, (dlen l, ((j : Int), ())))))
    (fun i x _ => if okAt (l.take i) x then .inl () else .inr (.inr (.inl (false, ())))) (fun _ _ => True) (fun _ => .inl ()) () hf trivial
    (fun i x _ hi _ => by
      have h1 := getElem?_lt hi
      have hd : dsub l 0 (i : Int) = some (l.take i) := dsub0 (by omega)
      have hci := conf_iter fu (l.take i) x (by rw [List.length_take]; omega) (by rw [List.length_take]; omega)
      have e15 : t15_15 fu = t15_4 fu := rfl
      simp only [t15_0, dlen_def l, dat_nat, hi, ilt_len h1, iadd1 (show i < 9223372036854775807 by omega), proper10, hd, e15]
      cases hp : properB x.Device x.Tag x.Frame with
      | false =>
        have : okAt (l.take i) x = false := by simp [okAt, prpW, hp]
        simp [this]
      | true =>
        simp only
        cases i with
        | zero =>
          have hz : ilt 0 ((0 : Nat) : Int) = false := rfl
          simp only [hz]
          have hok : okAt (l.take 0) x = !(l.take 0).any (cfl x) := by simp [okAt, prpW, hp, okLast]
          rcases hci with ⟨q1, q2⟩ | ⟨k, q1, q2⟩
          · rw [q1, hok, q2]
            simp [ile]
          · rw [q1, hok, q2]
            simp [ile]
        | succ i =>
          have hz : ilt 0 ((i + 1 : Nat) : Int) = true := ilt_iff.2 (by omega)
          obtain ⟨p, p1, p2⟩ := getD_idx (l := l) (i := i + 1) (by omega) (by omega)
          have hs : isub .i64 ((i + 1 : Nat) : Int) 1 = ((i : Nat) : Int) := by rw [isub64 (by omega)]; omega
          simp only [Nat.add_sub_cancel] at p1
          simp only [hz, hs, dat_nat, p1, ord10 fu hf0]
          have hlt := @ord_lt p.Device p.Tag x.Device x.Tag
          have hok : okAt (l.take (i + 1)) x = (befW p x && !(l.take (i + 1)).any (cfl x)) := by simp [okAt, prpW, hp, okLast, p2]
          cases hb : befB p.Device p.Tag x.Device x.Tag with
          | false =>
            rw [hb, ilt_f] at hlt
            rw [ile_iff.2 hlt, hok]
            simp [befW, hb]
          | true =>
            rw [hb, ilt_iff] at hlt
            rw [ile_f.2 hlt, hok]
            simp only [befW, hb, Bool.true_and]
            rcases hci with ⟨q1, q2⟩ | ⟨k, q1, q2⟩
            · rw [q1, q2]
              simp [ile]
            · rw [q1, q2]
              simp [ile])
    (fun _ _ => by simp only [t15_0, dlen_def, ilt_end])
  rw [show ((0 : Nat) : Int) = 0 from rfl] at this
  rw [this]
  rcases walk_check (ε := Unit ⊕ ((Bool × Unit) ⊕ Empty)) (fun i x => okAt (l.take i) x) (fun _ _ => .inr (.inl (false, ()))) l 0 with ⟨h1, h2⟩ | ⟨h1, i, x, h2⟩
  · rw [h2]; simp [validB, h1]
  · rw [h2]; simp [validB, h1]

theorem confR_iter (fu : Nat) (l : List Window10) (i : Nat) (x : Window10) (hi : l[i]? = some x) (hf : l.length < fu) (hl : l.length < 1000000000000) :
    iter (t16_3 fu) fu (l, ((i : Int), (0, ()))) = some (if (l.take i).any (cfl x) then .inr (.inl (false, ())) else .inl (l, ((i : Int), ()))) := by
  have h1 := getElem?_lt hi
  have ht : (l.take i).length = i := by rw [List.length_take]; omega
  have := iter_any (step := t16_3 fu) (fu := fu) (l.take i) (fun j => (l, ((i : Int), ((j : Int), ())))) (cfl x) (.inr (.inl (false, ()))) (.inl (l, ((i : Int), ()))) (by omega)
      (fun j v hj hq => by
        have h1 := getElem?_lt hj
        rw [List.getElem?_take_of_lt (by omega)] at hj
        rw [ht] at h1
        simp only [t16_3, dlen_def, dat_nat, hi, hj, ilt_len h1, iadd1 (show j < 9223372036854775807 by omega), confR]
        simp only [cfl] at hq
        simp only [hq])
      (fun j v hj hq => by
        have h1 := getElem?_lt hj
        rw [List.getElem?_take_of_lt (by omega)] at hj
        rw [ht] at h1
        simp only [t16_3, dlen_def, dat_nat, hi, hj, ilt_len h1, confR]
        simp only [cfl] at hq
        simp only [hq])
      (by simp only [t16_3, ht, ilt_end])
  exact this

theorem validR (fu : Nat) (l : List Window10) (hf : l.length < fu) (hl : l.length < 1000000000000) : s16 fu l = some (validB l, ()) := by
  unfold s16
  have := iter_walk (step := t16_0 fu) (fu := fu) (ε := Unit ⊕ ((Bool × Unit) ⊕ Empty)) l (fun j (_ : Unit) => (l, ((j : Int), ())))
    (fun i x _ => if okAt (l.take i) x then .inl () else .inr (.inr (.inl (false, ())))) (fun _ _ => True) (fun _ => .inl ()) () hf trivial
    (fun i x _ hi _ => by
      have h1 := getElem?_lt hi
      have hci := confR_iter fu l i x hi hf hl
      have e15 : t16_15 fu = t16_3 fu := rfl
      simp only [t16_0, dlen_def l, dat_nat, hi, ilt_len h1, properR, e15]
      cases hp : properB x.Device x.Tag x.Frame with
      | false =>
        have : okAt (l.take i) x = false := by simp [okAt, prpW, hp]
        simp [this]
      | true =>
        simp only
        have hid := iadd1 (show i < 9223372036854775807 by omega)
        cases i with
        | zero =>
          have hz : ilt 0 ((0 : Nat) : Int) = false := rfl
          simp only [hz]
          have hok : okAt (l.take 0) x = !(l.take 0).any (cfl x) := by simp [okAt, prpW, hp, okLast]
          rw [hci, hok]
          simp only [List.take_zero, List.any_nil, Bool.not_false, if_true, Bool.false_eq_true, if_false, hid]
          exact ⟨trivial, trivial⟩
        | succ i =>
          have hz : ilt 0 ((i + 1 : Nat) : Int) = true := ilt_iff.2 (by omega)
          obtain ⟨p, p1, p2⟩ := getD_idx (l := l) (i := i + 1) (by omega) (by omega)
          have hs : isub .i64 ((i + 1 : Nat) : Int) 1 = ((i : Nat) : Int) := by rw [isub64 (by omega)]; omega
          simp only [Nat.add_sub_cancel] at p1
          simp only [hz, hs, dat_nat, p1, befR]
          have hok : okAt (l.take (i + 1)) x = (befW p x && !(l.take (i + 1)).any (cfl x)) := by simp [okAt, prpW, hp, okLast, p2]
          cases hb : befB p.Device p.Tag x.Device x.Tag with
          | false =>
            rw [hok]
            simp [befW, hb]
          | true =>
            rw [hok, hci]
            simp only [befW, hb, Bool.true_and]
            cases (l.take (i + 1)).any (cfl x) with
            | true => simp
            | false =>
              simp only [Bool.not_false, Bool.false_eq_true, if_false, if_true, hid]
              exact ⟨trivial, trivial⟩)
    (fun _ _ => by simp only [t16_0, dlen_def, ilt_end])
  rw [show ((0 : Nat) : Int) = 0 from rfl] at this
  rw [this]
  rcases walk_check (ε := Unit ⊕ ((Bool × Unit) ⊕ Empty)) (fun i x => okAt (l.take i) x) (fun _ _ => .inr (.inl (false, ()))) l 0 with ⟨h1, h2⟩ | ⟨h1, i, x, h2⟩
  · rw [h2]; simp [validB, h1]
  · rw [h2]; simp [validB, h1]
end Go.G
