import Derived.Test.YtffmffcnfhcgbaaP22b
set_option linter.unusedVariables false
set_option linter.unusedSimpArgs false
namespace Go.G
set_option maxRecDepth 100000
set_option maxHeartbeats 1000000
def refG (x : Timer22) (a : Timer22) (s : Bool × List Timer22) : Bool × List Timer22 :=
  let s' := bif !s.1 && !ltT a x then (true, s.2 ++ [x]) else s
  bif same ltT a x then s' else (s'.1, s'.2 ++ [a])
theorem same_key (a x : Timer22) : same ltT a x = (ieq a.Owner x.Owner && ieq a.Tag x.Tag) := by
  rw [Bool.eq_iff_iff]
  unfold same
  rw [Bool.and_eq_true, Bool.not_eq_true', Bool.not_eq_true', ltT_f, ltT_f, Bool.and_eq_true, ieq_iff, ieq_iff]
  omega
theorem refG_true (x : Timer22) : ∀ (l acc : List Timer22), l.foldl (fun s a => refG x a s) (true, acc) = (true, acc ++ noS ltT x l)
  | [], acc => by simp [noS]
  | a :: l, acc => by
    rw [List.foldl_cons]
    unfold noS
    rw [List.filter_cons]
    cases h : same ltT a x with
    | true =>
      have : refG x a (true, acc) = (true, acc) := by simp [refG, h]
      rw [this, refG_true x l]
      simp [noS]
    | false =>
      have : refG x a (true, acc) = (true, acc ++ [a]) := by simp [refG, h]
      rw [this, refG_true x l]
      simp [noS]
theorem refG_false (x : Timer22) : ∀ (l acc : List Timer22), Srt ltT l → l.foldl (fun s a => refG x a s) (false, acc) = bif l.all (fun a => ltT a x) then (false, acc ++ l) else (true, acc ++ putS ltT x l)
  | [], acc, _ => by simp
  | a :: l, acc, hs => by
    obtain ⟨h1, h2⟩ := List.pairwise_cons.1 hs
    rw [List.foldl_cons, List.all_cons]
    cases ha : ltT a x with
    | true =>
      have hns : same ltT a x = false := by simp [same, ha]
      have : refG x a (false, acc) = (false, acc ++ [a]) := by simp [refG, ha, hns]
      rw [this, refG_false x l _ h2]
      have hp : putS ltT x (a :: l) = a :: putS ltT x l := by
        have e1 : noS ltT x (a :: l) = a :: noS ltT x l := by unfold noS; rw [List.filter_cons]; simp [hns]
        unfold putS
        rw [e1]
        have e2 : posB ltT (a :: noS ltT x l) x = posB ltT (noS ltT x l) x + 1 := by unfold posB; rw [List.takeWhile_cons, if_pos ha, List.length_cons]
        rw [e2]
        simp
      rw [hp]
      cases l.all (fun a => ltT a x) <;> simp
    | false =>
      have hge : ∀ b ∈ a :: l, ltT b x = false := fun b hb => by
        rcases List.mem_cons.1 hb with rfl | hb
        · exact ha
        · exact ordT.ntr (ordT.asym (h1 b hb)) ha
      have hp : putS ltT x (a :: l) = x :: noS ltT x (a :: l) := by
        have e2 : posB ltT (noS ltT x (a :: l)) x = 0 := by
          cases hm : noS ltT x (a :: l) with
          | nil => rfl
          | cons b m =>
            have hb : b ∈ noS ltT x (a :: l) := by rw [hm]; simp
            have := hge b (mem_noS.1 hb).1
            simp [posB, this]
        unfold putS
        rw [e2]
        simp
      rw [hp]
      unfold noS
      rw [List.filter_cons]
      cases hk : same ltT a x with
      | true =>
        have : refG x a (false, acc) = (true, acc ++ [x]) := by simp [refG, ha, hk]
        rw [this, refG_true]
        simp [noS]
      | false =>
        have : refG x a (false, acc) = (true, acc ++ [x] ++ [a]) := by simp [refG, ha, hk]
        rw [this, refG_true]
        simp [noS]
theorem putS_all {l : List Timer22} {x : Timer22} (h : l.all (fun a => ltT a x) = true) : putS ltT x l = l ++ [x] := by
  rw [List.all_eq_true] at h
  have e1 : l.any (fun a => same ltT a x) = false := by
    rw [List.any_eq_false]
    intro a ha
    simp [same, h a ha]
  rw [putS_new e1]
  have e2 : posB ltT l x = l.length := by
    have := posB_append (lt := ltT) (a := l) (b := []) (x := x) h (by simp)
    rwa [List.append_nil] at this
  rw [e2]
  simp
theorem setR22 (fu : Nat) (l : List Timer22) (now own tag ticks : Int) (hf : l.length + 3 < fu) (hl : l.length < 100000000) : s23 fu l now own tag ticks = some (setF l now own tag ticks) := by
  unfold s23 setF
  rw [validR22 fu l (by omega) (by omega), comp22']
  cases hv : validB l with
  | false => rfl
  | true =>
    obtain ⟨hok, hS, hlen⟩ := valid_iff.1 hv
    simp only [Bool.not_true, cond_false]
    unfold badT
    cases h1 : compB own with
    | false => rfl
    | true =>
      cases h2 : ilt now 0 with
      | true => rfl
      | false =>
        cases h3 : ilt 1099511627776 now with
        | true => rfl
        | false =>
          cases h4 : ilt 1099511627776 ticks with
          | true => rfl
          | false =>
            simp only [Bool.not_true, Bool.or_false, cond_false]
            have e3 : (⟨own, tag, iadd .i64 now (imax 1 ticks)⟩ : Timer22) = newT now own tag ticks := rfl
            have hit := iter_fold (step := t23_2 fu) (fu := fu) l (fun j (s : Bool × List Timer22) => (l, (own, (tag, ((), ((), (s.1, ((j : Int), (s.2, (((newT now own tag ticks).Owner, ((newT now own tag ticks).Tag, ((newT now own tag ticks).Due, ()))), ()))))))))))
              (fun a s => refG (newT now own tag ticks) a s) (fun i s => s.2.length ≤ 2 * i)
              (fun s => .inl ((), ((), (s.1, (s.2, (((newT now own tag ticks).Owner, ((newT now own tag ticks).Tag, ((newT now own tag ticks).Due, ()))), ())))))) (ilt ticks 0, []) (by omega) (Nat.zero_le _)
              (fun i a s hi hI => by
                obtain ⟨d, out⟩ := s
                simp only at hI
                have h1 := getElem?_lt hi
                have hd1 : ∀ y : Timer22, dapp 24 out [y] = some (out ++ [y]) := fun y => dapp_ok (by simp; omega) (by simp; omega)
                have hd2 : ∀ y z : Timer22, dapp 24 (out ++ [y]) [z] = some (out ++ [y] ++ [z]) := fun y z => dapp_ok (by simp; omega) (by simp; omega)
                have hb := bef22 fu a (newT now own tag ticks)
                have e0 : (newT now own tag ticks).Owner = own := rfl
                have e1 : (newT now own tag ticks).Tag = tag := rfl
                have hk := same_key a (newT now own tag ticks)
                rw [e0, e1] at hk hb
                have hy : (⟨a.Owner, a.Tag, a.Due⟩ : Timer22) = a := rfl
                have hx : (⟨own, tag, (newT now own tag ticks).Due⟩ : Timer22) = newT now own tag ticks := rfl
                unfold refG
                rw [hk]
                simp only [t23_2, dlen_def l, ilt_len h1, dat_nat, hi, e0, e1, hb, iadd1 (show i < 9223372036854775807 by omega), hy, hx, hd1, hd2]
                cases d <;> cases ltT a (newT now own tag ticks) <;> cases ieq a.Owner own <;> cases ieq a.Tag tag <;> first | exact ⟨rfl, by simp; omega⟩ | exact ⟨rfl, by simp⟩)
              (fun s _ => by simp only [t23_2, dlen_def, ilt_end])
            rw [show ((0 : Nat) : Int) = 0 from rfl] at hit
            have e0 : (newT now own tag ticks).Owner = own := rfl
            have e1 : (newT now own tag ticks).Tag = tag := rfl
            have e2 : (newT now own tag ticks).Due = iadd .i64 now (imax 1 ticks) := rfl
            simp only [e0, e1, e2] at hit
            rw [hit]
            cases hn : ilt ticks 0 with
            | true =>
              simp only [hn, refG_true, List.nil_append]
              have : ilt 100 (dlen (noS ltT (newT now own tag ticks) l)) = false := ilt_f.2 (by rw [dlen_def]; have := noS_len (lt := ltT) (l := l) (x := newT now own tag ticks); omega)
              rw [this]
              rfl
            | false =>
              simp only [hn, refG_false _ l [] hS]
              cases hall : l.all (fun a => ltT a (newT now own tag ticks)) with
              | true =>
                have hd1 : dapp 24 l [newT now own tag ticks] = some (l ++ [newT now own tag ticks]) := dapp_ok (by simp; omega) (by simp; omega)
                simp only [cond_true, List.nil_append, e3, hd1, putS_all hall]
                cases ilt 100 (dlen (l ++ [newT now own tag ticks])) <;> rfl
              | false =>
                simp only [cond_false, List.nil_append]
                cases ilt 100 (dlen (putS ltT (newT now own tag ticks) l)) <;> rfl
end Go.G
