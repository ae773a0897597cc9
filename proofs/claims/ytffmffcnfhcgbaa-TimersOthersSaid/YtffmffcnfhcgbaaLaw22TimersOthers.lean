import Derived.Test.YtffmffcnfhcgbaaP22d
set_option linter.unusedVariables false
set_option linter.unusedSimpArgs false
namespace Go.G
set_option maxRecDepth 100000
set_option maxHeartbeats 1000000
def kyT (own tag : Int) (a : Timer22) : Bool := ieq a.Owner own && ieq a.Tag tag
theorem count7 (fu : Nat) (t a : List Timer22) (now own tag ticks : Int) (hf : a.length < fu) (hl : a.length < 1000000000) :
    iter (t7_3 fu) fu (t, ((), (a, (0, ((dlen a), (0, ((now, (own, (tag, (ticks, ())))), ()))))))) = some (.inl (t, ((), (a, (((a.filter (fun x => !kyT own tag x)).length : Int), ((now, (own, (tag, (ticks, ())))), ())))))) := by
  obtain ⟨s, hs, hit⟩ := iter_inv (step := t7_3 fu) (fu := fu) a (fun j (n : Nat) => (t, ((), (a, ((n : Int), ((dlen a), ((j : Int), ((now, (own, (tag, (ticks, ())))), ()))))))))
    (fun _ x n => bif kyT own tag x then n else n + 1) (fun i n => n = ((a.take i).filter (fun x => !kyT own tag x)).length ∧ n ≤ i)
    (fun n => .inl (t, ((), (a, ((n : Int), ((now, (own, (tag, (ticks, ())))), ())))))) 0 hf ⟨rfl, Nat.le_refl _⟩
    (fun i x n hi hI => by
      have h1 := getElem?_lt hi
      have ht : a.take (i + 1) = a.take i ++ [x] := by rw [List.take_add_one, hi]; rfl
      rw [ht, List.filter_append, List.length_append, ← hI.1]
      have hfx : ([x].filter (fun x => !kyT own tag x)).length = bif kyT own tag x then 0 else 1 := by
        rw [List.filter_cons]; cases kyT own tag x <;> rfl
      rw [hfx]
      simp only [t7_3, dlen_def, dat_nat, hi, ilt_len h1, iadd1 (show i < 9223372036854775807 by omega), iadd1 (show n < 9223372036854775807 by omega)]
      unfold kyT
      have hI2 := hI.2
      cases ieq x.Owner own <;> cases ieq x.Tag tag <;> exact ⟨rfl, rfl, by simp; omega⟩)
    (fun n _ => by simp only [t7_3, dlen_def, ilt_end])
  rw [List.take_length] at hs
  rw [← hs.1]
  exact hit
theorem found7 (fu : Nat) (t a : List Timer22) (x : Timer22) (i : Nat) (n len i2 now own tag ticks : Int) (hx : t[i]? = some x) (hf : a.length < fu) (hl : a.length < 1000000000) :
    iter (t7_10 fu) fu (t, ((), (a, (n, ((i : Int), (false, (len, (i2, ((dlen a), (0, ((now, (own, (tag, (ticks, ())))), ()))))))))))) =
      some (.inl (t, ((), (a, (n, (a.any (fun y => decide (y = x)), (len, (i2, ((now, (own, (tag, (ticks, ())))), ()))))))))) := by
  have := iter_fold (step := t7_10 fu) (fu := fu) a (fun j acc => (t, ((), (a, (n, ((i : Int), (acc, (len, (i2, ((dlen a), ((j : Int), ((now, (own, (tag, (ticks, ())))), ()))))))))))))
    (fun y acc => acc || decide (y = x)) (fun _ _ => True) (fun acc => .inl (t, ((), (a, (n, (acc, (len, (i2, ((now, (own, (tag, (ticks, ())))), ()))))))))) false hf trivial
    (fun j y acc hi _ => by
      have h1 := getElem?_lt hi
      rw [← tm_eq]
      simp only [t7_10, dlen_def, dat_nat, hi, hx, ilt_len h1, iadd1 (show j < 9223372036854775807 by omega)]
      cases acc <;> cases ieq y.Owner x.Owner <;> cases ieq y.Tag x.Tag <;> cases ieq y.Due x.Due <;> first | trivial | exact ⟨rfl, trivial⟩)
    (fun acc _ => by simp only [t7_10, dlen_def, ilt_end])
  rw [show ((0 : Nat) : Int) = 0 from rfl] at this
  rw [this]
  have h2 : ∀ (m : List Timer22) (b : Bool), m.foldl (fun acc y => acc || decide (y = x)) b = (b || m.any (fun y => decide (y = x))) := by
    intro m
    induction m with
    | nil => simp
    | cons y m ih => intro b; rw [List.foldl_cons, ih, List.any_cons, Bool.or_assoc]
  rw [h2]
  simp
theorem same17 : t7_17 = t7_10 := rfl
theorem each7 (fu : Nat) (t a : List Timer22) (now own tag ticks : Int) (n0 : Nat) (hn0 : n0 = (t.filter (fun x => !kyT own tag x)).length) (hf : a.length < fu) (hl : a.length < 1000000000) (hf2 : t.length < fu) (hl2 : t.length < 1000000000)
    (hin : ∀ x ∈ t, kyT own tag x = false → x ∈ a) :
    iter (t7_8 fu) fu (t, ((), (a, ((n0 : Int), ((dlen t), (0, ((now, (own, (tag, (ticks, ())))), ()))))))) = some (.inl (0, ((now, (own, (tag, (ticks, ())))), ()))) := by
  obtain ⟨s, hs, hit⟩ := iter_inv (step := t7_8 fu) (fu := fu) t (fun j (n : Nat) => (t, ((), (a, ((n : Int), ((dlen t), ((j : Int), ((now, (own, (tag, (ticks, ())))), ()))))))))
    (fun _ x n => bif kyT own tag x then n else n - 1) (fun i n => n = ((t.drop i).filter (fun x => !kyT own tag x)).length)
    (fun n => .inl ((n : Int), ((now, (own, (tag, (ticks, ())))), ()))) n0 hf2 (by rw [hn0]; rfl)
    (fun i x n hi hI => by
      have h1 := getElem?_lt hi
      have hd : t.drop i = x :: t.drop (i + 1) := by
        rw [List.drop_eq_getElem_cons h1]
        rw [List.getElem?_eq_getElem h1] at hi
        cases hi; rfl
      have hle : n ≤ t.length := by
        rw [hI]
        have := List.length_filter_le (fun x => !kyT own tag x) (t.drop i)
        rw [List.length_drop] at this
        omega
      rw [hd, List.filter_cons] at hI
      cases hk : kyT own tag x with
      | true =>
        rw [hk] at hI
        simp only [kyT, Bool.and_eq_true] at hk
        refine ⟨?_, by simpa using hI⟩
        simp only [t7_8, dlen_def, dat_nat, hi, ilt_len h1, iadd1 (show i < 9223372036854775807 by omega), hk.1, hk.2, cond_true]
      | false =>
        rw [hk] at hI
        simp only [Bool.not_false, if_true, List.length_cons] at hI
        have hmem : a.any (fun y => decide (y = x)) = true := List.any_eq_true.2 ⟨x, hin x (List.mem_of_getElem? hi) hk, by simp⟩
        have hsub : isub .i64 (n : Int) 1 = ((n - 1 : Nat) : Int) := by rw [isub64 (by omega)]; omega
        refine ⟨?_, by simp only [cond_false]; omega⟩
        have hfd := found7 fu t a x i ((n - 1 : Nat) : Int) (t.length : Int) (i : Int) now own tag ticks hi hf hl
        rw [hmem, dlen_def] at hfd
        unfold kyT at hk
        simp only [t7_8, same17, dlen_def, dat_nat, hi, ilt_len h1, iadd1 (show i < 9223372036854775807 by omega), hsub, hfd, cond_false]
        cases e1 : ieq x.Owner own <;> cases e2 : ieq x.Tag tag <;> simp_all)
    (fun n _ => by simp only [t7_8, dlen_def, ilt_end])
  rw [List.drop_length] at hs
  simp only [List.filter_nil, List.length_nil] at hs
  subst hs
  exact hit
theorem law7_at (fu : Nat) (hf : 1000 < fu) (ha : s10 fu = some (true, ())) (t : List Timer22) (now own tag ticks : Int) : s7 fu t now own tag ticks = some (true, ()) := by
  unfold s7
  rw [ha]
  simp only
  cases h : ilt 150 (dlen t) with
  | true => rfl
  | false =>
    rw [ilt_f, dlen_def] at h
    have hlen := setF_len t now own tag ticks
    simp only
    rw [to22 fu t (by omega) (by omega)]
    simp only
    rw [set22' fu t _ _ _ _ (by omega) (by omega)]
    simp only
    rcases setF_cases t now own tag ticks with ⟨c, hc, he⟩ | ⟨m, he, hv, b1, b2, b3, b4, hm⟩
    · rw [he]
      simp only [ieq_f.2 hc]
      rfl
    · rw [he] at hlen ⊢
      simp only at hlen
      obtain ⟨v1, v2, v3⟩ := valid_iff.1 hv
      have hkey : ∀ x : Timer22, kyT own tag x = same ltT x (newT now own tag ticks) := fun x => by rw [same_key]; rfl
      have hcount : (m.filter (fun x => !kyT own tag x)).length = (t.filter (fun x => !kyT own tag x)).length := by
        simp only [hkey]
        show (noS ltT (newT now own tag ticks) m).length = (noS ltT (newT now own tag ticks) t).length
        rcases hm with ⟨_, rfl⟩ | ⟨_, rfl, _⟩
        · unfold noS; rw [List.filter_filter]; simp
        · rw [noS_putS ordT]
      have hin : ∀ x ∈ t, kyT own tag x = false → x ∈ m := fun x hx hk => by
        rw [hkey] at hk
        rcases hm with ⟨_, rfl⟩ | ⟨_, rfl, _⟩
        · exact mem_noS.2 ⟨hx, hk⟩
        · exact mem_putS.2 (.inr ⟨hx, hk⟩)
      simp only [ieq_iff.2 rfl, count7 fu t m now own tag ticks (by omega) (by omega), hcount, each7 fu t m now own tag ticks _ rfl (by omega) (by omega) (by omega) (by omega) hin]
/-- TimersOthers is true. -/
theorem law7 (a0 : List Timer22) (a1_Now : Int) (a1_Owner : Int) (a1_Tag : Int) (a1_Ticks : Int) (_ : WfA A7 (a0, (a1_Now, a1_Owner, a1_Tag, a1_Ticks, ()), ())) : s7 FU a0 a1_Now a1_Owner a1_Tag a1_Ticks = some (true, ()) := law7_at FU (by decide) aw22 _ _ _ _ _
end Go.G
