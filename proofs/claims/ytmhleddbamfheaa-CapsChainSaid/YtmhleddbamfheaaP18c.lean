import Derived.Test.YtmhleddbamfheaaP18b
set_option linter.unusedVariables false
set_option linter.unusedSimpArgs false
namespace Go.G
set_option maxRecDepth 100000
def capT (x : Cap18) : Int × Int × Int × Int × Int × Int × Unit := (x.ID, (x.Parent, (x.Owner, (x.Right_Type, (x.Right_Peer, (x.Right_Code, ()))))))
abbrev byID (k : Int) (x : Cap18) : Bool := ieq x.ID k
theorem find_ref (fu : Nat) (l : List Cap18) (k : Int) (hf : l.length < fu) (hl : l.length < 9223372036854775807) : s45 fu l k = some (match l.find? (byID k) with
    | some x => (capT x, (true, ()))
    | none => ((0, (0, (0, (0, (0, (0, ())))))), (false, ()))) := by
  unfold s45
  have := iter_find (step := t45_0 fu) l (fun j => (l, (k, ((), ((j : Int), ((0, (0, (0, (0, (0, (0, ())))))), ())))))) (byID k) (fun x => .inr (.inl (true, ((), (capT x, ()))))) (.inl ((), ((0, (0, (0, (0, (0, (0, ())))))), ()))) hf
    (fun i x hi hq => by
      have h1 := getElem?_lt hi
      simp only [byID] at hq
      simp only [t45_0, dlen_def, dat_nat, hi, ilt_len h1, iadd1 (show i < 9223372036854775807 by omega), hq])
    (fun i x hi hq => by
      have h1 := getElem?_lt hi
      simp only [byID] at hq
      simp only [t45_0, dlen_def, dat_nat, hi, ilt_len h1, hq, capT])
    (by simp only [t45_0, dlen_def, ilt_end])
  rw [show ((0 : Nat) : Int) = 0 from rfl] at this
  rw [this]
  cases l.find? (byID k) <;> rfl
theorem index_caps (fu : Nat) (n : Int) (l : List Cap18) (k : Int) (hf : l.length < fu) (hl : l.length < 9223372036854775807) : s43 fu n l k = some ((match l.findIdx? (byID k) with
    | some i => (i : Int)
    | none => -1), ()) := by
  unfold s43
  have := iter_idx (step := t43_0 fu) l (fun j => (l, ((), (dlen l, ((j : Int), ((k, ()), ())))))) (byID k) (fun i => .inr (.inl ((i : Int), ((k, ()), ())))) (.inl ((k, ()), ())) hf
    (fun i x hi hq => by
      have h1 := getElem?_lt hi
      simp only [byID] at hq
      simp only [t43_0, dlen_def, dat_nat, hi, ilt_len h1, iadd1 (show i < 9223372036854775807 by omega), hq])
    (fun i x hi hq => by
      have h1 := getElem?_lt hi
      simp only [byID] at hq
      simp only [t43_0, dlen_def, dat_nat, hi, ilt_len h1, hq])
    (by simp only [t43_0, dlen_def, ilt_end])
  rw [show ((0 : Nat) : Int) = 0 from rfl] at this
  rw [this]
  cases l.findIdx? (byID k) <;> rfl

theorem lastID_pos {n : Int} : ∀ (r pre : List Cap18), validL n pre r = true → 0 ≤ lastID pre → 0 ≤ lastID (pre ++ r)
  | [], pre, _, h => by simpa using h
  | x :: r, pre, hv, h => by
    simp only [validL, Bool.and_eq_true] at hv
    have := okAt_last hv.1
    have h2 := lastID_pos r (pre ++ [x]) hv.2 (by rw [lastID_snoc]; omega)
    simpa using h2

theorem lastID_take {l : List Cap18} {i : Nat} {x : Cap18} (h : l[i]? = some x) : lastID (l.take (i + 1)) = x.ID := by rw [take_succ_of h, lastID_snoc]

theorem valid_ref (fu : Nat) (n : Int) (l : List Cap18) (hf : l.length < fu) (hl : l.length < 1000000000000) : s30 fu n l = some (validB n l, ()) := by
  unfold s30
  have hall := validL_all n l l 0 rfl
  have := iter_walk (step := t30_0 fu) (fu := fu) l (fun i (_ : Unit) => ((), ((i : Int), ((n, (l, ())), ()))))
    (fun i x _ => if okAt n (l.take i) x then .inl () else .inr (.inr (.inl (false, ((n, (l, ())), ())))))
    (fun i _ => 0 ≤ lastID (l.take i)) (fun _ => .inl ((n, (l, ())), ())) () hf (by simp [lastID])
    (fun i x _ hi hI => by
      have h1 := getElem?_lt hi
      have hsub : dsub l 0 (i : Int) = some (l.take i) := dsub0 (by omega)
      have hlen : (l.take i).length ≤ l.length := by simp; omega
      have step : t30_0 fu ((), ((i : Int), ((n, (l, ())), ()))) = some (cond (okAt n (l.take i) x) (.inl ((), (((i + 1 : Nat) : Int), ((n, (l, ())), ())))) (.inr (.inr (.inl (false, ((n, (l, ())), ())))))) := by
        simp only [t30_0, dlen_def, dat_nat, hi, ilt_len h1, iadd1 (show i < 9223372036854775807 by omega), proper_ref, hsub, find_ref fu (l.take i) _ (by omega) (by omega), has_ref fu _ (l.take i) _ _ _ _ (by omega) (by omega)]
        have hl0 : i = 0 → lastID (l.take i) = 0 := fun h => by subst h; rfl
        have hl1 : ∀ k, i = k + 1 → ∃ p, l[k]? = some p ∧ lastID (l.take i) = p.ID := fun k hk => by
          subst hk
          exact ⟨l[k]'(by omega), List.getElem?_eq_getElem (by omega), lastID_take (List.getElem?_eq_getElem (by omega))⟩
        generalize hpre : l.take i = pre at hI hl0 hl1 ⊢
        simp only [okAt, parOK, byID]
        cases b1 : ilt x.ID 1 with
        | true =>
          have : ile x.ID (lastID pre) = true := by rw [ilt_iff] at b1; rw [ile_iff]; omega
          simp [this]
        | false =>
          simp only
          cases b2 : ile n x.ID with
          | true => simp
          | false =>
            simp only
            cases b3 : ilt 0 (i : Int) with
            | false =>
              rw [ilt_f] at b3 b1
              have hi0 := hl0 (by omega)
              have hL : ile x.ID (lastID pre) = false := by rw [ile_f]; omega
              simp only [hL, Bool.not_false, Bool.true_and]
              cases c1 : properB x.Right_Type x.Right_Peer x.Right_Code <;> simp only [Bool.true_and, Bool.false_and, cond_false, cond_true]
              cases c2 : ilt x.Owner 0 <;> simp only [Bool.not_false, Bool.not_true, Bool.true_and, Bool.false_and, cond_false, cond_true]
              cases c3 : ile 32 x.Owner <;> simp only [Bool.not_false, Bool.not_true, Bool.true_and, Bool.false_and, cond_false, cond_true]
              cases c4 : ieq x.Parent 0 <;> simp only [Bool.false_eq_true, if_false, if_true, cond_false, cond_true]
              · cases hfi : pre.find? (fun p => ieq p.ID x.Parent) with
                | none => simp
                | some p =>
                  simp only [capT, rEq]
                  cases ieq p.Right_Type x.Right_Type <;> cases ieq p.Right_Peer x.Right_Peer <;> cases ieq p.Right_Code x.Right_Code <;> cases pre.any (isHas x.Owner x.Right_Type x.Right_Peer x.Right_Code) <;> simp
              · cases ieq x.Owner 0 <;> cases pre.any (isHas x.Owner x.Right_Type x.Right_Peer x.Right_Code) <;> simp
            | true =>
              rw [ilt_iff] at b3
              obtain ⟨k, hk⟩ : ∃ k, i = k + 1 := ⟨i - 1, by omega⟩
              obtain ⟨p, hp1, hp2⟩ := hl1 k hk
              have hs : isub .i64 (i : Int) 1 = (k : Int) := by rw [isub64 (by omega)]; omega
              simp only [hs, dat_nat, hp1, hp2]
              cases b4 : ile x.ID p.ID with
              | true => simp
              | false =>
                simp only [Bool.not_false, Bool.true_and]
                cases c1 : properB x.Right_Type x.Right_Peer x.Right_Code <;> simp only [Bool.true_and, Bool.false_and, cond_false, cond_true]
                cases c2 : ilt x.Owner 0 <;> simp only [Bool.not_false, Bool.not_true, Bool.true_and, Bool.false_and, cond_false, cond_true]
                cases c3 : ile 32 x.Owner <;> simp only [Bool.not_false, Bool.not_true, Bool.true_and, Bool.false_and, cond_false, cond_true]
                cases c4 : ieq x.Parent 0 <;> simp only [Bool.false_eq_true, if_false, if_true, cond_false, cond_true]
                · cases hfi : pre.find? (fun p => ieq p.ID x.Parent) with
                  | none => simp
                  | some p =>
                    simp only [capT, rEq]
                    cases ieq p.Right_Type x.Right_Type <;> cases ieq p.Right_Peer x.Right_Peer <;> cases ieq p.Right_Code x.Right_Code <;> cases pre.any (isHas x.Owner x.Right_Type x.Right_Peer x.Right_Code) <;> simp
                · cases ieq x.Owner 0 <;> cases pre.any (isHas x.Owner x.Right_Type x.Right_Peer x.Right_Code) <;> simp
      simp only [step]
      by_cases hok : okAt n (l.take i) x = true
      · simp only [hok, if_true, cond_true]
        refine ⟨trivial, ?_⟩
        rw [lastID_take hi]
        have := okAt_last hok
        omega
      · simp only [hok, if_false]
        simp)
    (fun s hI => by simp only [t30_0, dlen_def, ilt_end])
  simp only [List.take_zero, Int.natCast_zero] at this hall
  simp only [dlen_def, validB]
  rw [this]
  cases h1 : ilt 400 (l.length : Int) with
  | true =>
    rw [ilt_iff] at h1
    rw [decide_eq_false (by omega)]
    simp
  | false =>
    rw [ilt_f] at h1
    rw [decide_eq_true (by omega)]
    cases h2 : ilt n 1 with
    | true =>
      rw [ilt_iff] at h2
      have : ile 1 n = false := by rw [ile_f]; omega
      simp [this]
    | false =>
      rw [ilt_f] at h2
      have h2' : ile 1 n = true := by rw [ile_iff]; omega
      cases h3 : ilt 1099511627776 n with
      | true =>
        rw [ilt_iff] at h3
        have : ile n 1099511627776 = false := by rw [ile_f]; omega
        simp [this]
      | false =>
        rw [ilt_f] at h3
        have h3' : ile n 1099511627776 = true := by rw [ile_iff]; omega
        simp only [h2', h3', Bool.and_true]
        rcases walk_check (fun i x => okAt n (l.take i) x) (fun _ (_ : Cap18) => (.inr (.inl (false, ((n, (l, ())), ()))) : ((Int × List Cap18 × Unit) × Unit) ⊕ (Bool × (Int × List Cap18 × Unit) × Unit) ⊕ Empty)) l 0 with ⟨w1, w2⟩ | ⟨w1, j, y, w2⟩
        · rw [w2, ← hall, w1]
        · rw [w2, ← hall, w1]
end Go.G
