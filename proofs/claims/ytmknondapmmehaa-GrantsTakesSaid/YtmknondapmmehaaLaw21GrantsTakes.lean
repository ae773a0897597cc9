import Derived.Test.YtmknondapmmehaaLaw21GrantsRevoke
set_option linter.unusedVariables false
set_option linter.unusedSimpArgs false
namespace Go.G
set_option maxRecDepth 100000
set_option maxHeartbeats 1000000
/-- The owner of the grant to o. -/
def nxt (t : List Grant21) (f o : Int) : Int := match t.find? (fun y => ieq y.Frame f && ieq y.Grantee o) with
  | some y => y.Owner
  | none => o
def depN (t : List Grant21) (f g : Int) : Nat → Int → Bool
  | 0, _ => false
  | n + 1, o => bif ieq o g then true else depN t f g n (nxt t f o)
theorem in21 (fu : Nat) (t : List Grant21) (g o i : Int) (x : Grant21) (hf : t.length < fu) (hl : t.length < 1000000000) :
    iter (t21_1 fu) fu (t, (g, ((), (o, (i, (0, ((x.Owner, (x.Grantee, (x.Frame, (x.Rights, ())))), ()))))))) = some (.inl (t, (g, ((), (nxt t x.Frame o, (i, ((x.Owner, (x.Grantee, (x.Frame, (x.Rights, ())))), ()))))))) := by
  have := iter_find (step := t21_1 fu) (fu := fu) t (fun j => (t, (g, ((), (o, (i, ((j : Int), ((x.Owner, (x.Grantee, (x.Frame, (x.Rights, ())))), ()))))))))
    (fun y => ieq y.Frame x.Frame && ieq y.Grantee o) (fun y => .inl (t, (g, ((), (y.Owner, (i, ((x.Owner, (x.Grantee, (x.Frame, (x.Rights, ())))), ()))))))) (.inl (t, (g, ((), (o, (i, ((x.Owner, (x.Grantee, (x.Frame, (x.Rights, ())))), ()))))))) hf
    (fun j y hi hq => by
      have h1 := getElem?_lt hi
      simp only [t21_1, dlen_def, dat_nat, hi, ilt_len h1, iadd1 (show j < 9223372036854775807 by omega)]
      cases e1 : ieq y.Frame x.Frame <;> cases e2 : ieq y.Grantee o <;> simp_all)
    (fun j y hi hq => by
      have h1 := getElem?_lt hi
      simp only [t21_1, dlen_def, dat_nat, hi, ilt_len h1]
      cases e1 : ieq y.Frame x.Frame <;> cases e2 : ieq y.Grantee o <;> simp_all)
    (by simp only [t21_1, dlen_def, ilt_end])
  rw [show ((0 : Nat) : Int) = 0 from rfl] at this
  rw [this]
  unfold nxt
  cases t.find? (fun y => ieq y.Frame x.Frame && ieq y.Grantee o) <;> rfl
theorem dep21 (fu : Nat) (t : List Grant21) (g : Int) (x : Grant21) (hf : t.length + 2 < fu) (hl : t.length < 100000000) : s21 fu t x.Owner x.Grantee x.Frame x.Rights g = some (depN t x.Frame g (t.length + 1) x.Owner, ()) := by
  unfold s21
  have key : ∀ (d fu' : Nat) (i : Nat) (o : Int), i + d = t.length + 1 → d < fu' → iter (t21_0 fu) fu' (t, (g, ((), (o, ((i : Int), ((x.Owner, (x.Grantee, (x.Frame, (x.Rights, ())))), ())))))) =
      some (bif depN t x.Frame g d o then .inr (.inl (true, ((x.Owner, (x.Grantee, (x.Frame, (x.Rights, ())))), ()))) else .inl ((x.Owner, (x.Grantee, (x.Frame, (x.Rights, ())))), ())) := by
    intro d
    induction d with
    | zero =>
      intro fu' i o h1 h2
      obtain ⟨k, rfl⟩ : ∃ k, fu' = k + 1 := ⟨fu' - 1, by omega⟩
      simp only [iter, t21_0, show ile (i : Int) (dlen t) = false from ile_f.2 (by rw [dlen_def]; omega), depN, cond_false]
    | succ d ih =>
      intro fu' i o h1 h2
      obtain ⟨k, rfl⟩ : ∃ k, fu' = k + 1 := ⟨fu' - 1, by omega⟩
      cases he : ieq o g with
      | true => simp only [iter, t21_0, show ile (i : Int) (dlen t) = true from ile_iff.2 (by rw [dlen_def]; omega), he, depN, cond_true]
      | false =>
        simp only [iter, t21_0, show ile (i : Int) (dlen t) = true from ile_iff.2 (by rw [dlen_def]; omega), he, depN, cond_false, in21 fu t g o i x (by omega) (by omega), iadd1 (show i < 9223372036854775807 by omega)]
        exact ih k (i + 1) _ (by omega) (by omega)
  have := key (t.length + 1) fu 0 x.Owner (by omega) (by omega)
  rw [show ((0 : Nat) : Int) = 0 from rfl] at this
  rw [this]
  cases depN t x.Frame g (t.length + 1) x.Owner <;> rfl
/-- In a sorted table the grant of a frame to a grantee is one. -/
theorem nxt_eq {t : List Grant21} (hs : Srt ltG t) {y : Grant21} (hy : y ∈ t) : nxt t y.Frame y.Grantee = y.Owner := by
  unfold nxt
  cases h : t.find? (fun z => ieq z.Frame y.Frame && ieq z.Grantee y.Grantee) with
  | none =>
    have := List.find?_eq_none.1 h y hy
    rw [ieq_iff.2 rfl, ieq_iff.2 rfl] at this
    exact absurd rfl this
  | some z =>
    have h1 := List.find?_some h
    have h2 := List.mem_of_find?_eq_some h
    rw [Bool.and_eq_true] at h1
    have hsame : same ltG z y = true := by rw [same_key, h1.1, h1.2]; rfl
    obtain ⟨i, hi⟩ := List.getElem?_of_mem h2
    obtain ⟨j, hj⟩ := List.getElem?_of_mem hy
    have e1 := same_at ordG hs hi hsame
    have e2 := same_at ordG hs hj (show same ltG y y = true by simp [same, ordG.irr])
    rw [e1, ← e2, hj] at hi
    cases hi
    rfl
theorem nxt_none {t : List Grant21} {f o : Int} (h : ∀ y ∈ t, y.Grantee ≠ o) : nxt t f o = o := by
  unfold nxt
  cases hf : t.find? (fun z => ieq z.Frame f && ieq z.Grantee o) with
  | none => rfl
  | some z =>
    have h1 := List.find?_some hf
    have h2 := List.mem_of_find?_eq_some hf
    rw [Bool.and_eq_true, ieq_iff, ieq_iff] at h1
    exact absurd h1.2 (h z h2)
def Gd21 (t : List Grant21) (x : Grant21) : Prop := isP x = true ∨ ∃ y, Sup (t.filter (fun z => decide (z ≠ x))) y ∧ sup1 y x = true
theorem sup_good {t : List Grant21} {x : Grant21} : ∀ {z}, Sup t z → Sup (t.filter (fun z => decide (z ≠ x))) z ∨ Gd21 t x := by
  intro z h
  induction h with
  | base hm hp =>
    rename_i z
    by_cases e : z = x
    · subst e; exact .inr (.inl hp)
    · exact .inl (.base (List.mem_filter.2 ⟨hm, by simpa using e⟩) hp)
  | step hm _ h3 ih =>
    rename_i z y _
    rcases ih with h | h
    · by_cases e : z = x
      · subst e; exact .inr (.inr ⟨y, h, h3⟩)
      · exact .inl (.step (List.mem_filter.2 ⟨hm, by simpa using e⟩) h h3)
    · exact .inr h
theorem good_of {t : List Grant21} {x : Grant21} (h : Sup t x) : Gd21 t x := by
  rcases sup_good (x := x) h with h1 | h1
  · have := (List.mem_filter.1 h1.mem).2
    simp at this
  · exact h1
theorem dep_no {t : List Grant21} {g f : Int} (hv : validB t = true) (hg : g ≠ 4) {x : Grant21} (h : Sup (t.filter (fun x => !kyG g f x)) x) : x.Frame = f → ∀ n, depN t f g n x.Owner = false := by
  obtain ⟨v1, v2, v3, v4⟩ := valid_iff.1 hv
  induction h with
  | base hm hp =>
    rename_i x
    intro hfr n
    rw [isP_iff] at hp
    have h4 : ∀ y ∈ t, y.Grantee ≠ 4 := fun y hy => (propB_iff.1 (v1 y hy)).2.2.2.1
    rw [hp]
    induction n with
    | zero => rfl
    | succ n ih => unfold depN; rw [ieq_f.2 (Ne.symm hg), cond_false, nxt_none h4]; exact ih
  | step hm h2 h3 ih =>
    rename_i x y
    intro hfr n
    obtain ⟨s1, s2, s3⟩ := sup1_iff.1 h3
    obtain ⟨m1, m2⟩ := List.mem_filter.1 h2.mem
    have hyf : y.Frame = f := s1.trans hfr
    have hyg : ieq y.Grantee g = false := by
      unfold kyG at m2
      rw [ieq_iff.2 hyf, Bool.and_true] at m2
      simpa using m2
    cases n with
    | zero => rfl
    | succ n =>
      unfold depN
      rw [← s2, hyg, cond_false, ← hyf, nxt_eq v2 m1, hyf]
      exact ih hyf n
theorem dep_yes {t : List Grant21} {g f : Int} (hv : validB t = true) : ∀ (n : Nat) (t' : List Grant21) (x : Grant21), t'.length ≤ n → (∀ y ∈ t', y ∈ t) → Sup t' x → x.Frame = f → ieq x.Grantee g = false → Sup (t.filter (fun x => !kyG g f x)) x ∨ depN t f g n x.Owner = true
  | 0, t', x, hl, _, hs, _, _ => by
    have := List.eq_nil_of_length_eq_zero (show t'.length = 0 by omega)
    subst this
    have := hs.mem
    cases this
  | n + 1, t', x, hl, hsub, hs, hfr, hxg => by
    have hmx : x ∈ t.filter (fun x => !kyG g f x) := List.mem_filter.2 ⟨hsub x hs.mem, by unfold kyG; rw [hxg]; rfl⟩
    rcases good_of hs with hp | ⟨y, hy, h3⟩
    · exact .inl (.base hmx hp)
    · obtain ⟨s1, s2, s3⟩ := sup1_iff.1 h3
      have hyt : y ∈ t := hsub y (List.mem_filter.1 hy.mem).1
      cases hyg : ieq y.Grantee g with
      | true =>
        right
        unfold depN
        rw [← s2, hyg]
        rfl
      | false =>
        have hlen : (t'.filter (fun z => decide (z ≠ x))).length < t'.length := by
          rw [List.length_filter_lt_length_iff_exists]
          exact ⟨x, hs.mem, by simp⟩
        have hyf : y.Frame = f := s1.trans hfr
        rcases dep_yes hv n (t'.filter (fun z => decide (z ≠ x))) y (by omega) (fun z hz => hsub z (List.mem_filter.1 hz).1) hy hyf hyg with h | h
        · exact .inl (.step hmx h h3)
        · right
          unfold depN
          rw [← s2, hyg, cond_false, ← hyf, nxt_eq (valid_iff.1 hv).2.1 hyt, hyf]
          exact h
theorem sup_other {t : List Grant21} {g f : Int} {x : Grant21} (h : Sup t x) : x.Frame ≠ f → Sup (t.filter (fun x => !kyG g f x)) x := by
  have hmem : ∀ x ∈ t, x.Frame ≠ f → x ∈ t.filter (fun x => !kyG g f x) := fun x hx hne => List.mem_filter.2 ⟨hx, by unfold kyG; rw [ieq_f.2 hne, Bool.and_false]; rfl⟩
  induction h with
  | base hm hp => exact fun hne => .base (hmem _ hm hne) hp
  | step hm _ h3 ih => exact fun hne => .step (hmem _ hm hne) (ih (fun e => hne ((sup1_iff.1 h3).1.symm.trans e))) h3
def leftB (t : List Grant21) (g f : Int) (x : Grant21) : Bool := !ieq x.Frame f || (!ieq x.Grantee g && !depN t x.Frame g (t.length + 1) x.Owner)
theorem left_eq {t : List Grant21} {g f : Int} (hv : validB t = true) (hk : t.any (kyG g f) = true) : t.filter (leftB t g f) = withoutL t (kyG g f) := by
  obtain ⟨v1, v2, v3, v4⟩ := valid_iff.1 hv
  unfold withoutL
  rw [List.filter_filter]
  apply List.filter_congr
  intro x hx
  obtain ⟨w, hw, hwk⟩ := List.any_eq_true.1 hk
  unfold kyG at hwk
  rw [Bool.and_eq_true, ieq_iff, ieq_iff] at hwk
  have hg4 : g ≠ 4 := by have := (propB_iff.1 (v1 w hw)).2.2.2.1; rw [hwk.1] at this; exact this
  rw [Bool.eq_iff_iff, Bool.and_eq_true, supB_iff]
  unfold leftB
  rw [Bool.or_eq_true, Bool.and_eq_true, Bool.not_eq_true', Bool.not_eq_true', Bool.not_eq_true', Bool.not_eq_true']
  by_cases hfr : x.Frame = f
  · rw [ieq_iff.2 hfr]
    unfold kyG
    rw [ieq_iff.2 hfr, Bool.and_true]
    constructor
    · rintro (h | ⟨h1, h2⟩)
      · cases h
      · refine ⟨?_, h1⟩
        rcases dep_yes hv (t.length + 1) t x (by omega) (fun _ h => h) (v4 x hx) hfr h1 with h | h
        · exact h
        · rw [hfr, h] at h2; cases h2
    · rintro ⟨h1, h2⟩
      exact .inr ⟨h2, by rw [hfr]; exact dep_no hv hg4 h1 hfr _⟩
  · rw [ieq_f.2 hfr]
    unfold kyG
    rw [ieq_f.2 hfr, Bool.and_false]
    exact ⟨fun _ => ⟨sup_other (v4 x hx) hfr, rfl⟩, fun _ => .inl rfl⟩
theorem loop5 (fu : Nat) (t a : List Grant21) (g f : Int) (hf : t.length + 2 < fu) (hl : t.length < 1000000) :
    iter (t5_3 fu) fu (t, (g, (f, (a, ((), ((dlen t), (0, ([], ())))))))) = some (.inl (g, (f, (a, ((), (t.filter (leftB t g f), ())))))) := by
  have := iter_fold (step := t5_3 fu) (fu := fu) t (fun j acc => (t, (g, (f, (a, ((), ((dlen t), ((j : Int), (acc, ())))))))))
    (fun x acc => if leftB t g f x then acc ++ [x] else acc) (fun i acc => acc.length ≤ i) (fun acc => .inl (g, (f, (a, ((), (acc, ())))))) [] (by omega) (Nat.le_refl _)
    (fun i x acc hi hI => by
      have h1 := getElem?_lt hi
      have hda : dapp 32 acc [x] = some (acc ++ [x]) := dapp_ok (by simp; omega) (by simp; omega)
      unfold leftB
      simp only [t5_3, dlen_def, dat_nat, hi, ilt_len h1, iadd1 (show i < 9223372036854775807 by omega), gr_eta, hda, dep21 fu t g x hf (by omega)]
      cases ieq x.Frame f <;> cases ieq x.Grantee g <;> cases depN t x.Frame g (t.length + 1) x.Owner <;> simp <;> omega)
    (fun acc hI => by simp only [t5_3, dlen_def, ilt_end])
  rw [show ((0 : Nat) : Int) = 0 from rfl] at this
  rw [this]
  have hff := foldl_filter_snoc (leftB t g f) t []
  simp only [hff, List.nil_append]
theorem law5_at (fu : Nat) (hf : 1000 < fu) (ha : s11 fu = some (true, ())) (t : List Grant21) (g f : Int) : s5 fu t g f = some (true, ()) := by
  unfold s5
  rw [ha]
  simp only
  cases h : ilt 60 (dlen t) with
  | true => rfl
  | false =>
    rw [ilt_f, dlen_def] at h
    simp only [to21 fu t (show t.length < fu by omega) (by omega), revoke21 fu t g f (by omega) (by omega)]
    rcases revF_cases t g f with ⟨c, hc, he⟩ | ⟨he, hv, hk⟩
    · simp only [he, ieq_f.2 hc]
      rfl
    · have hl := withoutL_len t (kyG g f)
      have hleft := left_eq hv hk
      have hrg : ∀ y ∈ withoutL t (kyG g f), rg y.Rights := fun y hy => prop_rg ((valid_iff.1 (withoutL_valid (q := kyG g f) hv)).1 y hy)
      have hno : ∀ r, hasB (withoutL t (kyG g f)) g f r = false := fun r => by
        cases hh : hasB (withoutL t (kyG g f)) g f r with
        | false => rfl
        | true =>
          obtain ⟨_, x, hx, h1, h2, _⟩ := hasB_iff.1 hh
          have := (List.mem_filter.1 (mem_withoutL.1 hx).mem).2
          unfold kyG at this
          rw [ieq_iff.2 h1, ieq_iff.2 h2] at this
          cases this
      simp only [he, show ieq 0 0 = true from rfl, loop5 fu t _ g f (by omega) (by omega), hleft, from21 fu (withoutL t (kyG g f)) (by omega) (by omega), same21 fu (withoutL t (kyG g f)) (withoutL t (kyG g f)) (by omega) (by omega), decide_true,
        has21 fu (withoutL t (kyG g f)) g f _ hrg (by omega) (by omega), hno]
/-- GrantsTakes is true. -/
theorem law5 (a0 : List Grant21) (a1 : Int) (a2 : Int) (_ : WfA A5 (a0, a1, a2, ())) : s5 FU a0 a1 a2 = some (true, ()) := law5_at FU (by decide) aw21 _ _ _
end Go.G
