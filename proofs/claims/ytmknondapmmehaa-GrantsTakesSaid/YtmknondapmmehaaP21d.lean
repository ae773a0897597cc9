import Derived.Test.YtmknondapmmehaaP21c
set_option linter.unusedVariables false
set_option linter.unusedSimpArgs false
namespace Go.G
set_option maxRecDepth 100000
set_option maxHeartbeats 2000000
def adjL (l : List Grant21) : Bool := allI (fun i x => adjB ltG propB (l.take i) x) l 0
noncomputable def validB (l : List Grant21) : Bool := adjL l && (ile (dlen l) 200 && l.all (supB l))
theorem valid_iff {l : List Grant21} : validB l = true ↔ (∀ x ∈ l, propB x = true) ∧ Srt ltG l ∧ l.length ≤ 200 ∧ ∀ x ∈ l, Sup l x := by
  unfold validB adjL
  rw [Bool.and_eq_true, Bool.and_eq_true, adj_iff ordG, ile_iff, dlen_def, List.all_eq_true]
  simp only [supB_iff]
  constructor
  · rintro ⟨⟨h1, h2⟩, h3, h4⟩; exact ⟨h1, h2, by omega, h4⟩
  · rintro ⟨h1, h2, h3, h4⟩; exact ⟨⟨h1, h2⟩, by omega, h4⟩
theorem prop_rg {x : Grant21} (h : propB x = true) : rg x.Rights := by
  have := propB_iff.1 h
  unfold rg
  omega
theorem adjL_ok {l : List Grant21} (h : adjL l = true) : ∀ x ∈ l, propB x = true := ((adj_iff ordG).1 h).1
theorem cont38 (fu : Nat) (l : List Bool) (hf : l.length < fu) (hl : l.length < 1000000000) : s38 fu l false = some (l.any (fun b => !b), ()) := by
  unfold s38 s54
  rcases iter_first (step := t54_0 fu) (fu := fu) l (fun j => (l, (false, ((dlen l), ((j : Int), ()))))) (fun b => !b) (fun j _ => .inr (.inl ((j : Int), ()))) (.inl ()) hf
    (fun i b hi hq => by
      have h1 := getElem?_lt hi
      cases b with
      | false => cases hq
      | true => simp only [t54_0, dlen_def, dat_nat, hi, ilt_len h1, iadd1 (show i < 9223372036854775807 by omega)]; rfl)
    (fun i b hi hq => by
      have h1 := getElem?_lt hi
      cases b with
      | true => cases hq
      | false => simp only [t54_0, dlen_def, dat_nat, hi, ilt_len h1]; rfl)
    (by simp only [t54_0, dlen_def, ilt_end]) with ⟨i, b, h1, h2, h3, h4⟩ | ⟨h1, h2⟩
  · rw [show ((0 : Nat) : Int) = 0 from rfl] at h4
    rw [h4]
    have : l.any (fun b => !b) = true := List.any_eq_true.2 ⟨b, List.mem_of_getElem? h1, h2⟩
    rw [this]
    simp only [ile_iff.2 (show (0 : Int) ≤ (i : Int) by omega)]
  · rw [show ((0 : Nat) : Int) = 0 from rfl] at h2
    rw [h2]
    have : l.any (fun b => !b) = false := by
      rw [List.any_eq_false]
      intro b hb
      simpa using h1 b hb
    rw [this]
    rfl
theorem all_map (l : List Grant21) (q : Grant21 → Bool) : (l.map q).any (fun b => !b) = !l.all q := by
  induction l with
  | nil => rfl
  | cons x l ih => rw [List.map_cons, List.any_cons, ih, List.all_cons, Bool.not_and]
theorem filter_all (l : List Grant21) (q : Grant21 → Bool) : ieq (dlen (l.filter q)) (dlen l) = l.all q := by
  rw [Bool.eq_iff_iff, ieq_iff, dlen_def, dlen_def, List.all_eq_true]
  constructor
  · intro h
    have : l.filter q = l := List.filter_sublist.eq_of_length (by omega)
    exact List.filter_eq_self.1 this
  · intro h
    rw [List.filter_eq_self.2 h]
theorem valid21 (fu : Nat) (l : List Grant21) (hf : 2 * l.length + 3 < fu) (hl : l.length < 1000000000) : s17 fu l = some (validB l, ()) := by
  unfold s17
  have := iter_walk (step := t17_0 fu) (fu := fu) (ε := ((List Grant21) × Unit) ⊕ ((Bool × Unit) ⊕ Empty)) l (fun j (_ : Unit) => (l, (l, (dlen l, ((j : Int), ())))))
    (fun i x _ => if adjB ltG propB (l.take i) x then .inl () else .inr (.inr (.inl (false, ())))) (fun _ _ => True) (fun _ => .inl (l, ())) () (by omega) trivial
    (fun i x _ hi _ => by
      have h1 := getElem?_lt hi
      have hid := iadd1 (show i < 9223372036854775807 by omega)
      simp only [t17_0, dlen_def l, dat_nat, hi, ilt_len h1, prop21]
      cases i with
      | zero =>
        have hz : ilt 0 ((0 : Nat) : Int) = false := rfl
        have hok : adjB ltG propB (l.take 0) x = propB x := by simp [adjB]
        rw [hok]
        simp only [hz, hid]
        cases propB x <;> first | rfl | exact ⟨rfl, trivial⟩
      | succ i =>
        have hz : ilt 0 ((i + 1 : Nat) : Int) = true := ilt_iff.2 (by omega)
        obtain ⟨p, p1, p2⟩ := getD_idx (l := l) (i := i + 1) (by omega) (by omega)
        have hs : isub .i64 ((i + 1 : Nat) : Int) 1 = ((i : Nat) : Int) := by rw [isub64 (by omega)]; omega
        simp only [Nat.add_sub_cancel] at p1
        have hok : adjB ltG propB (l.take (i + 1)) x = (propB x && ltG p x) := by simp [adjB, p2]
        rw [hok]
        simp only [hz, hs, dat_nat, p1, hid, ord21 fu (by omega), ord_ge]
        cases propB x <;> cases ltG p x <;> first | rfl | exact ⟨rfl, trivial⟩)
    (fun _ _ => by simp only [t17_0, dlen_def, ilt_end])
  rw [show ((0 : Nat) : Int) = 0 from rfl] at this
  rw [this]
  rcases walk_check (ε := ((List Grant21) × Unit) ⊕ ((Bool × Unit) ⊕ Empty)) (fun i x => adjB ltG propB (l.take i) x) (fun _ _ => .inr (.inl (false, ()))) l 0 with ⟨h1, h2⟩ | ⟨h1, i, x, h2⟩
  · rw [h2]
    have ha : adjL l = true := h1
    simp only [validB, ha, Bool.true_and]
    cases ile (dlen l) 200 with
    | false => rfl
    | true =>
      simp only [sup34 fu l (fun y hy => prop_rg (adjL_ok ha y hy)) (by omega) hl, cont38 fu (l.map (supB l)) (by rw [List.length_map]; omega) (by rw [List.length_map]; omega), all_map]
      cases l.all (supB l) <;> rfl
  · rw [h2]
    have : adjL l = false := h1
    simp only [validB, this, Bool.false_and]
theorem validR21 (fu : Nat) (l : List Grant21) (hf : 2 * l.length + 3 < fu) (hl : l.length < 1000000000) : s18 fu l = some (validB l, ()) := by
  unfold s18
  have := iter_walk (step := t18_0 fu) (fu := fu) (ε := ((List Grant21) × Unit) ⊕ ((Bool × Unit) ⊕ Empty)) l (fun j (_ : Unit) => (l, ((j : Int), ())))
    (fun i x _ => if adjB ltG propB (l.take i) x then .inl () else .inr (.inr (.inl (false, ())))) (fun _ _ => True) (fun _ => .inl (l, ())) () (by omega) trivial
    (fun i x _ hi _ => by
      have h1 := getElem?_lt hi
      have hid := iadd1 (show i < 9223372036854775807 by omega)
      simp only [t18_0, dlen_def l, dat_nat, hi, ilt_len h1, propR21]
      cases i with
      | zero =>
        have hz : ilt 0 ((0 : Nat) : Int) = false := rfl
        have hok : adjB ltG propB (l.take 0) x = propB x := by simp [adjB]
        rw [hok]
        simp only [hz, hid]
        cases propB x <;> first | rfl | exact ⟨rfl, trivial⟩
      | succ i =>
        have hz : ilt 0 ((i + 1 : Nat) : Int) = true := ilt_iff.2 (by omega)
        obtain ⟨p, p1, p2⟩ := getD_idx (l := l) (i := i + 1) (by omega) (by omega)
        have hs : isub .i64 ((i + 1 : Nat) : Int) 1 = ((i : Nat) : Int) := by rw [isub64 (by omega)]; omega
        simp only [Nat.add_sub_cancel] at p1
        have hok : adjB ltG propB (l.take (i + 1)) x = (propB x && ltG p x) := by simp [adjB, p2]
        rw [hok]
        simp only [hz, hs, dat_nat, p1, hi, hid, bef21]
        cases propB x <;> cases ltG p x <;> first | rfl | exact ⟨rfl, trivial⟩)
    (fun _ _ => by simp only [t18_0, dlen_def, ilt_end])
  rw [show ((0 : Nat) : Int) = 0 from rfl] at this
  rw [this]
  rcases walk_check (ε := ((List Grant21) × Unit) ⊕ ((Bool × Unit) ⊕ Empty)) (fun i x => adjB ltG propB (l.take i) x) (fun _ _ => .inr (.inl (false, ()))) l 0 with ⟨h1, h2⟩ | ⟨h1, i, x, h2⟩
  · rw [h2]
    have ha : adjL l = true := h1
    simp only [validB, ha, Bool.true_and]
    cases ile (dlen l) 200 with
    | false => rfl
    | true => simp only [sup39 fu l (by omega) hl, filter_all, Bool.true_and]
  · rw [h2]
    have : adjL l = false := h1
    simp only [validB, this, Bool.false_and]
/-- The grant of a frame to a grantee. -/
def kyG (g f : Int) (x : Grant21) : Bool := ieq x.Grantee g && ieq x.Frame f
theorem find21 (fu : Nat) (l : List Grant21) (g f : Int) (hf : l.length < fu) (hl : l.length < 1000000000) : s36 fu l g f = some (l.any (kyG g f), ()) := by
  unfold s36
  have := iter_any (step := t36_0 fu) (fu := fu) l (fun j => (l, (g, (f, ((j : Int), ()))))) (kyG g f) (.inr (.inl (true, ()))) (.inl ()) hf
    (fun i x hi hx => by
      have h1 := getElem?_lt hi
      unfold kyG at hx
      simp only [t36_0, dlen_def, dat_nat, hi, ilt_len h1, iadd1 (show i < 9223372036854775807 by omega)]
      cases e1 : ieq x.Grantee g <;> cases e2 : ieq x.Frame f <;> simp_all)
    (fun i x hi hx => by
      have h1 := getElem?_lt hi
      unfold kyG at hx
      simp only [t36_0, dlen_def, dat_nat, hi, ilt_len h1]
      cases e1 : ieq x.Grantee g <;> cases e2 : ieq x.Frame f <;> simp_all)
    (by simp only [t36_0, dlen_def, ilt_end])
  rw [show ((0 : Nat) : Int) = 0 from rfl] at this
  rw [this]
  cases l.any (kyG g f) <;> rfl
def hasB (l : List Grant21) (g f r : Int) : Bool := rightB r && l.any (fun x => kyG g f x && incB x.Rights r)
theorem hasB_iff {l : List Grant21} {g f r : Int} : hasB l g f r = true ↔ (1 ≤ r ∧ r ≤ 3) ∧ ∃ x ∈ l, x.Grantee = g ∧ x.Frame = f ∧ incB x.Rights r = true := by
  unfold hasB rightB kyG
  simp only [Bool.and_eq_true, List.any_eq_true, ile_iff, ieq_iff]
  constructor
  · rintro ⟨h, x, hx, ⟨h1, h2⟩, h3⟩; exact ⟨h, x, hx, h1, h2, h3⟩
  · rintro ⟨h, x, hx, h1, h2, h3⟩; exact ⟨h, x, hx, ⟨h1, h2⟩, h3⟩
theorem has21 (fu : Nat) (l : List Grant21) (g f r : Int) (hr : ∀ y ∈ l, rg y.Rights) (hf : l.length < fu) (hl : l.length < 1000000000) : s20 fu l g f r = some (hasB l g f r, ()) := by
  unfold s20 hasB
  rw [right21]
  cases hrr : rightB r with
  | false => rfl
  | true =>
    simp only [Bool.true_and]
    rcases iter_first (step := t20_1 fu) (fu := fu) l (fun j => (l, ((), ((dlen l), ((j : Int), ((r, ()), ((f, ()), ((g, ()), ())))))))) (fun x => kyG g f x && incB x.Rights r) (fun j _ => .inr (.inl ((j : Int), ((r, ()), ((f, ()), ((g, ()), ())))))) (.inl ((r, ()), ((f, ()), ((g, ()), ())))) hf
      (fun i x hi hq => by
        have h1 := getElem?_lt hi
        unfold kyG at hq
        simp only [t20_1, dlen_def, dat_nat, hi, ilt_len h1, iadd1 (show i < 9223372036854775807 by omega), inc21 fu (b := r) (hr x (List.mem_of_getElem? hi))]
        cases e1 : ieq x.Grantee g <;> cases e2 : ieq x.Frame f <;> cases e3 : incB x.Rights r <;> simp_all)
      (fun i x hi hq => by
        have h1 := getElem?_lt hi
        unfold kyG at hq
        simp only [t20_1, dlen_def, dat_nat, hi, ilt_len h1, inc21 fu (b := r) (hr x (List.mem_of_getElem? hi))]
        cases e1 : ieq x.Grantee g <;> cases e2 : ieq x.Frame f <;> cases e3 : incB x.Rights r <;> simp_all)
      (by simp only [t20_1, dlen_def, ilt_end]) with ⟨i, b, h1, h2, h3, h4⟩ | ⟨h1, h2⟩
    · rw [show ((0 : Nat) : Int) = 0 from rfl] at h4
      rw [h4]
      have : l.any (fun x => kyG g f x && incB x.Rights r) = true := List.any_eq_true.2 ⟨b, List.mem_of_getElem? h1, h2⟩
      rw [this]
      simp only [ile_iff.2 (show (0 : Int) ≤ (i : Int) by omega)]
    · rw [show ((0 : Nat) : Int) = 0 from rfl] at h2
      rw [h2]
      have : l.any (fun x => kyG g f x && incB x.Rights r) = false := by
        rw [List.any_eq_false]
        intro b hb
        simpa using h1 b hb
      rw [this]
      rfl
theorem hasR21 (fu : Nat) (l : List Grant21) (g f r : Int) (hf : l.length < fu) (hl : l.length < 1000000000) : s25 fu l g f r = some (hasB l g f r, ()) := by
  unfold s25
  have := iter_any (step := t25_0 fu) (fu := fu) l (fun j => (l, (g, (f, (r, ((j : Int), ())))))) (fun x => rightB r && (kyG g f x && incB x.Rights r)) (.inr (.inl (true, ()))) (.inl ()) hf
    (fun i x hi hx => by
      have h1 := getElem?_lt hi
      unfold kyG rightB at hx
      simp only [t25_0, dlen_def, dat_nat, hi, ilt_len h1, iadd1 (show i < 9223372036854775807 by omega), incR21]
      cases e1 : ieq x.Grantee g <;> cases e2 : ieq x.Frame f <;> cases e3 : ile 1 r <;> cases e4 : ile r 3 <;> cases e5 : incB x.Rights r <;> simp_all)
    (fun i x hi hx => by
      have h1 := getElem?_lt hi
      unfold kyG rightB at hx
      simp only [t25_0, dlen_def, dat_nat, hi, ilt_len h1, incR21]
      cases e1 : ieq x.Grantee g <;> cases e2 : ieq x.Frame f <;> cases e3 : ile 1 r <;> cases e4 : ile r 3 <;> cases e5 : incB x.Rights r <;> simp_all)
    (by simp only [t25_0, dlen_def, ilt_end])
  rw [show ((0 : Nat) : Int) = 0 from rfl] at this
  rw [this]
  unfold hasB
  cases hrr : rightB r with
  | false =>
    have : l.any (fun x => false && (kyG g f x && incB x.Rights r)) = false := by rw [List.any_eq_false]; intro _ _; simp
    rw [this]
    rfl
  | true =>
    simp only [Bool.true_and]
    cases l.any (fun x => kyG g f x && incB x.Rights r) <;> rfl
def ofL (l : List Grant21) (g : Int) : List Int := (l.filter (fun x => ieq x.Grantee g)).map (·.Frame)
noncomputable def ofF (l : List Grant21) (g : Int) : List Int := bif validB l then ofL l g else []
theorem ofL_fold (g : Int) : ∀ (l : List Grant21) (acc : List Int), l.foldl (fun acc x => if ieq x.Grantee g then acc ++ [x.Frame] else acc) acc = acc ++ ofL l g
  | [], acc => by simp [ofL]
  | x :: l, acc => by
    rw [List.foldl_cons, ofL_fold g l]
    unfold ofL
    rw [List.filter_cons]
    cases ieq x.Grantee g <;> simp
theorem of21 (fu : Nat) (l : List Grant21) (g : Int) (hf : 2 * l.length + 3 < fu) (hl : l.length < 1000000000) : s27 fu l g = some (ofF l g, ()) := by
  unfold s27 ofF
  rw [valid21 fu l hf hl]
  cases hv : validB l with
  | false => rfl
  | true =>
    have := iter_fold (step := t27_1 fu) (fu := fu) l (fun j acc => (g, ((), (l, ((dlen l), ((j : Int), (acc, ())))))))
      (fun x acc => if ieq x.Grantee g then acc ++ [x.Frame] else acc) (fun i acc => acc.length ≤ i) (fun acc => .inl ((), (acc, ()))) [] (by omega) (Nat.le_refl _)
      (fun i x acc hi hI => by
        have h1 := getElem?_lt hi
        have hda : dapp 8 acc [x.Frame] = some (acc ++ [x.Frame]) := dapp_ok (by simp; omega) (by simp; omega)
        simp only [t27_1, dlen_def, dat_nat, hi, ilt_len h1, iadd1 (show i < 9223372036854775807 by omega), hda]
        cases ieq x.Grantee g <;> simp <;> omega)
      (fun acc hI => by simp only [t27_1, dlen_def, ilt_end])
    rw [show ((0 : Nat) : Int) = 0 from rfl] at this
    simp only [this, ofL_fold, List.nil_append, cond_true]
theorem ofR21 (fu : Nat) (l : List Grant21) (g : Int) (hf : 2 * l.length + 3 < fu) (hl : l.length < 1000000000) : s28 fu l g = some (ofF l g, ()) := by
  unfold s28 ofF
  cases hv : validB l with
  | true =>
    have := iter_fold (step := t28_0 fu) (fu := fu) l (fun j acc => (l, (g, ((), ((j : Int), (acc, ()))))))
      (fun x acc => if ieq x.Grantee g then acc ++ [x.Frame] else acc) (fun i acc => acc.length ≤ i) (fun acc => .inl ((), (acc, ()))) [] (by omega) (Nat.le_refl _)
      (fun i x acc hi hI => by
        have h1 := getElem?_lt hi
        have hda : dapp 8 acc [x.Frame] = some (acc ++ [x.Frame]) := dapp_ok (by simp; omega) (by simp; omega)
        simp only [t28_0, dlen_def, dat_nat, hi, ilt_len h1, iadd1 (show i < 9223372036854775807 by omega), hda, validR21 fu l hf hl, hv]
        cases ieq x.Grantee g <;> simp <;> omega)
      (fun acc hI => by simp only [t28_0, dlen_def, ilt_end])
    rw [show ((0 : Nat) : Int) = 0 from rfl] at this
    simp only [this, ofL_fold, List.nil_append, cond_true]
  | false =>
    obtain ⟨k, rfl⟩ : ∃ k, fu = k + 1 := ⟨fu - 1, by omega⟩
    cases l with
    | nil => rfl
    | cons x l =>
      have hz : ilt 0 (dlen (x :: l)) = true := ilt_iff.2 (by rw [dlen_def, List.length_cons]; omega)
      simp only [iter, t28_0, hz, validR21 (k + 1) (x :: l) hf hl, hv, cond_false]
theorem ints21 (fu : Nat) (l m : List Int) (hf : l.length < fu) (hl : l.length < 1000000000) : s26 fu l m = some (decide (l = m), ()) := by
  unfold s26
  cases hq : ieq (dlen l) (dlen m) with
  | false =>
    rw [ieq_f, dlen_def, dlen_def] at hq
    have : l ≠ m := by rintro rfl; exact hq rfl
    simp [this]
  | true =>
    rw [ieq_iff, dlen_def, dlen_def] at hq
    have hq : l.length = m.length := by omega
    have hz : (l.zip m).length = l.length := by simp [hq]
    have := iter_any (step := t26_0 fu) (fu := fu) (l.zip m) (fun j => (l, (m, ((j : Int), ())))) (fun x => !decide (x.1 = x.2)) (.inr (.inl (false, ()))) (.inl ()) (by omega)
      (fun i x hi hx => by
        have h1 := getElem?_lt hi
        obtain ⟨k1, k2⟩ := zip_get i x hi
        rw [hz] at h1
        have hx : ieq x.1 x.2 = true := by simpa [ieq] using hx
        simp only [t26_0, dlen_def, dat_nat, k1, k2, ilt_len h1, iadd1 (show i < 9223372036854775807 by omega), hx])
      (fun i x hi hx => by
        have h1 := getElem?_lt hi
        obtain ⟨k1, k2⟩ := zip_get i x hi
        rw [hz] at h1
        have hx : ieq x.1 x.2 = false := by simpa [ieq] using hx
        simp only [t26_0, dlen_def, dat_nat, k1, k2, ilt_len h1, hx])
      (by simp only [t26_0, dlen_def, hz, ilt_end])
    rw [show ((0 : Nat) : Int) = 0 from rfl, list_eq_iff_all hq] at this
    simp only [this]
    by_cases h : l = m <;> simp [h]
end Go.G
