import Derived.Test.YtffmffcnfhcgbaaOn22
import Derived.Test.YtffmffcnfhcgbaaGE5
set_option linter.unusedVariables false
set_option linter.unusedSimpArgs false
namespace Go.G
set_option maxRecDepth 100000

theorem to22 (fu : Nat) (l : List Timer22) (hf : l.length < fu) (hl : l.length < 1000000000) : s13 fu l = some (l, ()) := by
  unfold s13
  have := iter_fold (step := t13_0 fu) (fu := fu) l (fun j acc => (l, ((), (dlen l, ((j : Int), (acc, ()))))))
    (fun x acc => acc ++ [x]) (fun i acc => acc.length = i) (fun acc => .inl ((), (acc, ()))) [] hf rfl
    (fun i x acc hi hI => by
      have h1 := getElem?_lt hi
      simp only [t13_0, dlen_def, dat_nat, hi, ilt_len h1, iadd1 (show i < 9223372036854775807 by omega)]
      rw [dapp_ok (by simp; omega) (by simp; omega)]
      exact ⟨rfl, by simp [hI]⟩)
    (fun acc hI => by simp only [t13_0, dlen_def, ilt_end])
  rw [show ((0 : Nat) : Int) = 0 from rfl] at this
  rw [this, foldl_map_snoc (fun x => x)]
  simp
theorem from22 (fu : Nat) (l : List Timer22) (hf : l.length < fu) (hl : l.length < 1000000000) : s15 fu l = some (l, ()) := to22 fu l hf hl
theorem tm_eq (x y : Timer22) : (ieq x.Owner y.Owner && (ieq x.Tag y.Tag && ieq x.Due y.Due)) = decide (x = y) := by
  obtain ⟨a, b, c⟩ := x
  obtain ⟨a', b', c'⟩ := y
  simp [ieq, Timer22.mk.injEq, Bool.decide_and]
theorem same22 (fu : Nat) (l m : List Timer22) (hf : l.length < fu) (hl : l.length < 1000000000) : s14 fu l m = some (decide (l = m), ()) := by
  unfold s14
  cases hq : ieq (dlen l) (dlen m) with
  | false =>
    rw [ieq_f, dlen_def, dlen_def] at hq
    have : l ≠ m := by rintro rfl; exact hq rfl
    simp [this]
  | true =>
    rw [ieq_iff, dlen_def, dlen_def] at hq
    have hq : l.length = m.length := by omega
    have hz : (l.zip m).length = l.length := by simp [hq]
    have := iter_any (step := t14_0 fu) (fu := fu) (l.zip m) (fun j => (l, (m, ((j : Int), ())))) (fun x => !decide (x.1 = x.2)) (.inr (.inl (false, ()))) (.inl ()) (by omega)
      (fun i x hi hx => by
        have h1 := getElem?_lt hi
        obtain ⟨k1, k2⟩ := zip_get i x hi
        rw [hz] at h1
        rw [← tm_eq] at hx
        simp only [t14_0, dlen_def, dat_nat, k1, k2, ilt_len h1, iadd1 (show i < 9223372036854775807 by omega)]
        cases e1 : ieq x.1.Owner x.2.Owner <;> cases e2 : ieq x.1.Tag x.2.Tag <;> cases e3 : ieq x.1.Due x.2.Due <;> simp_all)
      (fun i x hi hx => by
        have h1 := getElem?_lt hi
        obtain ⟨k1, k2⟩ := zip_get i x hi
        rw [hz] at h1
        rw [← tm_eq] at hx
        simp only [t14_0, dlen_def, dat_nat, k1, k2, ilt_len h1]
        cases e1 : ieq x.1.Owner x.2.Owner <;> cases e2 : ieq x.1.Tag x.2.Tag <;> cases e3 : ieq x.1.Due x.2.Due <;> simp_all)
      (by simp only [t14_0, dlen_def, hz, ilt_end])
    rw [show ((0 : Nat) : Int) = 0 from rfl, list_eq_iff_all hq] at this
    simp only [this]
    by_cases h : l = m <;> simp [h]

def cmpI (a b : Int) : Int := if a < b then -1 else if b < a then 1 else 0
theorem cmp22 (fu : Nat) (a b : Int) : s29 fu a b = some (cmpI a b, ()) := by
  unfold s29 s43 cmpI
  have h1 : ieq a a = true := ieq_iff.2 rfl
  have h2 : ieq b b = true := ieq_iff.2 rfl
  simp only [h1, h2]
  by_cases h3 : a < b
  · rw [ilt_iff.2 h3, if_pos h3]
  · rw [ilt_f.2 (by omega), if_neg h3]
    by_cases h4 : b < a
    · simp [ilt_iff.2 h4, if_pos h4]
    · simp [ilt_f.2 (show a ≤ b by omega), if_neg h4]
def orI (a b : Int) : Int := if a = 0 then b else a
theorem or2 (fu : Nat) (hf : 3 < fu) (a b : Int) : s28 fu [a, b] = some (orI a b, ()) := by
  obtain ⟨k, rfl⟩ : ∃ k, fu = k + 4 := ⟨fu - 4, by omega⟩
  unfold s28 orI
  have e0 : ilt 0 (dlen [a, b]) = true := rfl
  have e1 : ilt 1 (dlen [a, b]) = true := rfl
  have e2 : ilt 2 (dlen [a, b]) = false := rfl
  have d0 : dat [a, b] 0 = some a := rfl
  have d1 : dat [a, b] 1 = some b := rfl
  have i1 : iadd .i64 0 1 = 1 := rfl
  have i2 : iadd .i64 1 1 = 2 := rfl
  by_cases ha : a = 0
  · subst ha
    by_cases hb : b = 0
    · subst hb; rfl
    · simp [iter, t28_0, e0, e1, d0, d1, i1, i2, ieq, hb]
  · simp [iter, t28_0, e0, d0, ieq, ha]
/-- The order by owners and tags. -/
def ltT (a b : Timer22) : Bool := ilt a.Owner b.Owner || (ieq a.Owner b.Owner && ilt a.Tag b.Tag)
theorem ltT_iff {a b : Timer22} : ltT a b = true ↔ a.Owner < b.Owner ∨ (a.Owner = b.Owner ∧ a.Tag < b.Tag) := by
  unfold ltT
  rw [Bool.or_eq_true, Bool.and_eq_true, ilt_iff, ieq_iff, ilt_iff]
theorem ltT_f {a b : Timer22} : ltT a b = false ↔ ¬ (a.Owner < b.Owner ∨ (a.Owner = b.Owner ∧ a.Tag < b.Tag)) := by
  rw [← ltT_iff]; simp
theorem ordT : Ordr ltT := ⟨fun {a b} h => by rw [ltT_iff] at h; rw [ltT_f]; omega, fun {a b c} h1 h2 => by rw [ltT_f] at *; omega⟩
def ordI (a b : Timer22) : Int := orI (cmpI a.Owner b.Owner) (cmpI a.Tag b.Tag)
theorem ord22 (fu : Nat) (hf : 3 < fu) (a b : Timer22) : s30 fu a.Owner a.Tag a.Due b.Owner b.Tag b.Due = some (ordI a b, ()) := by
  unfold s30
  simp only [cmp22, or2 fu hf]
  rfl
theorem ordI_cases (a b : Timer22) : (ordI a b = -1 ∧ ltT a b = true) ∨ (ordI a b = 1 ∧ ltT b a = true) ∨ (ordI a b = 0 ∧ ltT a b = false ∧ ltT b a = false) := by
  unfold ordI orI cmpI
  rw [ltT_iff, ltT_iff, ltT_f, ltT_f]
  split <;> split <;> simp <;> omega
theorem ord_lt (a b : Timer22) : ilt (ordI a b) 0 = ltT a b := by
  rcases ordI_cases a b with ⟨h, h1⟩ | ⟨h, h1⟩ | ⟨h, h1, h2⟩
  · rw [h, h1]; rfl
  · rw [h, ordT.asym h1]; rfl
  · rw [h, h1]; rfl
theorem ord_ge (a b : Timer22) : ile 0 (ordI a b) = !ltT a b := by
  rcases ordI_cases a b with ⟨h, h1⟩ | ⟨h, h1⟩ | ⟨h, h1, h2⟩
  · rw [h, h1]; rfl
  · rw [h, ordT.asym h1]; rfl
  · rw [h, h1]; rfl
theorem ord_eq (a b : Timer22) : ieq (ordI a b) 0 = same ltT a b := by
  unfold same
  rcases ordI_cases a b with ⟨h, h1⟩ | ⟨h, h1⟩ | ⟨h, h1, h2⟩
  · rw [h, h1]; rfl
  · rw [h, ordT.asym h1, h1]; rfl
  · rw [h, h1, h2]; rfl
def compB (n : Int) : Bool := ile 1 n && ile n 10
theorem comp22 (fu : Nat) (n : Int) : s38 fu n = some (compB n, ()) := by
  unfold s38 compB
  cases ile 1 n <;> rfl
theorem comp22' (fu : Nat) (n : Int) : s36 fu n = some (compB n, ()) := comp22 fu n
theorem bef22 (fu : Nat) (a b : Timer22) : s37 fu a.Owner a.Tag a.Due b.Owner b.Tag b.Due = some (ltT a b, ()) := by
  unfold s37 ltT
  cases ilt a.Owner b.Owner <;> cases ieq a.Owner b.Owner <;> rfl
def okT (x : Timer22) : Bool := compB x.Owner && (!ilt x.Due 0 && !ilt 2199023255552 x.Due)
def adjL (l : List Timer22) : Bool := allI (fun i x => adjB ltT okT (l.take i) x) l 0
def validB (l : List Timer22) : Bool := adjL l && ile (dlen l) 100
theorem valid_iff {l : List Timer22} : validB l = true ↔ (∀ x ∈ l, okT x = true) ∧ Srt ltT l ∧ l.length ≤ 100 := by
  unfold validB adjL
  rw [Bool.and_eq_true, adj_iff ordT, ile_iff, dlen_def]
  constructor
  · rintro ⟨⟨h1, h2⟩, h3⟩; exact ⟨h1, h2, by omega⟩
  · rintro ⟨h1, h2, h3⟩; exact ⟨⟨h1, h2⟩, by omega⟩
theorem valid22 (fu : Nat) (l : List Timer22) (hf : l.length + 3 < fu) (hl : l.length < 1000000000) : s21 fu l = some (validB l, ()) := by
  unfold s21
  have := iter_walk (step := t21_0 fu) (fu := fu) (ε := ((List Timer22) × Unit) ⊕ ((Bool × Unit) ⊕ Empty)) l (fun j (_ : Unit) => (l, (l, (dlen l, ((j : Int), ())))))
    (fun i x _ => if adjB ltT okT (l.take i) x then .inl () else .inr (.inr (.inl (false, ())))) (fun _ _ => True) (fun _ => .inl (l, ())) () (by omega) trivial
    (fun i x _ hi _ => by
      have h1 := getElem?_lt hi
      have hid := iadd1 (show i < 9223372036854775807 by omega)
      simp only [t21_0, dlen_def l, dat_nat, hi, ilt_len h1, comp22]
      cases i with
      | zero =>
        have hz : ilt 0 ((0 : Nat) : Int) = false := rfl
        have hok : adjB ltT okT (l.take 0) x = okT x := by simp [adjB]
        rw [hok]
        unfold okT
        simp only [hz, hid]
        cases compB x.Owner <;> cases ilt x.Due 0 <;> cases ilt 2199023255552 x.Due <;> first | rfl | exact ⟨rfl, trivial⟩
      | succ i =>
        have hz : ilt 0 ((i + 1 : Nat) : Int) = true := ilt_iff.2 (by omega)
        obtain ⟨p, p1, p2⟩ := getD_idx (l := l) (i := i + 1) (by omega) (by omega)
        have hs : isub .i64 ((i + 1 : Nat) : Int) 1 = ((i : Nat) : Int) := by rw [isub64 (by omega)]; omega
        simp only [Nat.add_sub_cancel] at p1
        have hok : adjB ltT okT (l.take (i + 1)) x = (okT x && ltT p x) := by simp [adjB, p2]
        rw [hok]
        unfold okT
        simp only [hz, hs, dat_nat, p1, hid, ord22 fu (by omega), ord_ge]
        cases compB x.Owner <;> cases ilt x.Due 0 <;> cases ilt 2199023255552 x.Due <;> cases ltT p x <;> first | rfl | exact ⟨rfl, trivial⟩)
    (fun _ _ => by simp only [t21_0, dlen_def, ilt_end])
  rw [show ((0 : Nat) : Int) = 0 from rfl] at this
  rw [this]
  rcases walk_check (ε := ((List Timer22) × Unit) ⊕ ((Bool × Unit) ⊕ Empty)) (fun i x => adjB ltT okT (l.take i) x) (fun _ _ => .inr (.inl (false, ()))) l 0 with ⟨h1, h2⟩ | ⟨h1, i, x, h2⟩
  · rw [h2]
    have : adjL l = true := h1
    simp only [validB, this, Bool.true_and]
  · rw [h2]
    have : adjL l = false := h1
    simp only [validB, this, Bool.false_and]
theorem validR22 (fu : Nat) (l : List Timer22) (hf : l.length < fu) (hl : l.length < 1000000000) : s20 fu l = some (validB l, ()) := by
  unfold s20
  have := iter_walk (step := t20_0 fu) (fu := fu) (ε := ((List Timer22) × Unit) ⊕ ((Bool × Unit) ⊕ Empty)) l (fun j (_ : Unit) => (l, ((j : Int), ())))
    (fun i x _ => if adjB ltT okT (l.take i) x then .inl () else .inr (.inr (.inl (false, ())))) (fun _ _ => True) (fun _ => .inl (l, ())) () (by omega) trivial
    (fun i x _ hi _ => by
      have h1 := getElem?_lt hi
      have hid := iadd1 (show i < 9223372036854775807 by omega)
      simp only [t20_0, dlen_def l, dat_nat, hi, ilt_len h1, comp22']
      cases i with
      | zero =>
        have hz : ilt 0 ((0 : Nat) : Int) = false := rfl
        have hok : adjB ltT okT (l.take 0) x = okT x := by simp [adjB]
        rw [hok]
        unfold okT
        simp only [hz, hid]
        cases compB x.Owner <;> cases ilt x.Due 0 <;> cases ilt 2199023255552 x.Due <;> first | rfl | exact ⟨rfl, trivial⟩
      | succ i =>
        have hz : ilt 0 ((i + 1 : Nat) : Int) = true := ilt_iff.2 (by omega)
        obtain ⟨p, p1, p2⟩ := getD_idx (l := l) (i := i + 1) (by omega) (by omega)
        have hs : isub .i64 ((i + 1 : Nat) : Int) 1 = ((i : Nat) : Int) := by rw [isub64 (by omega)]; omega
        simp only [Nat.add_sub_cancel] at p1
        have hok : adjB ltT okT (l.take (i + 1)) x = (okT x && ltT p x) := by simp [adjB, p2]
        rw [hok]
        unfold okT
        simp only [hz, hs, dat_nat, p1, hi, hid, bef22]
        cases compB x.Owner <;> cases ilt x.Due 0 <;> cases ilt 2199023255552 x.Due <;> cases ltT p x <;> first | rfl | exact ⟨rfl, trivial⟩)
    (fun _ _ => by simp only [t20_0, dlen_def, ilt_end])
  rw [show ((0 : Nat) : Int) = 0 from rfl] at this
  rw [this]
  rcases walk_check (ε := ((List Timer22) × Unit) ⊕ ((Bool × Unit) ⊕ Empty)) (fun i x => adjB ltT okT (l.take i) x) (fun _ _ => .inr (.inl (false, ()))) l 0 with ⟨h1, h2⟩ | ⟨h1, i, x, h2⟩
  · rw [h2]
    have : adjL l = true := h1
    simp only [validB, this, Bool.true_and]
  · rw [h2]
    have : adjL l = false := h1
    simp only [validB, this, Bool.false_and]
end Go.G
