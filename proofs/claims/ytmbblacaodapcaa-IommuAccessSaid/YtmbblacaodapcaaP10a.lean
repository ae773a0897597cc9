import Derived.Test.YtmbblacaodapcaaOn10a
import Derived.Test.YtmbblacaodapcaaGPlain2
set_option linter.unusedVariables false
set_option linter.unusedSimpArgs false
namespace Go.G
set_option maxRecDepth 100000

theorem to10 (fu : Nat) (l : List Window10) (hf : l.length < fu) (hl : l.length < 1000000000000) : s11 fu l = some (l, ()) := by
  unfold s11
  have := iter_fold (step := t11_0 fu) (fu := fu) l (fun j acc => (l, ((), (dlen l, ((j : Int), (acc, ()))))))
    (fun x acc => acc ++ [x]) (fun i acc => acc.length = i) (fun acc => .inl ((), (acc, ()))) [] hf rfl
    (fun i x acc hi hI => by
      have h1 := getElem?_lt hi
      simp only [t11_0, dlen_def, dat_nat, hi, ilt_len h1, iadd1 (show i < 9223372036854775807 by omega)]
      rw [dapp_ok (by simp; omega) (by simp; omega)]
      exact ⟨rfl, by simp [hI]⟩)
    (fun acc hI => by simp only [t11_0, dlen_def, ilt_end])
  rw [show ((0 : Nat) : Int) = 0 from rfl] at this
  rw [this, foldl_map_snoc (fun x => x)]
  simp

theorem from10 (fu : Nat) (l : List Window10) (hf : l.length < fu) (hl : l.length < 1000000000000) : s14 fu l = some (l, ()) := by
  unfold s14
  have := iter_fold (step := t14_0 fu) (fu := fu) l (fun j acc => (l, ((), (dlen l, ((j : Int), (acc, ()))))))
    (fun x acc => acc ++ [x]) (fun i acc => acc.length = i) (fun acc => .inl ((), (acc, ()))) [] hf rfl
    (fun i x acc hi hI => by
      have h1 := getElem?_lt hi
      simp only [t14_0, dlen_def, dat_nat, hi, ilt_len h1, iadd1 (show i < 9223372036854775807 by omega)]
      rw [dapp_ok (by simp; omega) (by simp; omega)]
      exact ⟨rfl, by simp [hI]⟩)
    (fun acc hI => by simp only [t14_0, dlen_def, ilt_end])
  rw [show ((0 : Nat) : Int) = 0 from rfl] at this
  rw [this, foldl_map_snoc (fun x => x)]
  simp

theorem win_eq (x y : Window10) : (ieq x.Device y.Device && (ieq x.Tag y.Tag && (ieq x.Frame y.Frame && beqb x.Write y.Write))) = decide (x = y) := by
  obtain ⟨a, b, c, d⟩ := x
  obtain ⟨a', b', c', d'⟩ := y
  cases d <;> cases d' <;> simp [ieq, beqb, Window10.mk.injEq, Bool.decide_and]

theorem list_eq_iff_all {α : Type} [DecidableEq α] {l m : List α} (h : l.length = m.length) : (l.zip m).any (fun x => !decide (x.1 = x.2)) = !decide (l = m) := by
  induction l generalizing m with
  | nil => cases m with
    | nil => rfl
    | cons _ _ => simp at h
  | cons a l ih => cases m with
    | nil => simp at h
    | cons b m =>
      simp only [List.zip_cons_cons, List.any_cons, ih (by simpa using h), List.cons.injEq]
      by_cases h1 : a = b <;> by_cases h2 : l = m <;> simp [h1, h2]

theorem same10 (fu : Nat) (l m : List Window10) (hf : l.length < fu) (hl : l.length < 1000000000000) : s13 fu l m = some (decide (l = m), ()) := by
  unfold s13
  cases hq : ieq (dlen l) (dlen m) with
  | false =>
    rw [ieq_f, dlen_def, dlen_def] at hq
    have : l ≠ m := by rintro rfl; exact hq rfl
    simp [this]
  | true =>
    rw [ieq_iff, dlen_def, dlen_def] at hq
    have hq : l.length = m.length := by omega
    have hz : (l.zip m).length = l.length := by simp [hq]
    have key : ∀ (i : Nat) (x : Window10 × Window10), (l.zip m)[i]? = some x → l[i]? = some x.1 ∧ m[i]? = some x.2 := fun i x h => by
      rw [List.getElem?_zip_eq_some] at h
      exact h
    have := iter_any (step := t13_0 fu) (fu := fu) (l.zip m) (fun j => (l, (m, ((j : Int), ())))) (fun x => !decide (x.1 = x.2)) (.inr (.inl (false, ()))) (.inl ()) (by omega)
      (fun i x hi hx => by
        have h1 := getElem?_lt hi
        obtain ⟨k1, k2⟩ := key i x hi
        rw [hz] at h1
        simp only [t13_0, dlen_def, dat_nat, k1, k2, ilt_len h1, iadd1 (show i < 9223372036854775807 by omega)]
        rw [← win_eq] at hx
        cases e1 : ieq x.1.Device x.2.Device <;> cases e2 : ieq x.1.Tag x.2.Tag <;> cases e3 : ieq x.1.Frame x.2.Frame <;> cases e4 : beqb x.1.Write x.2.Write <;> simp_all)
      (fun i x hi hx => by
        have h1 := getElem?_lt hi
        obtain ⟨k1, k2⟩ := key i x hi
        rw [hz] at h1
        simp only [t13_0, dlen_def, dat_nat, k1, k2, ilt_len h1]
        rw [← win_eq] at hx
        cases e1 : ieq x.1.Device x.2.Device <;> cases e2 : ieq x.1.Tag x.2.Tag <;> cases e3 : ieq x.1.Frame x.2.Frame <;> cases e4 : beqb x.1.Write x.2.Write <;> simp_all)
      (by simp only [t13_0, dlen_def, hz, ilt_end])
    rw [show ((0 : Nat) : Int) = 0 from rfl, list_eq_iff_all hq] at this
    simp only [this]
    by_cases h : l = m <;> simp [h]

def properB (d t f : Int) : Bool := ile 1 d && (ile d 4 && (ile 0 t && (ile 0 f && ilt f 96)))
theorem proper10 (fu : Nat) (d t f : Int) (w : Bool) : s25 fu d t f w = some (properB d t f, ()) := by
  unfold s25 properB
  cases ile 1 d <;> cases ile d 4 <;> cases ile 0 t <;> cases ile 0 f <;> simp
theorem properR (fu : Nat) (d t f : Int) (w : Bool) : s33 fu d t f w = some (properB d t f, ()) := by
  unfold s33 properB
  cases ile 1 d <;> cases ile d 4 <;> cases ile 0 t <;> cases ile 0 f <;> simp

def confB (f : Int) (w : Bool) (f' : Int) (w' : Bool) : Bool := ieq f f' && (w || w')
theorem conf10 (fu : Nat) (d t f : Int) (w : Bool) (d' t' f' : Int) (w' : Bool) : s30 fu d t f w d' t' f' w' = some (confB f w f' w', ()) := by
  unfold s30 confB
  cases ieq f f' <;> cases w <;> simp
theorem confR (fu : Nat) (d t f : Int) (w : Bool) (d' t' f' : Int) (w' : Bool) : s34 fu d t f w d' t' f' w' = some (confB f w f' w', ()) := by
  unfold s34 confB
  cases ieq f f' <;> cases w <;> simp

/-- The one key comes before the other. -/
def befB (d t d' t' : Int) : Bool := ilt d d' || (ieq d d' && ilt t t')
theorem befR (fu : Nat) (d t f : Int) (w : Bool) (d' t' f' : Int) (w' : Bool) : s35 fu d t f w d' t' f' w' = some (befB d t d' t', ()) := by
  unfold s35 befB
  cases ilt d d' <;> cases ieq d d' <;> simp

def cmpI (a b : Int) : Int := if a < b then -1 else if b < a then 1 else 0
theorem cmp10 (fu : Nat) (a b : Int) : s43 fu a b = some (cmpI a b, ()) := by
  unfold s43 s46 cmpI
  have h1 : ieq a a = true := ieq_iff.2 rfl
  have h2 : ieq b b = true := ieq_iff.2 rfl
  simp only [h1, h2]
  by_cases h3 : a < b
  · rw [ilt_iff.2 h3, if_pos h3]
  · rw [ilt_f.2 (by omega), if_neg h3]
    by_cases h4 : b < a
    · simp [ilt_iff.2 h4, if_pos h4]
    · simp [ilt_f.2 (show a ≤ b by omega), if_neg h4]

def orI (a b : Int) : Int := if a = 0 then b else a
theorem or10 (fu : Nat) (hf : 1000 < fu) (a b : Int) : s42 fu [a, b] = some (orI a b, ()) := by
  obtain ⟨k, rfl⟩ : ∃ k, fu = k + 3 := ⟨fu - 3, by omega⟩
  unfold s42 orI
  by_cases ha : a = 0
  · subst ha
    by_cases hb : b = 0
    · subst hb
      rfl
    · simp [iter, t42_0, dlen, ilt, dat, ieq, hb, iadd, IntKind.wrap_i64]
  · simp [iter, t42_0, dlen, ilt, dat, ieq, ha, iadd, IntKind.wrap_i64]

def ordI (d t d' t' : Int) : Int := orI (cmpI d d') (cmpI t t')
theorem ord10 (fu : Nat) (hf : 1000 < fu) (d t f : Int) (w : Bool) (d' t' f' : Int) (w' : Bool) : s27 fu d t f w d' t' f' w' = some (ordI d t d' t', ()) := by
  unfold s27
  rw [cmp10, cmp10]
  simp only [or10 fu hf, ordI]

theorem ord_lt {d t d' t' : Int} : ilt (ordI d t d' t') 0 = befB d t d' t' := by
  unfold ordI orI cmpI befB ilt ieq
  by_cases h1 : d < d'
  · simp [h1]
  · by_cases h2 : d' < d
    · simp [h1, h2]
      omega
    · have : d = d' := by omega
      subst this
      by_cases h3 : t < t'
      · simp [h3]
      · by_cases h4 : t' < t <;> simp [h3, h4]
theorem ord_eq {d t d' t' : Int} : ieq (ordI d t d' t') 0 = (ieq d d' && ieq t t') := by
  unfold ordI orI cmpI ieq
  by_cases h1 : d < d'
  · simp [h1]; omega
  · by_cases h2 : d' < d
    · simp [h1, h2]
      omega
    · have : d = d' := by omega
      subst this
      by_cases h3 : t < t'
      · simp [h3]; omega
      · by_cases h4 : t' < t
        · simp [h3, h4]; omega
        · simp [h3, h4]; omega

/-! ### Check and Busy -/
def chkB (d f : Int) (w : Bool) (x : Window10) : Bool := ieq x.Device d && (ieq x.Frame f && beqb x.Write w)
theorem check10 (fu : Nat) (l : List Window10) (d f : Int) (w : Bool) (hf : l.length < fu) (hl : l.length < 1000000000000) : s17 fu l d f w = some (l.any (chkB d f w), ()) := by
  unfold s17
  rcases iter_first (step := t17_0 fu) (fu := fu) l (fun j => (l, ((), (dlen l, ((j : Int), ((w, ()), ((f, ()), ((d, ()), ())))))))) (chkB d f w) (fun j _ => .inr (.inl ((j : Int), ((w, ()), ((f, ()), ((d, ()), ())))))) (.inl ((w, ()), ((f, ()), ((d, ()), ())))) hf
      (fun i x hi hq => by
        have h1 := getElem?_lt hi
        simp only [t17_0, dlen_def, dat_nat, hi, ilt_len h1, iadd1 (show i < 9223372036854775807 by omega)]
        simp only [chkB] at hq
        cases h1 : ieq x.Device d <;> cases h2 : ieq x.Frame f <;> cases h3 : beqb x.Write w <;> simp_all)
      (fun i x hi hq => by
        have h1 := getElem?_lt hi
        simp only [t17_0, dlen_def, dat_nat, hi, ilt_len h1]
        simp only [chkB, Bool.and_eq_true] at hq
        simp only [hq])
      (by simp only [t17_0, dlen_def, ilt_end]) with ⟨i, x, h1, h2, _, h4⟩ | ⟨h1, h2⟩
  · simp only [Int.natCast_zero] at h4
    rw [h4, List.any_eq_true.2 ⟨x, List.mem_of_getElem? h1, h2⟩]
    simp [ile]
  · rw [show ((0 : Nat) : Int) = 0 from rfl] at h2
    rw [h2, List.any_eq_false.2 (by simpa using h1)]
    simp [ile]
theorem checkR (fu : Nat) (l : List Window10) (d f : Int) (w : Bool) (hf : l.length < fu) (hl : l.length < 1000000000000) : s18 fu l d f w = some (l.any (chkB d f w), ()) := by
  unfold s18
  have := iter_any (step := t18_0 fu) (fu := fu) l (fun j => (l, (d, (f, (w, ((j : Int), ())))))) (chkB d f w) (.inr (.inl (true, ()))) (.inl ()) hf
      (fun i x hi hq => by
        have h1 := getElem?_lt hi
        simp only [t18_0, dlen_def, dat_nat, hi, ilt_len h1, iadd1 (show i < 9223372036854775807 by omega)]
        simp only [chkB] at hq
        cases h1 : ieq x.Device d <;> cases h2 : ieq x.Frame f <;> cases h3 : beqb x.Write w <;> simp_all)
      (fun i x hi hq => by
        have h1 := getElem?_lt hi
        simp only [t18_0, dlen_def, dat_nat, hi, ilt_len h1]
        simp only [chkB, Bool.and_eq_true] at hq
        simp only [hq])
      (by simp only [t18_0, dlen_def, ilt_end])
  rw [show ((0 : Nat) : Int) = 0 from rfl] at this
  rw [this]
  cases l.any (chkB d f w) <;> rfl
def busB (f : Int) (x : Window10) : Bool := ieq x.Frame f
theorem busy10 (fu : Nat) (l : List Window10) (f : Int) (hf : l.length < fu) (hl : l.length < 1000000000000) : s19 fu l f = some (l.any (busB f), ()) := by
  unfold s19
  rcases iter_first (step := t19_0 fu) (fu := fu) l (fun j => (l, ((), (dlen l, ((j : Int), ((f, ()), ())))))) (busB f) (fun j _ => .inr (.inl ((j : Int), ((f, ()), ())))) (.inl ((f, ()), ())) hf
      (fun i x hi hq => by
        have h1 := getElem?_lt hi
        simp only [t19_0, dlen_def, dat_nat, hi, ilt_len h1, iadd1 (show i < 9223372036854775807 by omega)]
        simp only [busB] at hq
        simp only [hq])
      (fun i x hi hq => by
        have h1 := getElem?_lt hi
        simp only [t19_0, dlen_def, dat_nat, hi, ilt_len h1]
        simp only [busB] at hq
        simp only [hq])
      (by simp only [t19_0, dlen_def, ilt_end]) with ⟨i, x, h1, h2, _, h4⟩ | ⟨h1, h2⟩
  · simp only [Int.natCast_zero] at h4
    rw [h4, List.any_eq_true.2 ⟨x, List.mem_of_getElem? h1, h2⟩]
    simp [ile]
  · rw [show ((0 : Nat) : Int) = 0 from rfl] at h2
    rw [h2, List.any_eq_false.2 (by simpa using h1)]
    simp [ile]
theorem busyR (fu : Nat) (l : List Window10) (f : Int) (hf : l.length < fu) (hl : l.length < 1000000000000) : s20 fu l f = some (l.any (busB f), ()) := by
  unfold s20
  have := iter_any (step := t20_0 fu) (fu := fu) l (fun j => (l, (f, ((j : Int), ())))) (busB f) (.inr (.inl (true, ()))) (.inl ()) hf
      (fun i x hi hq => by
        have h1 := getElem?_lt hi
        simp only [t20_0, dlen_def, dat_nat, hi, ilt_len h1, iadd1 (show i < 9223372036854775807 by omega)]
        simp only [busB] at hq
        simp only [hq])
      (fun i x hi hq => by
        have h1 := getElem?_lt hi
        simp only [t20_0, dlen_def, dat_nat, hi, ilt_len h1]
        simp only [busB] at hq
        simp only [hq])
      (by simp only [t20_0, dlen_def, ilt_end])
  rw [show ((0 : Nat) : Int) = 0 from rfl] at this
  rw [this]
  cases l.any (busB f) <;> rfl
end Go.G
