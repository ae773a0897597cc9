import Derived.Test.YtmknondapmmehaaOn21
import Derived.Test.YtmknondapmmehaaGE5
set_option linter.unusedVariables false
set_option linter.unusedSimpArgs false
namespace Go.G
set_option maxRecDepth 100000

theorem to21 (fu : Nat) (l : List Grant21) (hf : l.length < fu) (hl : l.length < 1000000000) : s13 fu l = some (l, ()) := by
  unfold s13
  have := iter_fold (step := t13_0 fu) (fu := fu) l (fun j acc => (l, ((), (dlen l, ((j : Int), (acc, ()))))))
    (fun x acc => acc ++ [x]) (fun i acc => acc.length = i) (fun acc => .inl ((), (acc, ()))) [] hf rfl
    (fun i x acc hi hI => by
      have h1 := getElem?_lt hi
      simp only [t13_0, dlen_def, dat_nat, hi, ilt_len h1, iadd1 (show i < 9223372036854775807 by omega)]
      rw [dapp_ok (by simp; omega) (by simp; omega)]
      exact ⟨rfl, by simp [hI]⟩)
    (fun acc hI => by simp only [t13_0, dlen_def, ilt_end])
  rw [show ((0 : Nat) : Int) = 0 from rfl] at this
  rw [this, foldl_map_snoc (fun x => x)]
  simp
theorem from21 (fu : Nat) (l : List Grant21) (hf : l.length < fu) (hl : l.length < 1000000000) : s16 fu l = some (l, ()) := to21 fu l hf hl
theorem gr_eq (x y : Grant21) : (ieq x.Owner y.Owner && (ieq x.Grantee y.Grantee && (ieq x.Frame y.Frame && ieq x.Rights y.Rights))) = decide (x = y) := by
  obtain ⟨a, b, c, d⟩ := x
  obtain ⟨a', b', c', d'⟩ := y
  simp [ieq, Grant21.mk.injEq, Bool.decide_and]
theorem same21 (fu : Nat) (l m : List Grant21) (hf : l.length < fu) (hl : l.length < 1000000000) : s15 fu l m = some (decide (l = m), ()) := by
  unfold s15
  cases hq : ieq (dlen l) (dlen m) with
  | false =>
    rw [ieq_f, dlen_def, dlen_def] at hq
    have : l ≠ m := by rintro rfl; exact hq rfl
    simp [this]
  | true =>
    rw [ieq_iff, dlen_def, dlen_def] at hq
    have hq : l.length = m.length := by omega
    have hz : (l.zip m).length = l.length := by simp [hq]
    have := iter_any (step := t15_0 fu) (fu := fu) (l.zip m) (fun j => (l, (m, ((j : Int), ())))) (fun x => !decide (x.1 = x.2)) (.inr (.inl (false, ()))) (.inl ()) (by omega)
      (fun i x hi hx => by
        have h1 := getElem?_lt hi
        obtain ⟨k1, k2⟩ := zip_get i x hi
        rw [hz] at h1
        rw [← gr_eq] at hx
        simp only [t15_0, dlen_def, dat_nat, k1, k2, ilt_len h1, iadd1 (show i < 9223372036854775807 by omega)]
        cases e1 : ieq x.1.Owner x.2.Owner <;> cases e2 : ieq x.1.Grantee x.2.Grantee <;> cases e3 : ieq x.1.Frame x.2.Frame <;> cases e4 : ieq x.1.Rights x.2.Rights <;> simp_all)
      (fun i x hi hx => by
        have h1 := getElem?_lt hi
        obtain ⟨k1, k2⟩ := zip_get i x hi
        rw [hz] at h1
        rw [← gr_eq] at hx
        simp only [t15_0, dlen_def, dat_nat, k1, k2, ilt_len h1]
        cases e1 : ieq x.1.Owner x.2.Owner <;> cases e2 : ieq x.1.Grantee x.2.Grantee <;> cases e3 : ieq x.1.Frame x.2.Frame <;> cases e4 : ieq x.1.Rights x.2.Rights <;> simp_all)
      (by simp only [t15_0, dlen_def, hz, ilt_end])
    rw [show ((0 : Nat) : Int) = 0 from rfl, list_eq_iff_all hq] at this
    simp only [this]
    by_cases h : l = m <;> simp [h]

def cmpI (a b : Int) : Int := if a < b then -1 else if b < a then 1 else 0
theorem cmp21 (fu : Nat) (a b : Int) : s50 fu a b = some (cmpI a b, ()) := by
  unfold s50 s57 cmpI
  have h1 : ieq a a = true := ieq_iff.2 rfl
  have h2 : ieq b b = true := ieq_iff.2 rfl
  simp only [h1, h2]
  by_cases h3 : a < b
  · rw [ilt_iff.2 h3, if_pos h3]
  · rw [ilt_f.2 (by omega), if_neg h3]
    by_cases h4 : b < a
    · simp [ilt_iff.2 h4, if_pos h4]
    · simp [ilt_f.2 (show a ≤ b by omega), if_neg h4]
def orI (a b : Int) : Int := if a = 0 then b else a
theorem or2 (fu : Nat) (hf : 3 < fu) (a b : Int) : s49 fu [a, b] = some (orI a b, ()) := by
  obtain ⟨k, rfl⟩ : ∃ k, fu = k + 4 := ⟨fu - 4, by omega⟩
  unfold s49 orI
  have e0 : ilt 0 (dlen [a, b]) = true := rfl
  have e1 : ilt 1 (dlen [a, b]) = true := rfl
  have e2 : ilt 2 (dlen [a, b]) = false := rfl
  have d0 : dat [a, b] 0 = some a := rfl
  have d1 : dat [a, b] 1 = some b := rfl
  have i1 : iadd .i64 0 1 = 1 := rfl
  have i2 : iadd .i64 1 1 = 2 := rfl
  by_cases ha : a = 0
  · subst ha
    by_cases hb : b = 0
    · subst hb; rfl
    · simp [iter, t49_0, e0, e1, d0, d1, i1, i2, ieq, hb]
  · simp [iter, t49_0, e0, d0, ieq, ha]
/-- The order by frames and grantees. -/
def ltG (a b : Grant21) : Bool := ilt a.Frame b.Frame || (ieq a.Frame b.Frame && ilt a.Grantee b.Grantee)
theorem ltG_iff {a b : Grant21} : ltG a b = true ↔ a.Frame < b.Frame ∨ (a.Frame = b.Frame ∧ a.Grantee < b.Grantee) := by
  unfold ltG
  rw [Bool.or_eq_true, Bool.and_eq_true, ilt_iff, ieq_iff, ilt_iff]
theorem ltG_f {a b : Grant21} : ltG a b = false ↔ ¬ (a.Frame < b.Frame ∨ (a.Frame = b.Frame ∧ a.Grantee < b.Grantee)) := by
  rw [← ltG_iff]; simp
theorem ordG : Ordr ltG := ⟨fun {a b} h => by rw [ltG_iff] at h; rw [ltG_f]; omega, fun {a b c} h1 h2 => by rw [ltG_f] at *; omega⟩
def ordI (a b : Grant21) : Int := orI (cmpI a.Frame b.Frame) (cmpI a.Grantee b.Grantee)
theorem ord21 (fu : Nat) (hf : 3 < fu) (a b : Grant21) : s31 fu a.Owner a.Grantee a.Frame a.Rights b.Owner b.Grantee b.Frame b.Rights = some (ordI a b, ()) := by
  unfold s31
  simp only [cmp21, or2 fu hf]
  rfl
theorem ordI_cases (a b : Grant21) : (ordI a b = -1 ∧ ltG a b = true) ∨ (ordI a b = 1 ∧ ltG b a = true) ∨ (ordI a b = 0 ∧ ltG a b = false ∧ ltG b a = false) := by
  unfold ordI orI cmpI
  rw [ltG_iff, ltG_iff, ltG_f, ltG_f]
  split <;> split <;> simp <;> omega
theorem ord_lt (a b : Grant21) : ilt (ordI a b) 0 = ltG a b := by
  rcases ordI_cases a b with ⟨h, h1⟩ | ⟨h, h1⟩ | ⟨h, h1, h2⟩
  · rw [h, h1]; rfl
  · rw [h, ordG.asym h1]; rfl
  · rw [h, h1]; rfl
theorem ord_ge (a b : Grant21) : ile 0 (ordI a b) = !ltG a b := by
  rcases ordI_cases a b with ⟨h, h1⟩ | ⟨h, h1⟩ | ⟨h, h1, h2⟩
  · rw [h, h1]; rfl
  · rw [h, ordG.asym h1]; rfl
  · rw [h, h1]; rfl
theorem ord_eq (a b : Grant21) : ieq (ordI a b) 0 = same ltG a b := by
  unfold same
  rcases ordI_cases a b with ⟨h, h1⟩ | ⟨h, h1⟩ | ⟨h, h1, h2⟩
  · rw [h, h1]; rfl
  · rw [h, ordG.asym h1, h1]; rfl
  · rw [h, h1, h2]; rfl
theorem bef21 (fu : Nat) (a b : Grant21) : s37 fu a.Owner a.Grantee a.Frame a.Rights b.Owner b.Grantee b.Frame b.Rights = some (ltG a b, ()) := by
  unfold s37 ltG
  cases ilt a.Frame b.Frame <;> cases ieq a.Frame b.Frame <;> rfl
theorem same_key (a x : Grant21) : same ltG a x = (ieq a.Grantee x.Grantee && ieq a.Frame x.Frame) := by
  rw [Bool.eq_iff_iff]
  unfold same
  rw [Bool.and_eq_true, Bool.not_eq_true', Bool.not_eq_true', ltG_f, ltG_f, Bool.and_eq_true, ieq_iff, ieq_iff]
  omega
/-! ### Rights -/
def rg (n : Int) : Prop := -9223372036854775808 ≤ n ∧ n ≤ 9223372036854775807
def incB (a b : Int) : Bool := ieq (ior .i64 a b) a
theorem wrap_toNat (x : BitVec 64) : IntKind.i64.wrap (x.toNat : Int) = x.toInt := by
  have h1 : ∀ n : Int, IntKind.i64.wrap n = Int.bmod n 18446744073709551616 := fun n => by
    rw [IntKind.wrap_i64]
    unfold Int.bmod
    simp only
    split <;> omega
  rw [h1, BitVec.toInt_eq_toNat_bmod]
theorem toInt_ofInt {a : Int} (h : rg a) : (BitVec.ofInt 64 a).toInt = a := by
  rw [BitVec.toInt_ofInt]
  obtain ⟨h1, h2⟩ := h
  unfold Int.bmod
  simp only
  split <;> omega
theorem and_or (A B : BitVec 64) : B &&& ~~~A = 0#64 ↔ A ||| B = A := by
  constructor
  · intro h
    apply BitVec.eq_of_getLsbD_eq
    intro i hi
    have := congrArg (fun x => x.getLsbD i) h
    simp only [BitVec.getLsbD_and, BitVec.getLsbD_not, BitVec.getLsbD_zero, BitVec.getLsbD_or, hi, decide_true, Bool.true_and] at this ⊢
    revert this
    cases A.getLsbD i <;> cases B.getLsbD i <;> decide
  · intro h
    apply BitVec.eq_of_getLsbD_eq
    intro i hi
    have := congrArg (fun x => x.getLsbD i) h
    simp only [BitVec.getLsbD_and, BitVec.getLsbD_not, BitVec.getLsbD_zero, BitVec.getLsbD_or, hi, decide_true, Bool.true_and] at this ⊢
    revert this
    cases A.getLsbD i <;> cases B.getLsbD i <;> decide
theorem inc_eq {a b : Int} (ha : rg a) : ieq (iandn .i64 b a) 0 = incB a b := by
  rw [Bool.eq_iff_iff]
  unfold incB
  rw [ieq_iff, ieq_iff]
  have e1 : iandn .i64 b a = (BitVec.ofInt 64 b &&& ~~~ BitVec.ofInt 64 a).toInt := wrap_toNat _
  have e2 : ior .i64 a b = (BitVec.ofInt 64 a ||| BitVec.ofInt 64 b).toInt := wrap_toNat _
  rw [e1, e2]
  have h1 : (BitVec.ofInt 64 b &&& ~~~ BitVec.ofInt 64 a).toInt = 0 ↔ (BitVec.ofInt 64 b &&& ~~~ BitVec.ofInt 64 a) = 0#64 := by
    rw [← BitVec.toInt_inj]; rfl
  have h2 : (BitVec.ofInt 64 a ||| BitVec.ofInt 64 b).toInt = a ↔ (BitVec.ofInt 64 a ||| BitVec.ofInt 64 b) = BitVec.ofInt 64 a := by
    rw [← BitVec.toInt_inj, toInt_ofInt ha]
  rw [h1, h2]
  exact and_or _ _
theorem inc21 (fu : Nat) {a b : Int} (ha : rg a) : s45 fu a b = some (incB a b, ()) := by
  unfold s45
  rw [inc_eq ha]
theorem incR21 (fu : Nat) (a b : Int) : s47 fu a b = some (incB a b, ()) := rfl
def rightB (n : Int) : Bool := ile 1 n && ile n 3
def taskB (n : Int) : Bool := ile 1 n && ilt n 32
theorem right21 (fu : Nat) (n : Int) : s43 fu n = some (rightB n, ()) := by
  unfold s43 rightB
  cases ile 1 n <;> rfl
theorem task21 (fu : Nat) (n : Int) : s48 fu n = some (taskB n, ()) := by
  unfold s48 taskB
  cases ile 1 n <;> rfl
def propB (x : Grant21) : Bool := taskB x.Owner && (taskB x.Grantee && (!ieq x.Owner x.Grantee && (!ieq x.Grantee 4 && (ile 0 x.Frame && (ilt x.Frame 96 && rightB x.Rights)))))
theorem prop21 (fu : Nat) (x : Grant21) : s29 fu x.Owner x.Grantee x.Frame x.Rights = some (propB x, ()) := by
  unfold s29 propB
  simp only [task21, right21]
  cases taskB x.Owner <;> cases taskB x.Grantee <;> cases ieq x.Owner x.Grantee <;> cases ieq x.Grantee 4 <;> cases ile 0 x.Frame <;> cases ilt x.Frame 96 <;> rfl
theorem propR21 (fu : Nat) (x : Grant21) : s35 fu x.Owner x.Grantee x.Frame x.Rights = some (propB x, ()) := by
  unfold s35 propB
  have h : ∀ n, s53 fu n = some (taskB n, ()) := task21 fu
  simp only [h]
  unfold rightB
  cases taskB x.Owner <;> cases taskB x.Grantee <;> cases ieq x.Owner x.Grantee <;> cases ieq x.Grantee 4 <;> cases ile 0 x.Frame <;> cases ilt x.Frame 96 <;> cases ile 1 x.Rights <;> rfl
theorem propB_iff {x : Grant21} : propB x = true ↔ (1 ≤ x.Owner ∧ x.Owner < 32) ∧ (1 ≤ x.Grantee ∧ x.Grantee < 32) ∧ x.Owner ≠ x.Grantee ∧ x.Grantee ≠ 4 ∧ 0 ≤ x.Frame ∧ x.Frame < 96 ∧ 1 ≤ x.Rights ∧ x.Rights ≤ 3 := by
  unfold propB taskB rightB
  simp only [Bool.and_eq_true, Bool.not_eq_true', ile_iff, ilt_iff, ieq_f]
end Go.G
