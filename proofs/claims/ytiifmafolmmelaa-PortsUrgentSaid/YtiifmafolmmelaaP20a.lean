import Derived.Test.YtiifmafolmmelaaOn20
import Derived.Test.YtiifmafolmmelaaGE5
set_option linter.unusedVariables false
set_option linter.unusedSimpArgs false
namespace Go.G
set_option maxRecDepth 100000
set_option maxHeartbeats 2000000
def cmpI (a b : Int) : Int := if a < b then -1 else if b < a then 1 else 0
theorem cmp20 (fu : Nat) (a b : Int) : s66 fu a b = some (cmpI a b, ()) := by
  unfold s66 s69 cmpI
  have h1 : ieq a a = true := ieq_iff.2 rfl
  have h2 : ieq b b = true := ieq_iff.2 rfl
  simp only [h1, h2]
  by_cases h3 : a < b
  · rw [ilt_iff.2 h3, if_pos h3]
  · rw [ilt_f.2 (by omega), if_neg h3]
    by_cases h4 : b < a
    · simp [ilt_iff.2 h4, if_pos h4]
    · simp [ilt_f.2 (show a ≤ b by omega), if_neg h4]
def orI (a b : Int) : Int := if a = 0 then b else a
theorem or2 (fu : Nat) (hf : 3 < fu) (a b : Int) : s65 fu [a, b] = some (orI a b, ()) := by
  obtain ⟨k, rfl⟩ : ∃ k, fu = k + 4 := ⟨fu - 4, by omega⟩
  unfold s65 orI
  have e0 : ilt 0 (dlen [a, b]) = true := rfl
  have e1 : ilt 1 (dlen [a, b]) = true := rfl
  have e2 : ilt 2 (dlen [a, b]) = false := rfl
  have d0 : dat [a, b] 0 = some a := rfl
  have d1 : dat [a, b] 1 = some b := rfl
  have i1 : iadd .i64 0 1 = 1 := rfl
  have i2 : iadd .i64 1 1 = 2 := rfl
  by_cases ha : a = 0
  · subst ha
    by_cases hb : b = 0
    · subst hb; rfl
    · simp [iter, t65_0, e0, e1, d0, d1, i1, i2, ieq, hb]
  · simp [iter, t65_0, e0, d0, ieq, ha]
/-- The order by owners and tags. -/
def ltP (a b : Pair20) : Bool := ilt a.Src b.Src || (ieq a.Src b.Src && ilt a.Dst b.Dst)
theorem ltP_iff {a b : Pair20} : ltP a b = true ↔ a.Src < b.Src ∨ (a.Src = b.Src ∧ a.Dst < b.Dst) := by
  unfold ltP
  rw [Bool.or_eq_true, Bool.and_eq_true, ilt_iff, ieq_iff, ilt_iff]
theorem ltP_f {a b : Pair20} : ltP a b = false ↔ ¬ (a.Src < b.Src ∨ (a.Src = b.Src ∧ a.Dst < b.Dst)) := by
  rw [← ltP_iff]; simp
theorem ordP : Ordr ltP := ⟨fun {a b} h => by rw [ltP_iff] at h; rw [ltP_f]; omega, fun {a b c} h1 h2 => by rw [ltP_f] at *; omega⟩
def ordI (a b : Pair20) : Int := orI (cmpI a.Src b.Src) (cmpI a.Dst b.Dst)
theorem ord20 (fu : Nat) (hf : 3 < fu) (a b : Pair20) : s46 fu a.Src a.Dst a.Seq b.Src b.Dst b.Seq = some (ordI a b, ()) := by
  unfold s46
  simp only [cmp20, or2 fu hf]
  rfl
theorem ordI_cases (a b : Pair20) : (ordI a b = -1 ∧ ltP a b = true) ∨ (ordI a b = 1 ∧ ltP b a = true) ∨ (ordI a b = 0 ∧ ltP a b = false ∧ ltP b a = false) := by
  unfold ordI orI cmpI
  rw [ltP_iff, ltP_iff, ltP_f, ltP_f]
  split <;> split <;> simp <;> omega
theorem ord_lt (a b : Pair20) : ilt (ordI a b) 0 = ltP a b := by
  rcases ordI_cases a b with ⟨h, h1⟩ | ⟨h, h1⟩ | ⟨h, h1, h2⟩
  · rw [h, h1]; rfl
  · rw [h, ordP.asym h1]; rfl
  · rw [h, h1]; rfl
theorem ord_ge (a b : Pair20) : ile 0 (ordI a b) = !ltP a b := by
  rcases ordI_cases a b with ⟨h, h1⟩ | ⟨h, h1⟩ | ⟨h, h1, h2⟩
  · rw [h, h1]; rfl
  · rw [h, ordP.asym h1]; rfl
  · rw [h, h1]; rfl
theorem ord_eq (a b : Pair20) : ieq (ordI a b) 0 = same ltP a b := by
  unfold same
  rcases ordI_cases a b with ⟨h, h1⟩ | ⟨h, h1⟩ | ⟨h, h1, h2⟩
  · rw [h, h1]; rfl
  · rw [h, ordP.asym h1, h1]; rfl
  · rw [h, h1, h2]; rfl

theorem pr_eq (x y : Pair20) : (ieq x.Src y.Src && (ieq x.Dst y.Dst && ieq x.Seq y.Seq)) = decide (x = y) := by
  obtain ⟨a, b, c⟩ := x
  obtain ⟨a', b', c'⟩ := y
  simp [ieq, Pair20.mk.injEq, Bool.decide_and]
def taskB (n : Int) : Bool := ile 0 n && ilt n 32
theorem task20 (fu : Nat) (n : Int) : s45 fu n = some (taskB n, ()) := by
  unfold s45 taskB
  cases ile 0 n <;> rfl
theorem task20' (fu : Nat) (n : Int) : s31 fu n = some (taskB n, ()) := task20 fu n
def propB (m : Msg20) : Bool := taskB m.Src && (taskB m.Dst && ile (dlen m.Data) 1536)
theorem prop20 (fu : Nat) (m : Msg20) : s32 fu m.Src m.Dst m.Kind m.Seq m.Args_0 m.Args_1 m.Args_2 m.Args_3 m.Data = some (propB m, ()) := by
  unfold s32 propB
  simp only [task20]
  cases taskB m.Src <;> cases taskB m.Dst <;> rfl
theorem prop20' (fu : Nat) (m : Msg20) : s10 fu m.Src m.Dst m.Kind m.Seq m.Args_0 m.Args_1 m.Args_2 m.Args_3 m.Data = some (propB m, ()) := prop20 fu m
def sameM (a b : Msg20) : Bool := ieq a.Src b.Src && (ieq a.Dst b.Dst && (ieq a.Kind b.Kind && (ieq a.Seq b.Seq && ((ieq a.Args_0 b.Args_0 && (ieq a.Args_1 b.Args_1 && (ieq a.Args_2 b.Args_2 && ieq a.Args_3 b.Args_3))) && seqb (dstr a.Data) (dstr b.Data)))))
theorem sameM_self (a : Msg20) : sameM a a = true := by
  unfold sameM seqb
  simp [ieq]
theorem smsg20 (fu : Nat) (a b : Msg20) : s13 fu a.Src a.Dst a.Kind a.Seq a.Args_0 a.Args_1 a.Args_2 a.Args_3 a.Data b.Src b.Dst b.Kind b.Seq b.Args_0 b.Args_1 b.Args_2 b.Args_3 b.Data = some (sameM a b, ()) := by
  unfold s13 sameM s27
  cases ieq a.Src b.Src <;> cases ieq a.Dst b.Dst <;> cases ieq a.Kind b.Kind <;> cases ieq a.Seq b.Seq <;> cases ieq a.Args_0 b.Args_0 <;> cases ieq a.Args_1 b.Args_1 <;> cases ieq a.Args_2 b.Args_2 <;> cases ieq a.Args_3 b.Args_3 <;> rfl
theorem smsg20' (fu : Nat) (a b : Msg20) : s52 fu a.Src a.Dst a.Kind a.Seq a.Args_0 a.Args_1 a.Args_2 a.Args_3 a.Data b.Src b.Dst b.Kind b.Seq b.Args_0 b.Args_1 b.Args_2 b.Args_3 b.Data = some (sameM a b, ()) := smsg20 fu a b
theorem to20 (fu : Nat) (q : List Msg20) (p : List Pair20) (hf : p.length < fu) (hl : p.length < 1000000000) : s16 fu q p = some ((q, (p, ())), ()) := by
  unfold s16
  have := iter_fold (step := t16_0 fu) (fu := fu) p (fun j acc => ((), ((), ((), (dlen p, ((j : Int), (acc, ((q, ((), ())), (((), ((), ())), ((q, (p, ())), ()))))))))))
    (fun x acc => acc ++ [x]) (fun i acc => acc.length = i) (fun acc => .inl ((), ((), (acc, ((q, ((), ())), (((), ((), ())), ((q, (p, ())), ()))))))) [] hf rfl
    (fun i x acc hi hI => by
      have h1 := getElem?_lt hi
      simp only [t16_0, dlen_def, dat_nat, hi, ilt_len h1, iadd1 (show i < 9223372036854775807 by omega)]
      rw [dapp_ok (by simp; omega) (by simp; omega)]
      exact ⟨rfl, by simp [hI]⟩)
    (fun acc hI => by simp only [t16_0, dlen_def, ilt_end])
  rw [show ((0 : Nat) : Int) = 0 from rfl] at this
  rw [this, foldl_map_snoc (fun x => x)]
  simp
theorem from20 (fu : Nat) (q : List Msg20) (p : List Pair20) (hf : p.length < fu) (hl : p.length < 1000000000) : s25 fu q p = some ((q, (p, ())), ()) := to20 fu q p hf hl
def keyP (s d : Int) (x : Pair20) : Bool := ieq x.Src s && ieq x.Dst d
def lastP (p : List Pair20) (s d : Int) : Int := match p.find? (keyP s d) with
  | some x => x.Seq
  | none => 0
theorem last20' (fu : Nat) (q : List Msg20) (p : List Pair20) (s d : Int) (hf : p.length < fu) (hl : p.length < 1000000000) : s17 fu q p s d = some (lastP p s d, ()) := by
  unfold s17
  have := iter_find (step := t17_0 fu) (fu := fu) p (fun j => (s, (d, ((), ((j : Int), ((q, (p, ())), ())))))) (keyP s d) (fun x => .inr (.inl (x.Seq, ((q, (p, ())), ())))) (.inl ((q, (p, ())), ())) hf
    (fun i x hi hq => by
      have h1 := getElem?_lt hi
      unfold keyP at hq
      simp only [t17_0, dlen_def, dat_nat, hi, ilt_len h1, iadd1 (show i < 9223372036854775807 by omega)]
      cases e1 : ieq x.Src s <;> cases e2 : ieq x.Dst d <;> simp_all)
    (fun i x hi hq => by
      have h1 := getElem?_lt hi
      unfold keyP at hq
      simp only [t17_0, dlen_def, dat_nat, hi, ilt_len h1]
      cases e1 : ieq x.Src s <;> cases e2 : ieq x.Dst d <;> simp_all)
    (by simp only [t17_0, dlen_def, ilt_end])
  rw [show ((0 : Nat) : Int) = 0 from rfl] at this
  rw [this]
  unfold lastP
  cases p.find? (keyP s d) <;> rfl
theorem last20 (fu : Nat) (q : List Msg20) (p : List Pair20) (s d : Int) (hf : p.length < fu) (hl : p.length < 1000000000) : s22 fu q p s d = some (lastP p s d, ()) := by
  unfold s22 lastP
  rcases iter_first (step := t22_0 fu) (fu := fu) p (fun j => (p, ((), ((dlen p), ((j : Int), ((d, ()), ((s, ()), ()))))))) (keyP s d) (fun j _ => .inr (.inl ((j : Int), ((d, ()), ((s, ()), ()))))) (.inl ((d, ()), ((s, ()), ()))) hf
    (fun i x hi hq => by
      have h1 := getElem?_lt hi
      unfold keyP at hq
      simp only [t22_0, dlen_def, dat_nat, hi, ilt_len h1, iadd1 (show i < 9223372036854775807 by omega)]
      cases e1 : ieq x.Src s <;> cases e2 : ieq x.Dst d <;> simp_all)
    (fun i x hi hq => by
      have h1 := getElem?_lt hi
      unfold keyP at hq
      simp only [t22_0, dlen_def, dat_nat, hi, ilt_len h1]
      cases e1 : ieq x.Src s <;> cases e2 : ieq x.Dst d <;> simp_all)
    (by simp only [t22_0, dlen_def, ilt_end]) with ⟨i, x, h1, h2, h3, h4⟩ | ⟨h1, h2⟩
  · rw [show ((0 : Nat) : Int) = 0 from rfl] at h4
    rw [h4, find_of_first h1 h2 h3]
    simp only [show ilt (i : Int) 0 = false from ilt_f.2 (by omega), dat_nat, h1]
  · rw [show ((0 : Nat) : Int) = 0 from rfl] at h2
    have : p.find? (keyP s d) = none := List.find?_eq_none.2 (fun x hx => by simp [h1 x hx])
    rw [h2, this]
    rfl
/-- As many, and one like the other. -/
def allM (a b : List Msg20) : Bool := (a.zip b).all (fun p => sameM p.1 p.2)
def eqS (q : List Msg20) (p : List Pair20) (q' : List Msg20) (p' : List Pair20) : Bool := decide (p = p') && (ieq (dlen q) (dlen q') && allM q q')
theorem allM_self (a : List Msg20) : allM a a = true := by
  unfold allM
  rw [List.all_eq_true]
  intro x hx
  have : x.1 = x.2 := by
    induction a with
    | nil => simp at hx
    | cons y a ih =>
      rw [List.zip_cons_cons, List.mem_cons] at hx
      rcases hx with rfl | hx
      · rfl
      · exact ih hx
  rw [this]
  exact sameM_self _
theorem eqS_self (q : List Msg20) (p : List Pair20) : eqS q p q p = true := by
  unfold eqS
  simp [allM_self, ieq]
theorem all_not_any {α : Type} (l : List α) (c : α → Bool) : l.all c = !l.any (fun x => !c x) := by
  induction l with
  | nil => rfl
  | cons x l ih => rw [List.all_cons, List.any_cons, ih]; simp
theorem eqpairs (fu : Nat) (p p' : List Pair20) (hf : p.length < fu) (hl : p.length < 1000000000) : s50 fu p p' = some (decide (p = p'), ()) := by
  unfold s50
  cases hq : ieq (dlen p) (dlen p') with
  | false =>
    rw [ieq_f, dlen_def, dlen_def] at hq
    have : p ≠ p' := by rintro rfl; exact hq rfl
    simp [this]
  | true =>
    rw [ieq_iff, dlen_def, dlen_def] at hq
    have hq : p.length = p'.length := by omega
    have hz : (p.zip p').length = p.length := by simp [hq]
    have := iter_any (step := t50_0 fu) (fu := fu) (p.zip p') (fun j => (p, (p', (dlen p, ((j : Int), ()))))) (fun x => !decide (x.1 = x.2)) (.inr (.inl (false, ()))) (.inl ()) (by omega)
      (fun i x hi hx => by
        have h1 := getElem?_lt hi
        obtain ⟨k1, k2⟩ := zip_get i x hi
        rw [hz] at h1
        rw [← pr_eq] at hx
        simp only [t50_0, dlen_def, dat_nat, k1, k2, ilt_len h1, iadd1 (show i < 9223372036854775807 by omega)]
        cases e1 : ieq x.1.Src x.2.Src <;> cases e2 : ieq x.1.Dst x.2.Dst <;> cases e3 : ieq x.1.Seq x.2.Seq <;> simp_all)
      (fun i x hi hx => by
        have h1 := getElem?_lt hi
        obtain ⟨k1, k2⟩ := zip_get i x hi
        rw [hz] at h1
        rw [← pr_eq] at hx
        simp only [t50_0, dlen_def, dat_nat, k1, k2, ilt_len h1]
        cases e1 : ieq x.1.Src x.2.Src <;> cases e2 : ieq x.1.Dst x.2.Dst <;> cases e3 : ieq x.1.Seq x.2.Seq <;> simp_all)
      (by simp only [t50_0, dlen_def, hz, ilt_end])
    rw [show ((0 : Nat) : Int) = 0 from rfl, list_eq_iff_all hq] at this
    simp only [this]
    by_cases h : p = p' <;> simp [h]
theorem eq20 (fu : Nat) (q q' : List Msg20) (p p' : List Pair20) (hf : p.length < fu) (hl : p.length < 1000000000) (hqf : q.length < fu) (hql : q.length ≤ 9223372036854775807) : s30 fu q p q' p' = some (eqS q p q' p', ()) := by
  unfold s30 eqS
  rw [eqpairs fu p p' hf hl]
  cases hd : decide (p = p') with
  | false => rfl
  | true =>
    simp only [Bool.true_and]
    cases hq : ieq (dlen q) (dlen q') with
    | false => rfl
    | true =>
      rw [ieq_iff, dlen_def, dlen_def] at hq
      have hq : q.length = q'.length := by omega
      have hz : (q.zip q').length = q.length := by simp [hq]
      have := iter_any (step := t30_1 fu) (fu := fu) (q.zip q') (fun j => (q', ((), (q, (dlen q, ((j : Int), ())))))) (fun x => !sameM x.1 x.2) (.inr (.inl (false, ()))) (.inl ()) (by omega)
        (fun i x hi hx => by
          have h1 := getElem?_lt hi
          obtain ⟨k1, k2⟩ := zip_get i x hi
          rw [hz] at h1
          simp only [Bool.not_eq_false'] at hx
          simp only [t30_1, dlen_def, dat_nat, k1, k2, ilt_len h1, iadd1 (show i < 9223372036854775807 by omega), smsg20', hx])
        (fun i x hi hx => by
          have h1 := getElem?_lt hi
          obtain ⟨k1, k2⟩ := zip_get i x hi
          rw [hz] at h1
          simp only [Bool.not_eq_true'] at hx
          simp only [t30_1, dlen_def, dat_nat, k1, k2, ilt_len h1, smsg20', hx])
        (by simp only [t30_1, dlen_def, hz, ilt_end])
      rw [show ((0 : Nat) : Int) = 0 from rfl] at this
      simp only [this]
      unfold allM
      rw [all_not_any]
      cases (q.zip q').any (fun x => !sameM x.1 x.2) <;> rfl
theorem eqR20 (fu : Nat) (q q' : List Msg20) (p p' : List Pair20) (hf : p.length < fu) (hl : p.length < 1000000000) (hqf : q.length < fu) (hql : q.length ≤ 9223372036854775807) : s18 fu q p q' p' = some (eqS q p q' p', ()) := by
  unfold s18 eqS
  cases hq : ieq (dlen q) (dlen q') with
  | false => simp
  | true =>
    cases hpl : ieq (dlen p) (dlen p') with
    | false =>
      rw [ieq_f, dlen_def, dlen_def] at hpl
      have : p ≠ p' := by rintro rfl; exact hpl rfl
      simp [this]
    | true =>
      rw [ieq_iff, dlen_def, dlen_def] at hq hpl
      have hq : q.length = q'.length := by omega
      have hpl : p.length = p'.length := by omega
      have hz : (q.zip q').length = q.length := by simp [hq]
      have hz2 : (p.zip p').length = p.length := by simp [hpl]
      have h1 := iter_any (step := t18_0 fu) (fu := fu) (q.zip q') (fun j => ((), ((), ((j : Int), ((q', (p', ())), ((q, (p, ())), ())))))) (fun x => !sameM x.1 x.2) (.inr (.inl (false, ((q', (p', ())), ((q, (p, ())), ()))))) (.inl ((), ((), ((q', (p', ())), ((q, (p, ())), ()))))) (by omega)
        (fun i x hi hx => by
          have h1 := getElem?_lt hi
          obtain ⟨k1, k2⟩ := zip_get i x hi
          rw [hz] at h1
          simp only [Bool.not_eq_false'] at hx
          simp only [t18_0, dlen_def, dat_nat, k1, k2, ilt_len h1, iadd1 (show i < 9223372036854775807 by omega), smsg20, hx])
        (fun i x hi hx => by
          have h1 := getElem?_lt hi
          obtain ⟨k1, k2⟩ := zip_get i x hi
          rw [hz] at h1
          simp only [Bool.not_eq_true'] at hx
          simp only [t18_0, dlen_def, dat_nat, k1, k2, ilt_len h1, smsg20, hx])
        (by simp only [t18_0, dlen_def, hz, ilt_end])
      have h2 := iter_any (step := t18_6 fu) (fu := fu) (p.zip p') (fun j => ((), ((), ((j : Int), ((q', (p', ())), ((q, (p, ())), ())))))) (fun x => !decide (x.1 = x.2)) (.inr (.inl (false, ((q', (p', ())), ((q, (p, ())), ()))))) (.inl ((q', (p', ())), ((q, (p, ())), ()))) (by omega)
        (fun i x hi hx => by
          have h1 := getElem?_lt hi
          obtain ⟨k1, k2⟩ := zip_get i x hi
          rw [hz2] at h1
          rw [← pr_eq] at hx
          simp only [t18_6, dlen_def, dat_nat, k1, k2, ilt_len h1, iadd1 (show i < 9223372036854775807 by omega)]
          cases e1 : ieq x.1.Src x.2.Src <;> cases e2 : ieq x.1.Dst x.2.Dst <;> cases e3 : ieq x.1.Seq x.2.Seq <;> simp_all)
        (fun i x hi hx => by
          have h1 := getElem?_lt hi
          obtain ⟨k1, k2⟩ := zip_get i x hi
          rw [hz2] at h1
          rw [← pr_eq] at hx
          simp only [t18_6, dlen_def, dat_nat, k1, k2, ilt_len h1]
          cases e1 : ieq x.1.Src x.2.Src <;> cases e2 : ieq x.1.Dst x.2.Dst <;> cases e3 : ieq x.1.Seq x.2.Seq <;> simp_all)
        (by simp only [t18_6, dlen_def, hz2, ilt_end])
      rw [show ((0 : Nat) : Int) = 0 from rfl] at h1 h2
      rw [list_eq_iff_all hpl] at h2
      simp only [h1]
      unfold allM
      rw [all_not_any]
      cases (q.zip q').any (fun x => !sameM x.1 x.2) with
      | true => simp
      | false =>
        simp only [Bool.false_eq_true, if_false, h2]
        by_cases h : p = p' <;> simp [h]
def fewN (q : List Msg20) : Int := q.foldl (fun n m => iadd .i64 n (iadd .i64 10 (dlen m.Data))) 0
def fewB (q : List Msg20) (p : List Pair20) : Bool := ile (fewN q) 10000 && ile (dlen p) 300
theorem few20 (fu : Nat) (q : List Msg20) (p : List Pair20) (hf : q.length < fu) (hl : q.length ≤ 9223372036854775807) : s14 fu q p = some (fewB q p, ()) := by
  unfold s14
  have := iter_fold (step := t14_0 fu) (fu := fu) q (fun j n => ((), (n, ((j : Int), ((q, (p, ())), ())))))
    (fun m n => iadd .i64 n (iadd .i64 10 (dlen m.Data))) (fun _ _ => True) (fun n => .inl ((), (n, ((q, (p, ())), ())))) 0 hf trivial
    (fun i m n hi _ => by
      have h1 := getElem?_lt hi
      simp only [t14_0, dlen_def q, dat_nat, hi, ilt_len h1, iadd1 (show i < 9223372036854775807 by omega)]
      exact ⟨trivial, trivial⟩)
    (fun n _ => by simp only [t14_0, dlen_def q, ilt_end])
  rw [show ((0 : Nat) : Int) = 0 from rfl] at this
  simp only [this]
  unfold fewB fewN
  cases ile (q.foldl (fun n m => iadd .i64 n (iadd .i64 10 (dlen m.Data))) 0) 10000 <;> rfl
def cntM (q : List Msg20) (d : Int) : Nat := (q.filter (fun m => ieq m.Dst d)).length
theorem count20' (fu : Nat) (q : List Msg20) (p : List Pair20) (d : Int) (hf : q.length < fu) (hl : q.length ≤ 9223372036854775807) : s15 fu q p d = some ((cntM q d : Int), ()) := by
  unfold s15
  obtain ⟨s, hs, hit⟩ := iter_inv (step := t15_0 fu) (fu := fu) q (fun j (n : Nat) => (d, ((), ((n : Int), ((j : Int), ((q, (p, ())), ()))))))
    (fun _ m n => bif ieq m.Dst d then n + 1 else n) (fun i n => n = cntM (q.take i) d ∧ n ≤ i) (fun n => .inl ((n : Int), ((q, (p, ())), ()))) 0 hf ⟨rfl, Nat.le_refl _⟩
    (fun i m n hi hI => by
      have h1 := getElem?_lt hi
      have ht : q.take (i + 1) = q.take i ++ [m] := by rw [List.take_add_one, hi]; rfl
      obtain ⟨hI1, hI2⟩ := hI
      unfold cntM at hI1 ⊢
      rw [ht, List.filter_append, List.length_append, ← hI1]
      simp only [t15_0, dlen_def, dat_nat, hi, ilt_len h1, iadd1 (show i < 9223372036854775807 by omega), iadd1 (show n < 9223372036854775807 by omega)]
      rw [List.filter_cons]
      cases ieq m.Dst d <;> exact ⟨rfl, rfl, by simp; omega⟩)
    (fun n _ => by simp only [t15_0, dlen_def, ilt_end])
  rw [List.take_length] at hs
  rw [show ((0 : Nat) : Int) = 0 from rfl] at hit
  rw [hit, hs.1]
theorem count20 (fu : Nat) (q : List Msg20) (p : List Pair20) (d : Int) (hf : q.length < fu) (hl : q.length ≤ 9223372036854775807) : s21 fu q p d = some ((cntM q d : Int), ()) := by
  unfold s21
  obtain ⟨s, hs, hit⟩ := iter_inv (step := t21_0 fu) (fu := fu) q (fun j (n : Nat) => (d, ((n : Int), (q, ((dlen q), ((j : Int), ()))))))
    (fun _ m n => bif ieq m.Dst d then n + 1 else n) (fun i n => n = cntM (q.take i) d ∧ n ≤ i) (fun n => .inl ((n : Int), ())) 0 hf ⟨rfl, Nat.le_refl _⟩
    (fun i m n hi hI => by
      have h1 := getElem?_lt hi
      have ht : q.take (i + 1) = q.take i ++ [m] := by rw [List.take_add_one, hi]; rfl
      obtain ⟨hI1, hI2⟩ := hI
      unfold cntM at hI1 ⊢
      rw [ht, List.filter_append, List.length_append, ← hI1]
      simp only [t21_0, dlen_def, dat_nat, hi, ilt_len h1, iadd1 (show i < 9223372036854775807 by omega), iadd1 (show n < 9223372036854775807 by omega)]
      rw [List.filter_cons]
      cases ieq m.Dst d <;> exact ⟨rfl, rfl, by simp; omega⟩)
    (fun n _ => by simp only [t21_0, dlen_def, ilt_end])
  rw [List.take_length] at hs
  rw [show ((0 : Nat) : Int) = 0 from rfl] at hit
  rw [hit, hs.1]
end Go.G
