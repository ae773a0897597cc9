import Derived.Test.YtiifmafolmmelaaP20a
set_option linter.unusedVariables false
set_option linter.unusedSimpArgs false
namespace Go.G
set_option maxRecDepth 100000
set_option maxHeartbeats 2000000
def okP (x : Pair20) : Bool := taskB x.Src && (taskB x.Dst && (!ilt x.Seq 1 && !ilt 1099511627776 x.Seq))
def adjP (p : List Pair20) : Bool := allI (fun i x => adjB ltP okP (p.take i) x) p 0
theorem adjP_iff {p : List Pair20} : adjP p = true ↔ (∀ x ∈ p, okP x = true) ∧ Srt ltP p := adj_iff ordP
/-- Of the same pair. -/
def ofP (a m : Msg20) : Bool := ieq a.Src m.Src && ieq a.Dst m.Dst
def risB (p : List Pair20) (pre : List Msg20) (m : Msg20) : Bool := !pre.any (fun x => ofP x m && ile m.Seq x.Seq) && (ile 1 m.Seq && ile m.Seq (lastP p m.Src m.Dst))
def okQ (p : List Pair20) (pre : List Msg20) (m : Msg20) : Bool := propB m && risB p pre m
def adjQ (q : List Msg20) (p : List Pair20) : Bool := allI (fun i m => okQ p (q.take i) m) q 0
def validB (q : List Msg20) (p : List Pair20) : Bool := adjP p && (adjQ q p && ile (dlen q) 400)
theorem pairsR (fu : Nat) (q : List Msg20) (p : List Pair20) (hf : p.length + 3 < fu) (hl : p.length < 1000000000) :
    iter (t29_0 fu) fu ((), (0, ((q, (p, ())), ()))) = some (bif adjP p then .inl ((), ((q, (p, ())), ())) else .inr (.inl (false, ((q, (p, ())), ())))) := by
  have := iter_walk (step := t29_0 fu) (fu := fu) (ε := (Unit × (((List Msg20) × ((List Pair20) × Unit)) × Unit)) ⊕ ((Bool × (((List Msg20) × ((List Pair20) × Unit)) × Unit)) ⊕ Empty)) p (fun j (_ : Unit) => ((), ((j : Int), ((q, (p, ())), ()))))
    (fun i x _ => if adjB ltP okP (p.take i) x then .inl () else .inr (.inr (.inl (false, ((q, (p, ())), ()))))) (fun _ _ => True) (fun _ => .inl ((), ((q, (p, ())), ()))) () (by omega) trivial
    (fun i x _ hi _ => by
      have h1 := getElem?_lt hi
      have hid := iadd1 (show i < 9223372036854775807 by omega)
      simp only [t29_0, dlen_def p, dat_nat, hi, ilt_len h1, task20']
      cases i with
      | zero =>
        have hz : ilt 0 ((0 : Nat) : Int) = false := rfl
        have hok : adjB ltP okP (p.take 0) x = okP x := by simp [adjB]
        rw [hok]
        unfold okP
        simp only [hz, hid]
        cases taskB x.Src <;> cases taskB x.Dst <;> cases ilt x.Seq 1 <;> cases ilt 1099511627776 x.Seq <;> first | rfl | exact ⟨rfl, trivial⟩
      | succ i =>
        have hz : ilt 0 ((i + 1 : Nat) : Int) = true := ilt_iff.2 (by omega)
        obtain ⟨y, p1, p2⟩ := getD_idx (l := p) (i := i + 1) (by omega) (by omega)
        have hs : isub .i64 ((i + 1 : Nat) : Int) 1 = ((i : Nat) : Int) := by rw [isub64 (by omega)]; omega
        simp only [Nat.add_sub_cancel] at p1
        have hok : adjB ltP okP (p.take (i + 1)) x = (okP x && ltP y x) := by simp [adjB, p2]
        rw [hok]
        unfold okP
        have hb : s48 fu y.Src y.Dst y.Seq x.Src x.Dst x.Seq = some (ltP y x, ()) := by
          unfold s48 ltP
          cases ilt y.Src x.Src <;> cases ieq y.Src x.Src <;> rfl
        simp only [hz, hs, dat_nat, p1, hid, hb]
        cases taskB x.Src <;> cases taskB x.Dst <;> cases ilt x.Seq 1 <;> cases ilt 1099511627776 x.Seq <;> cases ltP y x <;> first | rfl | exact ⟨rfl, trivial⟩)
    (fun _ _ => by simp only [t29_0, dlen_def p, ilt_end])
  rw [show ((0 : Nat) : Int) = 0 from rfl] at this
  rw [this]
  rcases walk_check (ε := (Unit × (((List Msg20) × ((List Pair20) × Unit)) × Unit)) ⊕ ((Bool × (((List Msg20) × ((List Pair20) × Unit)) × Unit)) ⊕ Empty)) (fun i x => adjB ltP okP (p.take i) x) (fun _ _ => .inr (.inl (false, ((q, (p, ())), ())))) p 0 with ⟨h1, h2⟩ | ⟨h1, i, x, h2⟩
  · rw [h2, show adjP p = true from h1]; rfl
  · rw [h2, show adjP p = false from h1]; rfl
theorem pairs26 (fu : Nat) (q : List Msg20) (p : List Pair20) (hf : p.length + 3 < fu) (hl : p.length < 1000000000) :
    iter (t26_0 fu) fu ((), (p, ((dlen p), (0, ((q, (p, ())), ()))))) = some (bif adjP p then .inl ((), ((q, (p, ())), ())) else .inr (.inl (false, ((q, (p, ())), ())))) := by
  have := iter_walk (step := t26_0 fu) (fu := fu) (ε := (Unit × (((List Msg20) × ((List Pair20) × Unit)) × Unit)) ⊕ ((Bool × (((List Msg20) × ((List Pair20) × Unit)) × Unit)) ⊕ Empty)) p (fun j (_ : Unit) => ((), (p, ((dlen p), ((j : Int), ((q, (p, ())), ()))))))
    (fun i x _ => if adjB ltP okP (p.take i) x then .inl () else .inr (.inr (.inl (false, ((q, (p, ())), ()))))) (fun _ _ => True) (fun _ => .inl ((), ((q, (p, ())), ()))) () (by omega) trivial
    (fun i x _ hi _ => by
      have h1 := getElem?_lt hi
      have hid := iadd1 (show i < 9223372036854775807 by omega)
      simp only [t26_0, dlen_def p, dat_nat, hi, ilt_len h1, task20]
      cases i with
      | zero =>
        have hz : ilt 0 ((0 : Nat) : Int) = false := rfl
        have hok : adjB ltP okP (p.take 0) x = okP x := by simp [adjB]
        rw [hok]
        unfold okP
        simp only [hz, hid]
        cases taskB x.Src <;> cases taskB x.Dst <;> cases ilt x.Seq 1 <;> cases ilt 1099511627776 x.Seq <;> first | rfl | exact ⟨rfl, trivial⟩
      | succ i =>
        have hz : ilt 0 ((i + 1 : Nat) : Int) = true := ilt_iff.2 (by omega)
        obtain ⟨y, p1, p2⟩ := getD_idx (l := p) (i := i + 1) (by omega) (by omega)
        have hs : isub .i64 ((i + 1 : Nat) : Int) 1 = ((i : Nat) : Int) := by rw [isub64 (by omega)]; omega
        simp only [Nat.add_sub_cancel] at p1
        have hok : adjB ltP okP (p.take (i + 1)) x = (okP x && ltP y x) := by simp [adjB, p2]
        rw [hok]
        unfold okP
        simp only [hz, hs, dat_nat, p1, hid, ord20 fu (by omega), ord_ge]
        cases taskB x.Src <;> cases taskB x.Dst <;> cases ilt x.Seq 1 <;> cases ilt 1099511627776 x.Seq <;> cases ltP y x <;> first | rfl | exact ⟨rfl, trivial⟩)
    (fun _ _ => by simp only [t26_0, dlen_def p, ilt_end])
  rw [show ((0 : Nat) : Int) = 0 from rfl] at this
  rw [this]
  rcases walk_check (ε := (Unit × (((List Msg20) × ((List Pair20) × Unit)) × Unit)) ⊕ ((Bool × (((List Msg20) × ((List Pair20) × Unit)) × Unit)) ⊕ Empty)) (fun i x => adjB ltP okP (p.take i) x) (fun _ _ => .inr (.inl (false, ((q, (p, ())), ())))) p 0 with ⟨h1, h2⟩ | ⟨h1, i, x, h2⟩
  · rw [h2, show adjP p = true from h1]; rfl
  · rw [h2, show adjP p = false from h1]; rfl
theorem rising20 (fu : Nat) (q : List Msg20) (p : List Pair20) (i : Nat) (m : Msg20) (hm : q[i]? = some m) (hf : p.length < fu) (hl : p.length < 1000000000) (hqf : q.length < fu) (hql : q.length ≤ 9223372036854775807) :
    s49 fu q p (i : Int) = some (risB p (q.take i) m, ()) := by
  have hi := getElem?_lt hm
  unfold s49 risB
  simp only [dat_nat, hm]
  have htl : (q.take i).length = i := by rw [List.length_take]; omega
  have := iter_any (step := t49_1 fu) (fu := fu) (q.take i) (fun j => ((i : Int), ((), ((), ((j : Int), ((m.Src, (m.Dst, (m.Kind, (m.Seq, (m.Args_0, (m.Args_1, (m.Args_2, (m.Args_3, (m.Data, ()))))))))), ((q, (p, ())), ())))))))
    (fun x => ofP x m && ile m.Seq x.Seq) (.inr (.inl (false, ((m.Src, (m.Dst, (m.Kind, (m.Seq, (m.Args_0, (m.Args_1, (m.Args_2, (m.Args_3, (m.Data, ()))))))))), ((q, (p, ())), ()))))) (.inl ((), ((), ((m.Src, (m.Dst, (m.Kind, (m.Seq, (m.Args_0, (m.Args_1, (m.Args_2, (m.Args_3, (m.Data, ()))))))))), ((q, (p, ())), ()))))) (by omega)
    (fun j x hj hx => by
      have h1 := getElem?_lt hj
      rw [htl] at h1
      rw [List.getElem?_take_of_lt h1] at hj
      unfold ofP at hx
      simp only [t49_1, dat_nat, hj, ilt_len h1, iadd1 (show j < 9223372036854775807 by omega)]
      cases e1 : ieq x.Src m.Src <;> cases e2 : ieq x.Dst m.Dst <;> cases e3 : ile m.Seq x.Seq <;> simp_all)
    (fun j x hj hx => by
      have h1 := getElem?_lt hj
      rw [htl] at h1
      rw [List.getElem?_take_of_lt h1] at hj
      unfold ofP at hx
      simp only [t49_1, dat_nat, hj, ilt_len h1]
      cases e1 : ieq x.Src m.Src <;> cases e2 : ieq x.Dst m.Dst <;> cases e3 : ile m.Seq x.Seq <;> simp_all)
    (by simp only [t49_1, htl, ilt_end])
  rw [show ((0 : Nat) : Int) = 0 from rfl] at this
  rw [this]
  cases (q.take i).any (fun x => ofP x m && ile m.Seq x.Seq) with
  | true => rfl
  | false =>
    simp only [Bool.false_eq_true, if_false, last20' fu q p m.Src m.Dst hf hl, Bool.not_false, Bool.true_and]
    cases ile 1 m.Seq <;> rfl
theorem validR20 (fu : Nat) (q : List Msg20) (p : List Pair20) (hf : p.length + 3 < fu) (hl : p.length < 1000000000) (hqf : q.length < fu) (hql : q.length ≤ 9223372036854775807) : s29 fu q p = some (validB q p, ()) := by
  unfold s29 validB
  rw [pairsR fu q p hf hl]
  cases hp : adjP p with
  | false => rfl
  | true =>
    simp only [cond_true, Bool.true_and]
    have h400 : ilt 400 (dlen q) = !ile (dlen q) 400 := by rw [Bool.eq_iff_iff, Bool.not_eq_true', ilt_iff, ile_f]
    rw [h400]
    cases ile (dlen q) 400 with
    | false => simp
    | true =>
      simp only [Bool.not_true, Bool.and_true]
      have := iter_walk (step := t29_8 fu) (fu := fu) (ε := (((List Msg20) × ((List Pair20) × Unit)) × Unit) ⊕ ((Bool × (((List Msg20) × ((List Pair20) × Unit)) × Unit)) ⊕ Empty)) q (fun j (_ : Unit) => ((), ((j : Int), ((q, (p, ())), ()))))
        (fun i m _ => if okQ p (q.take i) m then .inl () else .inr (.inr (.inl (false, ((q, (p, ())), ()))))) (fun _ _ => True) (fun _ => .inl ((q, (p, ())), ())) () hqf trivial
        (fun i m _ hi _ => by
          have h1 := getElem?_lt hi
          have hid := iadd1 (show i < 9223372036854775807 by omega)
          unfold okQ
          simp only [t29_8, dlen_def q, dat_nat, hi, ilt_len h1, prop20', rising20 fu q p i m hi (by omega) hl hqf hql, hid]
          cases propB m <;> cases risB p (q.take i) m <;> first | rfl | exact ⟨rfl, trivial⟩)
        (fun _ _ => by simp only [t29_8, dlen_def q, ilt_end])
      rw [show ((0 : Nat) : Int) = 0 from rfl] at this
      rw [this]
      rcases walk_check (ε := (((List Msg20) × ((List Pair20) × Unit)) × Unit) ⊕ ((Bool × (((List Msg20) × ((List Pair20) × Unit)) × Unit)) ⊕ Empty)) (fun i m => okQ p (q.take i) m) (fun _ _ => .inr (.inl (false, ((q, (p, ())), ())))) q 0 with ⟨h1, h2⟩ | ⟨h1, i, x, h2⟩
      · rw [h2, show adjQ q p = true from h1]
      · rw [h2, show adjQ q p = false from h1]
/-- The number of the last message of a pair. -/
def mxS (pre : List Msg20) (s d : Int) : Option Int := (pre.reverse.find? (fun x => ieq x.Src s && ieq x.Dst d)).map (·.Seq)
theorem mxS_snoc (pre : List Msg20) (m : Msg20) (s d : Int) : mxS (pre ++ [m]) s d = if ieq m.Src s && ieq m.Dst d then some m.Seq else mxS pre s d := by
  unfold mxS
  rw [List.reverse_append, List.reverse_singleton, List.singleton_append, List.find?_cons]
  cases ieq m.Src s && ieq m.Dst d <;> simp
theorem keq_iff {a b : Pair20} : keq20_pair a b = true ↔ a.Src = b.Src ∧ a.Dst = b.Dst ∧ a.Seq = b.Seq := by
  unfold keq20_pair
  simp [ieq]
theorem mset_mx {pre : List Msg20} {M : List (Pair20 × Int)} (h : ∀ s d, mfind keq20_pair M ⟨s, d, 0⟩ = mxS pre s d) (m : Msg20) (s d : Int) : mfind keq20_pair (mset keq20_pair M ⟨m.Src, m.Dst, 0⟩ m.Seq) ⟨s, d, 0⟩ = mxS (pre ++ [m]) s d := by
  rw [mfind_mset (fun a b c h => by
      rw [Bool.eq_iff_iff, keq_iff, keq_iff]
      rw [keq_iff] at h
      obtain ⟨h1, h2, h3⟩ := h
      rw [h1, h2, h3]) (fun a b => by
      rw [Bool.eq_iff_iff, keq_iff, keq_iff]
      exact ⟨fun ⟨a, b, c⟩ => ⟨a.symm, b.symm, c.symm⟩, fun ⟨a, b, c⟩ => ⟨a.symm, b.symm, c.symm⟩⟩), mxS_snoc, h]
  have : keq20_pair ⟨s, d, 0⟩ ⟨m.Src, m.Dst, 0⟩ = (ieq m.Src s && ieq m.Dst d) := by
    rw [Bool.eq_iff_iff, keq_iff, Bool.and_eq_true, ieq_iff, ieq_iff]
    exact ⟨fun ⟨a, b, _⟩ => ⟨a.symm, b.symm⟩, fun ⟨a, b⟩ => ⟨a.symm, b.symm, rfl⟩⟩
  rw [this]
/-- The messages ahead are all right: the last of a pair has the greatest number. -/
def Ris (pre : List Msg20) : Prop := ∀ s d, (∀ x ∈ pre, x.Src = s → x.Dst = d → ∃ v, mxS pre s d = some v ∧ x.Seq ≤ v) ∧ ∀ v, mxS pre s d = some v → 1 ≤ v ∧ ∃ x ∈ pre, x.Src = s ∧ x.Dst = d ∧ x.Seq = v
theorem ris_nil : Ris [] := fun s d => ⟨fun x hx => (by cases hx), fun v h => (by simp [mxS] at h)⟩
theorem ris_snoc {p : List Pair20} {pre : List Msg20} {m : Msg20} (h : Ris pre) (hm : risB p pre m = true) : Ris (pre ++ [m]) := by
  unfold risB at hm
  simp only [Bool.and_eq_true, Bool.not_eq_true', List.any_eq_false, ile_iff] at hm
  obtain ⟨h1, h2, h3⟩ := hm
  intro s d
  rw [mxS_snoc]
  by_cases e : (ieq m.Src s && ieq m.Dst d) = true
  · rw [if_pos e]
    rw [Bool.and_eq_true, ieq_iff, ieq_iff] at e
    refine ⟨fun x hx e1 e2 => ⟨m.Seq, rfl, ?_⟩, fun v hv => ?_⟩
    · rcases List.mem_append.1 hx with hx | hx
      · have := h1 x hx
        simp only [ofP, Bool.and_eq_true, ieq_iff, ile_iff, not_and] at this
        have := this ⟨by omega, by omega⟩
        omega
      · simp at hx; subst hx; omega
    · cases hv
      exact ⟨h2, m, by simp, e.1, e.2, rfl⟩
  · rw [if_neg e]
    rw [Bool.and_eq_true, ieq_iff, ieq_iff] at e
    obtain ⟨r1, r2⟩ := h s d
    refine ⟨fun x hx e1 e2 => ?_, fun v hv => ?_⟩
    · rcases List.mem_append.1 hx with hx | hx
      · exact r1 x hx e1 e2
      · simp at hx; subst hx; exact absurd ⟨e1, e2⟩ e
    · obtain ⟨q1, x, q2, q3⟩ := r2 v hv
      exact ⟨q1, x, by simp [q2], q3⟩
theorem risB_eq {p : List Pair20} {pre : List Msg20} {m : Msg20} (h : Ris pre) : risB p pre m = match mxS pre m.Src m.Dst with
    | none => !ile m.Seq 0 && !ilt (lastP p m.Src m.Dst) m.Seq
    | some v => !ile m.Seq v && !ilt (lastP p m.Src m.Dst) m.Seq := by
  obtain ⟨r1, r2⟩ := h m.Src m.Dst
  have hl : (!ilt (lastP p m.Src m.Dst) m.Seq) = ile m.Seq (lastP p m.Src m.Dst) := by rw [Bool.eq_iff_iff, Bool.not_eq_true', ilt_f, ile_iff]
  unfold risB
  rw [← Bool.and_assoc, hl]
  have key : (!pre.any (fun x => ofP x m && ile m.Seq x.Seq) && ile 1 m.Seq) = match mxS pre m.Src m.Dst with
      | none => !ile m.Seq 0
      | some v => !ile m.Seq v := by
    cases hx : mxS pre m.Src m.Dst with
    | none =>
      rw [hx] at r1
      have : pre.any (fun x => ofP x m && ile m.Seq x.Seq) = false := by
        rw [List.any_eq_false]
        intro x hx' hh
        simp only [ofP, Bool.and_eq_true, ieq_iff] at hh
        obtain ⟨v, hv, _⟩ := r1 x hx' hh.1.1 hh.1.2
        cases hv
      rw [this, Bool.eq_iff_iff]
      simp only [Bool.not_false, Bool.true_and, ile_iff, Bool.not_eq_true', ile_f]
      omega
    | some v =>
      rw [hx] at r1 r2
      obtain ⟨v1, x, x1, x2, x3, x4⟩ := r2 v rfl
      rw [Bool.eq_iff_iff, Bool.and_eq_true, Bool.not_eq_true', List.any_eq_false, ile_iff, Bool.not_eq_true', ile_f]
      constructor
      · rintro ⟨h1, h2⟩
        have := h1 x x1
        simp only [ofP, Bool.and_eq_true, ieq_iff, ile_iff, not_and] at this
        have := this ⟨x2, x3⟩
        omega
      · intro hv
        refine ⟨fun y hy hh => ?_, by omega⟩
        simp only [ofP, Bool.and_eq_true, ieq_iff, ile_iff] at hh
        obtain ⟨v', e1, e2⟩ := r1 y hy hh.1.1 hh.1.2
        cases e1
        omega
  rw [key]
  cases mxS pre m.Src m.Dst <;> rfl
theorem valid20 (fu : Nat) (q : List Msg20) (p : List Pair20) (hf : p.length + 3 < fu) (hl : p.length < 1000000000) (hqf : q.length < fu) (hql : q.length ≤ 9223372036854775807) : s26 fu q p = some (validB q p, ()) := by
  unfold s26 validB
  rw [pairs26 fu q p hf hl]
  cases hp : adjP p with
  | false => rfl
  | true =>
    simp only [cond_true, Bool.true_and]
    have key : ∀ (r : List Msg20) (i fu' : Nat) (M : List (Pair20 × Int)), q.drop i = r → r.length < fu' → Ris (q.take i) → (∀ s d, mfind keq20_pair M ⟨s, d, 0⟩ = mxS (q.take i) s d) →
        (allI (fun i m => okQ p (q.take i) m) r i = true ∧ ∃ M', iter (t26_8 fu) fu' ((), ((), (q, ((dlen q), ((i : Int), (M, ((q, (p, ())), ()))))))) = some (.inl ((), (M', ((q, (p, ())), ()))))) ∨
        (allI (fun i m => okQ p (q.take i) m) r i = false ∧ ∃ M', iter (t26_8 fu) fu' ((), ((), (q, ((dlen q), ((i : Int), (M, ((q, (p, ())), ()))))))) = some (.inr (.inl (false, (M', ((q, (p, ())), ())))))) := by
      intro r
      induction r with
      | nil =>
        intro i fu' M hd hlt _ _
        obtain ⟨k, rfl⟩ : ∃ k, fu' = k + 1 := ⟨fu' - 1, by omega⟩
        have : q.length ≤ i := by
          have := congrArg List.length hd
          rw [List.length_drop] at this
          simp at this
          omega
        exact .inl ⟨rfl, M, by simp only [iter, t26_8, dlen_def q, show ilt (i : Int) (q.length : Int) = false from ilt_f.2 (by omega)]⟩
      | cons m r ih =>
        intro i fu' M hd hlt hR hM
        obtain ⟨k, rfl⟩ : ∃ k, fu' = k + 1 := ⟨fu' - 1, by omega⟩
        have hi : i < q.length := by
          have := congrArg List.length hd
          rw [List.length_drop, List.length_cons] at this
          omega
        have hm : q[i]? = some m := by
          have := List.drop_eq_getElem_cons hi
          rw [hd] at this
          rw [List.getElem?_eq_getElem hi]
          exact congrArg some (List.cons.inj this).1.symm
        have hd' : q.drop (i + 1) = r := by
          have := List.drop_eq_getElem_cons hi
          rw [hd] at this
          exact (List.cons.inj this).2.symm
        have ht : q.take (i + 1) = q.take i ++ [m] := by rw [List.take_add_one, hm]; rfl
        have hid := iadd1 (show i < 9223372036854775807 by omega)
        rw [List.length_cons] at hlt
        have hok : okQ p (q.take i) m = (propB m && risB p (q.take i) m) := rfl
        have hre := risB_eq (p := p) (m := m) hR
        cases hpm : propB m with
        | false =>
          right
          refine ⟨by simp [allI, hok, hpm], M, ?_⟩
          simp only [iter, t26_8, dlen_def q, ilt_len hi, dat_nat, hm, prop20, hpm]
        | true =>
          cases hrm : risB p (q.take i) m with
          | false =>
            right
            refine ⟨by simp [allI, hok, hpm, hrm], M, ?_⟩
            rw [hrm] at hre
            simp only [iter, t26_8, dlen_def q, ilt_len hi, dat_nat, hm, prop20, hpm, hM, last20 fu q p _ _ (show p.length < fu by omega) hl]
            cases hx : mxS (q.take i) m.Src m.Dst with
            | none =>
              rw [hx] at hre
              simp only at hre ⊢
              cases e1 : ile m.Seq 0 with
              | true => rfl
              | false =>
                cases e2 : ilt (lastP p m.Src m.Dst) m.Seq with
                | true => rfl
                | false => rw [e1, e2] at hre; cases hre
            | some v =>
              rw [hx] at hre
              simp only at hre ⊢
              cases e1 : ile m.Seq v with
              | true => rfl
              | false =>
                cases e2 : ilt (lastP p m.Src m.Dst) m.Seq with
                | true => rfl
                | false => rw [e1, e2] at hre; cases hre
          | true =>
            rw [hrm] at hre
            have hstep : t26_8 fu ((), ((), (q, ((dlen q), ((i : Int), (M, ((q, (p, ())), ()))))))) = some (.inl ((), ((), (q, ((dlen q), (((i + 1 : Nat) : Int), (mset keq20_pair M ⟨m.Src, m.Dst, 0⟩ m.Seq, ((q, (p, ())), ())))))))) := by
              simp only [t26_8, dlen_def q, ilt_len hi, dat_nat, hm, prop20, hpm, hM, last20 fu q p _ _ (show p.length < fu by omega) hl, hid]
              cases hx : mxS (q.take i) m.Src m.Dst with
              | none =>
                rw [hx] at hre
                simp only at hre ⊢
                cases e1 : ile m.Seq 0 with
                | true => rw [e1] at hre; cases hre
                | false =>
                  cases e2 : ilt (lastP p m.Src m.Dst) m.Seq with
                  | true => rw [e1, e2] at hre; cases hre
                  | false => rfl
              | some v =>
                rw [hx] at hre
                simp only at hre ⊢
                cases e1 : ile m.Seq v with
                | true => rw [e1] at hre; cases hre
                | false =>
                  cases e2 : ilt (lastP p m.Src m.Dst) m.Seq with
                  | true => rw [e1, e2] at hre; cases hre
                  | false => rfl
            have hih := ih (i + 1) k (mset keq20_pair M ⟨m.Src, m.Dst, 0⟩ m.Seq) hd' (by omega) (by rw [ht]; exact ris_snoc hR hrm) (fun s d => by rw [ht]; exact mset_mx hM m s d)
            have ha : allI (fun i m => okQ p (q.take i) m) (m :: r) i = allI (fun i m => okQ p (q.take i) m) r (i + 1) := by simp [allI, hok, hpm, hrm]
            rw [ha]
            simp only [iter, hstep]
            exact hih
    rcases key q 0 fu [] (by simp) hqf (by simpa using ris_nil) (fun s d => by simp [mfind, mxS]) with ⟨h1, M', h2⟩ | ⟨h1, M', h2⟩
    · rw [show ((0 : Nat) : Int) = 0 from rfl] at h2
      rw [h2, show adjQ q p = true from h1]
      simp
    · rw [show ((0 : Nat) : Int) = 0 from rfl] at h2
      rw [h2, show adjQ q p = false from h1]
      simp
end Go.G
