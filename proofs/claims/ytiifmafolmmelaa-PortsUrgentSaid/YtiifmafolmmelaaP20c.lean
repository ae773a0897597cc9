import Derived.Test.YtiifmafolmmelaaP20b
import Derived.Test.YtiifmafolmmelaaGE5
set_option linter.unusedVariables false
set_option linter.unusedSimpArgs false
namespace Go.G
set_option maxRecDepth 100000
set_option maxHeartbeats 2000000
abbrev stT (q : List Msg20) (p : List Pair20) : List Msg20 × List Pair20 × Unit := (q, (p, ()))
def nmsg (p : List Pair20) (m : Msg20) : Msg20 := ⟨m.Src, m.Dst, m.Kind, iadd .i64 (lastP p m.Src m.Dst) 1, m.Args_0, m.Args_1, m.Args_2, m.Args_3, m.Data⟩
def npr (p : List Pair20) (m : Msg20) : Pair20 := ⟨m.Src, m.Dst, iadd .i64 (lastP p m.Src m.Dst) 1⟩
def sendF (q : List Msg20) (p : List Pair20) (m : Msg20) : (List Msg20 × List Pair20 × Unit) × Int × Unit :=
  bif !validB q p then (stT [] [], 1, ()) else bif !propB m then (stT [] [], 2, ()) else bif ile 400 (dlen q) || ile 1099511627776 (lastP p m.Src m.Dst) then (stT [] [], 6, ()) else
  (stT (q ++ [nmsg p m]) (putS ltP (npr p m) p), 0, ())
theorem valid_iff {q : List Msg20} {p : List Pair20} : validB q p = true ↔ ((∀ x ∈ p, okP x = true) ∧ Srt ltP p) ∧ adjQ q p = true ∧ q.length ≤ 400 := by
  unfold validB
  rw [Bool.and_eq_true, Bool.and_eq_true, adjP_iff, ile_iff, dlen_def]
  constructor
  · rintro ⟨h1, h2, h3⟩; exact ⟨h1, h2, by omega⟩
  · rintro ⟨h1, h2, h3⟩; exact ⟨h1, h2, by omega⟩
theorem okP_iff {x : Pair20} : okP x = true ↔ taskB x.Src = true ∧ taskB x.Dst = true ∧ 1 ≤ x.Seq ∧ x.Seq ≤ 1099511627776 := by
  unfold okP
  simp only [Bool.and_eq_true, Bool.not_eq_true', ilt_f]
theorem lastP_bound {p : List Pair20} (h : ∀ x ∈ p, okP x = true) (s d : Int) : 0 ≤ lastP p s d ∧ lastP p s d ≤ 1099511627776 := by
  unfold lastP
  cases hf : p.find? (keyP s d) with
  | none => simp
  | some x =>
    have := okP_iff.1 (h x (List.mem_of_find?_eq_some hf))
    simp only
    omega
theorem data_le {q : List Msg20} {p : List Pair20} (h : adjQ q p = true) : ∀ m ∈ q, m.Data.length ≤ 1536 := fun m hm => by
  obtain ⟨i, hi⟩ := List.getElem?_of_mem hm
  have := (allI_iff.1 h) i m hi
  unfold okQ propB at this
  simp only [Bool.and_eq_true, ile_iff, dlen_def] at this
  omega
theorem prop_data {m : Msg20} (h : propB m = true) : m.Data.length ≤ 1536 := by
  unfold propB at h
  simp only [Bool.and_eq_true, ile_iff, dlen_def] at h
  omega
theorem clone1 {l : List Int} (h : l.length ≤ 1536) : dapp 1 [] l = some l := dapp_nil (by omega) (by omega)
theorem map11 (fu : Nat) (q : List Msg20) (hd : ∀ m ∈ q, m.Data.length ≤ 1536) (hf : q.length < fu) (hl : q.length < 1000000) :
    iter (t11_4 fu) fu ((), ((), (q, ((dlen q), (0, ([], ())))))) = some (.inl ((), (q, ()))) := by
  have := iter_fold (step := t11_4 fu) (fu := fu) q (fun j acc => ((), ((), (q, ((dlen q), ((j : Int), (acc, ())))))))
    (fun x acc => acc ++ [x]) (fun i acc => acc.length = i) (fun acc => .inl ((), (acc, ()))) [] hf rfl
    (fun i x acc hi hI => by
      have h1 := getElem?_lt hi
      have hc := clone1 (hd x (List.mem_of_getElem? hi))
      have hda : dapp 88 acc [(⟨x.Src, x.Dst, x.Kind, x.Seq, x.Args_0, x.Args_1, x.Args_2, x.Args_3, x.Data⟩ : Msg20)] = some (acc ++ [x]) := dapp_ok (by simp; omega) (by simp; omega)
      simp only [t11_4, dlen_def q, dat_nat, hi, ilt_len h1, iadd1 (show i < 9223372036854775807 by omega), hc, hda]
      exact ⟨trivial, by simp [hI]⟩)
    (fun acc hI => by simp only [t11_4, dlen_def q, ilt_end])
  rw [show ((0 : Nat) : Int) = 0 from rfl] at this
  rw [this, foldl_map_snoc (fun x => x)]
  simp
theorem search20 (fu : Nat) (l : List Pair20) (x : Pair20) (hv : Srt ltP l) (hf : l.length + 3 < fu) (hl : l.length < 1000000000) :
    iter (t11_12 fu) fu ((), ((), ((), ((dlen l), (0, ((dlen l), ((x.Src, (x.Dst, (x.Seq, ()))), (l, ())))))))) = some (.inl ((), ((), ((), ((dlen l), (((posB ltP l x : Nat) : Int), ((x.Src, (x.Dst, (x.Seq, ()))), (l, ())))))))) := by
  have := iter_bin (step := t11_12 fu) (fu := fu) ordP hv x (fun lo hi => ((), ((), ((), ((dlen l), ((lo : Int), ((hi : Int), ((x.Src, (x.Dst, (x.Seq, ()))), (l, ())))))))))
    (fun p => .inl ((), ((), ((), ((dlen l), ((p : Int), ((x.Src, (x.Dst, (x.Seq, ()))), (l, ()))))))))
    (fun lo hi a h1 h2 h3 => by
      have hnn : ilt 1 0 = false := rfl
      simp only [t11_12, ilt_len h1, hnn, mid64 (show lo < 1000000000000 by omega) (show hi < 1000000000000 by omega), dat_nat, h3, ord20 fu (by omega), ord_lt]
      cases ltP a x with
      | true => simp only [cond_true, iadd1 (show (lo + hi) / 2 < 9223372036854775807 by omega)]
      | false => rfl)
    (fun lo _ => by simp only [t11_12, ilt_end]) (by omega)
  rw [dlen_def] at this ⊢
  exact this
theorem send20 (fu : Nat) (q : List Msg20) (p : List Pair20) (m : Msg20) (hf : p.length + 3 < fu) (hl : p.length < 1000000000) (hqf : q.length < fu) (hql : q.length ≤ 9223372036854775807) (hmd : m.Data.length ≤ 2000) :
    s11 fu q p m.Src m.Dst m.Kind m.Seq m.Args_0 m.Args_1 m.Args_2 m.Args_3 m.Data = some (sendF q p m) := by
  unfold s11 sendF
  rw [valid20 fu q p hf hl hqf hql, prop20]
  cases hv : validB q p with
  | false => rfl
  | true =>
    obtain ⟨⟨v1, v2⟩, v3, v4⟩ := valid_iff.1 hv
    cases hp : propB m with
    | false => rfl
    | true =>
      simp only [Bool.not_true, cond_false]
      have hc := clone1 (prop_data hp)
      obtain ⟨b1, b2⟩ := lastP_bound v1 m.Src m.Dst
      have hadd : iadd .i64 (lastP p m.Src m.Dst) 1 = lastP p m.Src m.Dst + 1 := iadd64 (by omega)
      have hq400 : ieq (dlen q) 400 = ile 400 (dlen q) := by rw [Bool.eq_iff_iff, ieq_iff, ile_iff, dlen_def]; omega
      have hmost : ilt 1099511627776 (iadd .i64 (lastP p m.Src m.Dst) 1) = ile 1099511627776 (lastP p m.Src m.Dst) := by rw [Bool.eq_iff_iff, ilt_iff, ile_iff, hadd]; omega
      simp only [hc, last20 fu q p _ _ (show p.length < fu by omega) hl, hq400, hmost]
      cases h1 : ile 400 (dlen q) with
      | true => rfl
      | false =>
        cases h2 : ile 1099511627776 (lastP p m.Src m.Dst) with
        | true => rfl
        | false =>
          simp only [Bool.or_false, cond_false]
          have hmap := map11 fu q (data_le v3) hqf (by omega)
          have hdp : dapp 24 [] p = some p := dapp_nil (by omega) (by omega)
          have hda : dapp 88 q [(⟨m.Src, m.Dst, m.Kind, iadd .i64 (lastP p m.Src m.Dst) 1, m.Args_0, m.Args_1, m.Args_2, m.Args_3, m.Data⟩ : Msg20)] = some (q ++ [nmsg p m]) := dapp_ok (by simp; omega) (by simp; omega)
          have hs := search20 fu p ⟨m.Src, m.Dst, 0⟩ v2 hf hl
          simp only at hs
          have ho := fun a => ord20 fu (by omega) a ⟨m.Src, m.Dst, 0⟩
          simp only at ho
          simp only [hmap, hdp, hda, hs, ho]
          have e1 : posB ltP p ⟨m.Src, m.Dst, 0⟩ = posB ltP p (npr p m) := rfl
          have e2 : ∀ a, same ltP a ⟨m.Src, m.Dst, 0⟩ = same ltP a (npr p m) := fun a => rfl
          simp only [e1]
          have hple := posB_le (lt := ltP) p (npr p m)
          have hak := any_same ordP v2 (npr p m)
          cases hk : p.any (fun a => same ltP a (npr p m)) with
          | true =>
            rw [hk] at hak
            cases hx : p[posB ltP p (npr p m)]? with
            | none => rw [hx] at hak; cases hak
            | some a =>
              rw [hx] at hak
              have hlt := getElem?_lt hx
              have hsame := hak.symm
              obtain ⟨r1, r2⟩ := putS_old ordP v2 hk
              have hkey : a.Src = m.Src ∧ a.Dst = m.Dst := by
                unfold same at hsame
                rw [Bool.and_eq_true, Bool.not_eq_true', Bool.not_eq_true', ltP_f, ltP_f] at hsame
                simp only [npr] at hsame
                omega
              have hset : (⟨a.Src, a.Dst, iadd .i64 (lastP p m.Src m.Dst) 1⟩ : Pair20) = npr p m := by rw [hkey.1, hkey.2]; rfl
              simp only [dlen_def p, ilt_len hlt, dat_nat, hx, ho, ord_eq, e2, hsame, hset, r1, dset, Int.toNat_natCast]
          | false =>
            rw [hk] at hak
            have hput := putS_new hk
            have hins : dins 24 p ((posB ltP p (npr p m) : Nat) : Int) (⟨m.Src, m.Dst, 0⟩ : Pair20) = some (p.take (posB ltP p (npr p m)) ++ ⟨m.Src, m.Dst, 0⟩ :: p.drop (posB ltP p (npr p m))) := dins_ok hple (by omega) (by omega)
            have htl : (p.take (posB ltP p (npr p m))).length = posB ltP p (npr p m) := by rw [List.length_take]; omega
            have hat : (p.take (posB ltP p (npr p m)) ++ ⟨m.Src, m.Dst, 0⟩ :: p.drop (posB ltP p (npr p m)))[posB ltP p (npr p m)]? = some ⟨m.Src, m.Dst, 0⟩ := by
              rw [List.getElem?_append_right (by omega), htl]
              simp
            have hset : (p.take (posB ltP p (npr p m)) ++ ⟨m.Src, m.Dst, 0⟩ :: p.drop (posB ltP p (npr p m))).set (posB ltP p (npr p m)) ⟨m.Src, m.Dst, iadd .i64 (lastP p m.Src m.Dst) 1⟩ = putS ltP (npr p m) p := by
              rw [hput, List.set_append_right _ _ (by omega), htl]
              simp
              rfl
            by_cases hlt : posB ltP p (npr p m) < p.length
            · have hx : p[posB ltP p (npr p m)]? = some p[posB ltP p (npr p m)] := List.getElem?_eq_getElem hlt
              rw [hx] at hak
              have hak' : same ltP p[posB ltP p (npr p m)] (npr p m) = false := hak.symm
              simp only [dlen_def p, ilt_len hlt, dat_nat, hx, ho, ord_eq, e2, hak', hins, hat, dset, Int.toNat_natCast, hset]
            · simp only [dlen_def p, show ilt ((posB ltP p (npr p m) : Nat) : Int) (p.length : Int) = false from ilt_f.2 (by omega), dat_nat, hins, hat, dset, Int.toNat_natCast, hset]
theorem key20 (a x : Pair20) : same ltP a x = (ieq a.Src x.Src && ieq a.Dst x.Dst) := by
  rw [Bool.eq_iff_iff]
  unfold same
  rw [Bool.and_eq_true, Bool.not_eq_true', Bool.not_eq_true', ltP_f, ltP_f, Bool.and_eq_true, ieq_iff, ieq_iff]
  omega
theorem bef20 (fu : Nat) (y x : Pair20) : s48 fu y.Src y.Dst y.Seq x.Src x.Dst x.Seq = some (ltP y x, ()) := by
  unfold s48 ltP
  cases ilt y.Src x.Src <;> cases ieq y.Src x.Src <;> rfl
theorem cnt47 (fu : Nat) (p : List Pair20) (x : Pair20) (hs : Srt ltP p) (hf : p.length < fu) (hl : p.length < 100000000) : s47 fu p x.Src x.Dst x.Seq = some (putS ltP x p, ()) := by
  unfold s47
  have hit := iter_fold (step := t47_0 fu) (fu := fu) p (fun j (s : Bool × List Pair20) => (p, ((), ((), (s.1, ((j : Int), (s.2, ((x.Src, (x.Dst, (x.Seq, ()))), ()))))))))
    (fun a s => refG ltP x a s) (fun i s => s.2.length ≤ 2 * i)
    (fun s => .inl ((), ((), (s.1, (s.2, ((x.Src, (x.Dst, (x.Seq, ()))), ())))))) (false, []) (by omega) (Nat.zero_le _)
    (fun i a s hi hI => by
      obtain ⟨d, out⟩ := s
      simp only at hI
      have h1 := getElem?_lt hi
      have hd1 : ∀ y : Pair20, dapp 24 out [y] = some (out ++ [y]) := fun y => dapp_ok (by simp; omega) (by simp; omega)
      have hd2 : ∀ y z : Pair20, dapp 24 (out ++ [y]) [z] = some (out ++ [y] ++ [z]) := fun y z => dapp_ok (by simp; omega) (by simp; omega)
      have hb := bef20 fu a x
      have hk := key20 a x
      have hy : (⟨a.Src, a.Dst, a.Seq⟩ : Pair20) = a := rfl
      have hx : (⟨x.Src, x.Dst, x.Seq⟩ : Pair20) = x := rfl
      unfold refG
      rw [hk]
      simp only [t47_0, dlen_def p, ilt_len h1, dat_nat, hi, hb, iadd1 (show i < 9223372036854775807 by omega), hy, hx, hd1, hd2]
      cases d <;> cases ltP a x <;> cases ieq a.Src x.Src <;> cases ieq a.Dst x.Dst <;> first | exact ⟨rfl, by simp; omega⟩ | exact ⟨rfl, by simp⟩)
    (fun s _ => by simp only [t47_0, dlen_def, ilt_end])
  rw [show ((0 : Nat) : Int) = 0 from rfl] at hit
  rw [hit]
  simp only [refG_false ordP _ p [] hs]
  cases hall : p.all (fun a => ltP a x) with
  | true =>
    have hd1 : dapp 24 p [(⟨x.Src, x.Dst, x.Seq⟩ : Pair20)] = some (p ++ [x]) := dapp_ok (by simp; omega) (by simp; omega)
    simp only [cond_true, List.nil_append, hd1, putS_all hall]
  | false => simp only [cond_false, List.nil_append]
theorem sendR20 (fu : Nat) (q : List Msg20) (p : List Pair20) (m : Msg20) (hf : p.length + 3 < fu) (hl : p.length < 100000000) (hqf : q.length < fu) (hql : q.length ≤ 9223372036854775807) (hmd : m.Data.length ≤ 2000) :
    s28 fu q p m.Src m.Dst m.Kind m.Seq m.Args_0 m.Args_1 m.Args_2 m.Args_3 m.Data = some (sendF q p m) := by
  unfold s28 sendF
  rw [validR20 fu q p hf (by omega) hqf hql, prop20']
  cases hv : validB q p with
  | false => rfl
  | true =>
    obtain ⟨⟨v1, v2⟩, v3, v4⟩ := valid_iff.1 hv
    cases hp : propB m with
    | false => rfl
    | true =>
      simp only [Bool.not_true, cond_false, last20' fu q p _ _ (show p.length < fu by omega) (by omega)]
      cases h1 : ile 400 (dlen q) with
      | true => rfl
      | false =>
        cases h2 : ile 1099511627776 (lastP p m.Src m.Dst) with
        | true => rfl
        | false =>
          have hc := clone1 (prop_data hp)
          have hdq : dapp 88 [] q = some q := dapp_nil (by omega) (by omega)
          have hda : dapp 88 q [(⟨m.Src, m.Dst, m.Kind, iadd .i64 (lastP p m.Src m.Dst) 1, m.Args_0, m.Args_1, m.Args_2, m.Args_3, m.Data⟩ : Msg20)] = some (q ++ [nmsg p m]) := dapp_ok (by simp; omega) (by simp; omega)
          have hcn := cnt47 fu p (npr p m) v2 (by omega) hl
          simp only [npr] at hcn
          simp only [Bool.or_false, cond_false, hc, hdq, hda, hcn]
          rfl
end Go.G
