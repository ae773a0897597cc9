import Derived.Test.YtiifmafolmmelaaP20g
set_option linter.unusedVariables false
set_option linter.unusedSimpArgs false
namespace Go.G
set_option maxRecDepth 100000
set_option maxHeartbeats 8000000
theorem m23a : t23_8 = t11_4 := rfl
theorem m23b : t23_16 = t11_12 := rfl
theorem m23c : t23_71 = t11_4 := rfl
theorem m23d : t23_79 = t11_12 := rfl
theorem m23e : t23_90 = t23_27 := rfl
theorem m23f : t23_105 = t23_27 := rfl
theorem m23g : t23_118 = t23_27 := rfl
theorem first23 (fu : Nat) (q : List Msg20) (d : Int) (hqf : q.length < fu) (hql : q.length ≤ 9223372036854775807) :
    (∃ (i : Nat) (x : Msg20), q[i]? = some x ∧ isD d x = true ∧ (∀ (j : Nat) (b : Msg20), j < i → q[j]? = some b → isD d b = false) ∧ iter (t23_0 fu) fu (q, ((), ((dlen q), (0, ((d, ()), ()))))) = some (.inr (.inl ((i : Int), ((d, ()), ()))))) ∨
    ((∀ y ∈ q, isD d y = false) ∧ iter (t23_0 fu) fu (q, ((), ((dlen q), (0, ((d, ()), ()))))) = some (.inl ((d, ()), ()))) := by
  have := iter_first (step := t23_0 fu) (fu := fu) q (fun j => (q, ((), ((dlen q), ((j : Int), ((d, ()), ())))))) (isD d) (fun j _ => .inr (.inl ((j : Int), ((d, ()), ())))) (.inl ((d, ()), ())) hqf
    (fun i x hi hq => by
      have h1 := getElem?_lt hi
      unfold isD at hq
      simp only [t23_0, dlen_def q, dat_nat, hi, ilt_len h1, hq, iadd1 (show i < 9223372036854775807 by omega)])
    (fun i x hi hq => by
      have h1 := getElem?_lt hi
      unfold isD at hq
      simp only [t23_0, dlen_def q, dat_nat, hi, ilt_len h1, hq])
    (by simp only [t23_0, dlen_def q, ilt_end])
  rw [show ((0 : Nat) : Int) = 0 from rfl] at this
  exact this
theorem urgF_ok {q : List Msg20} {p : List Pair20} {m : Msg20} (hv : validB q p = true) (hp : propB m = true) (h1 : q.length < 400) (h2 : ile 1099511627776 (lastP p m.Src m.Dst) = false) : urgF q p m = (stT (urgQ q (nmsg p m)) (putS ltP (npr p m) p), 0, ()) := by
  unfold urgF sendF
  have h1' : ile 400 (dlen q) = false := by rw [ile_f, dlen_def]; omega
  rw [hv, hp, h1', h2]
  rfl
theorem urgent20 (fu : Nat) (q : List Msg20) (p : List Pair20) (m : Msg20) (hf : p.length + 3 < fu) (hl : p.length < 1000000000) (hqf : q.length < fu) (hql : q.length ≤ 9223372036854775807) (hmd : m.Data.length ≤ 2000) :
    s23 fu q p m.Src m.Dst m.Kind m.Seq m.Args_0 m.Args_1 m.Args_2 m.Args_3 m.Data = some (urgF q p m) := by
  unfold s23
  rcases first23 fu q m.Dst hqf hql with ⟨i0, x0, hi0, hx0, hb0, hit⟩ | ⟨hno, hit⟩
  · rw [hit]
    have hneg : ilt (i0 : Int) 0 = false := ilt_f.2 (by omega)
    have z0 : ieq 0 0 = true := rfl
    have z1 : ieq 1 0 = false := rfl
    have z2 : ieq 2 0 = false := rfl
    have z6 : ieq 6 0 = false := rfl
    simp only
    rw [valid20 fu q p hf hl hqf hql, prop20]
    cases hv : validB q p with
    | false => (unfold urgF sendF; rw [hv]; rfl)
    | true =>
      obtain ⟨⟨v1, v2⟩, v3, v4⟩ := valid_iff.1 hv
      cases hp : propB m with
      | false => (unfold urgF sendF; rw [hv, hp]; rfl)
      | true =>
        simp only [Bool.not_true, cond_false]
        have hc := clone1 (prop_data hp)
        obtain ⟨b1, b2⟩ := lastP_bound v1 m.Src m.Dst
        have hadd : iadd .i64 (lastP p m.Src m.Dst) 1 = lastP p m.Src m.Dst + 1 := iadd64 (by omega)
        have hq400 : ieq (dlen q) 400 = ile 400 (dlen q) := by rw [Bool.eq_iff_iff, ieq_iff, ile_iff, dlen_def]; omega
        have hmost : ilt 1099511627776 (iadd .i64 (lastP p m.Src m.Dst) 1) = ile 1099511627776 (lastP p m.Src m.Dst) := by rw [Bool.eq_iff_iff, ilt_iff, ile_iff, hadd]; omega
        simp only [hc, last20 fu q p _ _ (show p.length < fu by omega) hl, hq400, hmost]
        cases h1 : ile 400 (dlen q) with
        | true => (unfold urgF sendF; rw [hv, hp, h1]; rfl)
        | false =>
          cases h2 : ile 1099511627776 (lastP p m.Src m.Dst) with
          | true => (unfold urgF sendF; rw [hv, hp, h1, h2]; rfl)
          | false =>
            rw [ile_f, dlen_def] at h1
            have h1 : q.length < 400 := by omega
            rw [urgF_ok hv hp h1 h2]
            have hat0 : atD q (nmsg p m).Dst = i0 := atD_first hi0 hx0 hb0
            have hi0l := getElem?_lt hi0
            have D1 : isub .i64 (dlen (q ++ [nmsg p m])) 1 = (q.length : Int) := by rw [dlen_def, List.length_append, List.length_singleton, isub64 (by omega)]; omega
            have D2 : dat (q ++ [nmsg p m]) (q.length : Int) = some (nmsg p m) := by rw [dat_nat]; simp
            have D3 : ile (q.length : Int) (dlen (q ++ [nmsg p m])) = true := ile_iff.2 (by rw [dlen_def]; simp; omega)
            have D4 : osub (q.length : Int) 0 = (q.length : Int) := by unfold osub; omega
            have D5 := back23 fu q (nmsg p m) hqf (by omega)
            have D6 : ile (q.length : Int) (dlen (q.map (bmp (nmsg p m)) ++ [nmsg p m])) = true := ile_iff.2 (by rw [dlen_def]; simp; omega)
            have D7 : dcut (q.map (bmp (nmsg p m)) ++ [nmsg p m]) 0 (q.length : Int) = q.map (bmp (nmsg p m)) := by
              unfold dcut
              rw [Int.toNat_natCast, List.take_append_of_le_length (by simp)]
              rw [List.take_of_length_le (by simp)]
              simp
            have D8 : dins 88 (q.map (bmp (nmsg p m))) (i0 : Int) (wseq (nmsg p m) (seqU (nmsg p m) (nmsg p m).Seq q)) = some (urgQ q (nmsg p m)) := by
              rw [dins_ok (by simp; omega) (by simp; omega) (by simp; omega)]
              unfold urgQ
              rw [hat0]
            have D9 : ile 0 (q.length : Int) = true := ile_iff.2 (by omega)
            have D0 : ile 0 0 = true := rfl
            simp only [Bool.or_false, cond_false]
            have hmap := map11 fu q (data_le v3) hqf (by omega)
            have hdp : dapp 24 [] p = some p := dapp_nil (by omega) (by omega)
            have hda : dapp 88 q [(⟨m.Src, m.Dst, m.Kind, iadd .i64 (lastP p m.Src m.Dst) 1, m.Args_0, m.Args_1, m.Args_2, m.Args_3, m.Data⟩ : Msg20)] = some (q ++ [nmsg p m]) := dapp_ok (by simp; omega) (by simp; omega)
            have hs := search20 fu p ⟨m.Src, m.Dst, 0⟩ v2 hf hl
            simp only at hs
            have ho := fun a => ord20 fu (by omega) a ⟨m.Src, m.Dst, 0⟩
            simp only at ho
            simp only [m23c, m23d, hmap, hdp, hda, hs, ho]
            have e1 : posB ltP p ⟨m.Src, m.Dst, 0⟩ = posB ltP p (npr p m) := rfl
            have e2 : ∀ a, same ltP a ⟨m.Src, m.Dst, 0⟩ = same ltP a (npr p m) := fun a => rfl
            simp only [e1]
            have hple := posB_le (lt := ltP) p (npr p m)
            have hak := any_same ordP v2 (npr p m)
            cases hk : p.any (fun a => same ltP a (npr p m)) with
            | true =>
              rw [hk] at hak
              cases hx : p[posB ltP p (npr p m)]? with
              | none => rw [hx] at hak; cases hak
              | some a =>
                rw [hx] at hak
                have hlt := getElem?_lt hx
                have hsame := hak.symm
                obtain ⟨r1, r2⟩ := putS_old ordP v2 hk
                have hkey : a.Src = m.Src ∧ a.Dst = m.Dst := by
                  unfold same at hsame
                  rw [Bool.and_eq_true, Bool.not_eq_true', Bool.not_eq_true', ltP_f, ltP_f] at hsame
                  simp only [npr] at hsame
                  omega
                have hset : (⟨a.Src, a.Dst, iadd .i64 (lastP p m.Src m.Dst) 1⟩ : Pair20) = npr p m := by rw [hkey.1, hkey.2]; rfl
                simp only [dlen_def p, ilt_len hlt, dat_nat, hx, ho, ord_eq, e2, hsame, hset, r1, dset, Int.toNat_natCast, z0, hneg, D1, D2, D0, D9, D3, D4, msg_eta, m23e, m23f, m23g, D5, D6, D7, D8]
            | false =>
              rw [hk] at hak
              have hput := putS_new hk
              have hins : dins 24 p ((posB ltP p (npr p m) : Nat) : Int) (⟨m.Src, m.Dst, 0⟩ : Pair20) = some (p.take (posB ltP p (npr p m)) ++ ⟨m.Src, m.Dst, 0⟩ :: p.drop (posB ltP p (npr p m))) := dins_ok hple (by omega) (by omega)
              have htl : (p.take (posB ltP p (npr p m))).length = posB ltP p (npr p m) := by rw [List.length_take]; omega
              have hat : (p.take (posB ltP p (npr p m)) ++ ⟨m.Src, m.Dst, 0⟩ :: p.drop (posB ltP p (npr p m)))[posB ltP p (npr p m)]? = some ⟨m.Src, m.Dst, 0⟩ := by
                rw [List.getElem?_append_right (by omega), htl]
                simp
              have hset : (p.take (posB ltP p (npr p m)) ++ ⟨m.Src, m.Dst, 0⟩ :: p.drop (posB ltP p (npr p m))).set (posB ltP p (npr p m)) ⟨m.Src, m.Dst, iadd .i64 (lastP p m.Src m.Dst) 1⟩ = putS ltP (npr p m) p := by
                rw [hput, List.set_append_right _ _ (by omega), htl]
                simp
                rfl
              by_cases hlt : posB ltP p (npr p m) < p.length
              · have hx : p[posB ltP p (npr p m)]? = some p[posB ltP p (npr p m)] := List.getElem?_eq_getElem hlt
                rw [hx] at hak
                have hak' : same ltP p[posB ltP p (npr p m)] (npr p m) = false := hak.symm
                simp only [dlen_def p, ilt_len hlt, dat_nat, hx, ho, ord_eq, e2, hak', hins, hat, dset, Int.toNat_natCast, hset, z0, hneg, D1, D2, D0, D9, D3, D4, msg_eta, m23e, m23f, m23g, D5, D6, D7, D8]
              · simp only [dlen_def p, show ilt ((posB ltP p (npr p m) : Nat) : Int) (p.length : Int) = false from ilt_f.2 (by omega), dat_nat, hins, hat, dset, Int.toNat_natCast, hset, z0, hneg, D1, D2, D0, D9, D3, D4, msg_eta, m23e, m23f, m23g, D5, D6, D7, D8]
  · rw [hit]
    have hneg : ilt (-1) 0 = true := rfl
    have z0 : ieq 0 0 = true := rfl
    simp only
    rw [valid20 fu q p hf hl hqf hql, prop20]
    cases hv : validB q p with
    | false => (unfold urgF sendF; rw [hv]; rfl)
    | true =>
      obtain ⟨⟨v1, v2⟩, v3, v4⟩ := valid_iff.1 hv
      cases hp : propB m with
      | false => (unfold urgF sendF; rw [hv, hp]; rfl)
      | true =>
        simp only [Bool.not_true, cond_false]
        have hc := clone1 (prop_data hp)
        obtain ⟨b1, b2⟩ := lastP_bound v1 m.Src m.Dst
        have hadd : iadd .i64 (lastP p m.Src m.Dst) 1 = lastP p m.Src m.Dst + 1 := iadd64 (by omega)
        have hq400 : ieq (dlen q) 400 = ile 400 (dlen q) := by rw [Bool.eq_iff_iff, ieq_iff, ile_iff, dlen_def]; omega
        have hmost : ilt 1099511627776 (iadd .i64 (lastP p m.Src m.Dst) 1) = ile 1099511627776 (lastP p m.Src m.Dst) := by rw [Bool.eq_iff_iff, ilt_iff, ile_iff, hadd]; omega
        simp only [hc, last20 fu q p _ _ (show p.length < fu by omega) hl, hq400, hmost]
        cases h1 : ile 400 (dlen q) with
        | true => (unfold urgF sendF; rw [hv, hp, h1]; rfl)
        | false =>
          cases h2 : ile 1099511627776 (lastP p m.Src m.Dst) with
          | true => (unfold urgF sendF; rw [hv, hp, h1, h2]; rfl)
          | false =>
            rw [ile_f, dlen_def] at h1
            have h1 : q.length < 400 := by omega
            rw [urgF_ok hv hp h1 h2, urgQ_none (q := q) (x := nmsg p m) hno]
            simp only [Bool.or_false, cond_false]
            have hmap := map11 fu q (data_le v3) hqf (by omega)
            have hdp : dapp 24 [] p = some p := dapp_nil (by omega) (by omega)
            have hda : dapp 88 q [(⟨m.Src, m.Dst, m.Kind, iadd .i64 (lastP p m.Src m.Dst) 1, m.Args_0, m.Args_1, m.Args_2, m.Args_3, m.Data⟩ : Msg20)] = some (q ++ [nmsg p m]) := dapp_ok (by simp; omega) (by simp; omega)
            have hs := search20 fu p ⟨m.Src, m.Dst, 0⟩ v2 hf hl
            simp only at hs
            have ho := fun a => ord20 fu (by omega) a ⟨m.Src, m.Dst, 0⟩
            simp only at ho
            simp only [m23a, m23b, hmap, hdp, hda, hs, ho]
            have e1 : posB ltP p ⟨m.Src, m.Dst, 0⟩ = posB ltP p (npr p m) := rfl
            have e2 : ∀ a, same ltP a ⟨m.Src, m.Dst, 0⟩ = same ltP a (npr p m) := fun a => rfl
            simp only [e1]
            have hple := posB_le (lt := ltP) p (npr p m)
            have hak := any_same ordP v2 (npr p m)
            cases hk : p.any (fun a => same ltP a (npr p m)) with
            | true =>
              rw [hk] at hak
              cases hx : p[posB ltP p (npr p m)]? with
              | none => rw [hx] at hak; cases hak
              | some a =>
                rw [hx] at hak
                have hlt := getElem?_lt hx
                have hsame := hak.symm
                obtain ⟨r1, r2⟩ := putS_old ordP v2 hk
                have hkey : a.Src = m.Src ∧ a.Dst = m.Dst := by
                  unfold same at hsame
                  rw [Bool.and_eq_true, Bool.not_eq_true', Bool.not_eq_true', ltP_f, ltP_f] at hsame
                  simp only [npr] at hsame
                  omega
                have hset : (⟨a.Src, a.Dst, iadd .i64 (lastP p m.Src m.Dst) 1⟩ : Pair20) = npr p m := by rw [hkey.1, hkey.2]; rfl
                simp only [dlen_def p, ilt_len hlt, dat_nat, hx, ho, ord_eq, e2, hsame, hset, r1, dset, Int.toNat_natCast, z0, hneg]
            | false =>
              rw [hk] at hak
              have hput := putS_new hk
              have hins : dins 24 p ((posB ltP p (npr p m) : Nat) : Int) (⟨m.Src, m.Dst, 0⟩ : Pair20) = some (p.take (posB ltP p (npr p m)) ++ ⟨m.Src, m.Dst, 0⟩ :: p.drop (posB ltP p (npr p m))) := dins_ok hple (by omega) (by omega)
              have htl : (p.take (posB ltP p (npr p m))).length = posB ltP p (npr p m) := by rw [List.length_take]; omega
              have hat : (p.take (posB ltP p (npr p m)) ++ ⟨m.Src, m.Dst, 0⟩ :: p.drop (posB ltP p (npr p m)))[posB ltP p (npr p m)]? = some ⟨m.Src, m.Dst, 0⟩ := by
                rw [List.getElem?_append_right (by omega), htl]
                simp
              have hset : (p.take (posB ltP p (npr p m)) ++ ⟨m.Src, m.Dst, 0⟩ :: p.drop (posB ltP p (npr p m))).set (posB ltP p (npr p m)) ⟨m.Src, m.Dst, iadd .i64 (lastP p m.Src m.Dst) 1⟩ = putS ltP (npr p m) p := by
                rw [hput, List.set_append_right _ _ (by omega), htl]
                simp
                rfl
              by_cases hlt : posB ltP p (npr p m) < p.length
              · have hx : p[posB ltP p (npr p m)]? = some p[posB ltP p (npr p m)] := List.getElem?_eq_getElem hlt
                rw [hx] at hak
                have hak' : same ltP p[posB ltP p (npr p m)] (npr p m) = false := hak.symm
                simp only [dlen_def p, ilt_len hlt, dat_nat, hx, ho, ord_eq, e2, hak', hins, hat, dset, Int.toNat_natCast, hset, z0, hneg]
              · simp only [dlen_def p, show ilt ((posB ltP p (npr p m) : Nat) : Int) (p.length : Int) = false from ilt_f.2 (by omega), dat_nat, hins, hat, dset, Int.toNat_natCast, hset, z0, hneg]
end Go.G
