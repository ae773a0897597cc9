import Derived.Test.YtiifmafolmmelaaP20j
import Derived.Test.YtiifmafolmmelaaOn20L7
set_option linter.unusedVariables false
set_option linter.unusedSimpArgs false
namespace Go.G
set_option maxRecDepth 100000
set_option maxHeartbeats 8000000
theorem urgF_cases (q : List Msg20) (p : List Pair20) (m : Msg20) : (∃ c, c ≠ 0 ∧ urgF q p m = (stT [] [], c, ())) ∨
    (urgF q p m = (stT (urgQ q (nmsg p m)) (putS ltP (npr p m) p), 0, ()) ∧ validB q p = true ∧ propB m = true ∧ q.length < 400 ∧ lastP p m.Src m.Dst < 1099511627776) := by
  unfold urgF
  rcases sendF_cases q p m with ⟨c, hc, he⟩ | ⟨he, h⟩
  · refine .inl ⟨c, hc, ?_⟩
    rw [he]
    simp only [ieq_f.2 hc, cond_false]
  · refine .inr ⟨?_, h⟩
    rw [he]
    simp only [ieq_iff.2 rfl, cond_true]

/-- The statement's loop over the messages behind. -/
theorem loop7 (fu : Nat) (q : List Msg20) (p p' : List Pair20) (m : Msg20) (hf : q.length < fu) (hql : q.length ≤ 9223372036854775807) (hv : validB q p = true) (hl : lastP p m.Src m.Dst < 1099511627776) :
    ∃ b : Int, iter (t7_10 fu) fu ((), ((), ((), (seqU (nmsg p m) (nmsg p m).Seq q, (dlen q, (0, ((q.map (bmp (nmsg p m)), (p', ())), ((m.Src, (m.Dst, (m.Kind, (m.Seq, (m.Args_0, (m.Args_1, (m.Args_2, (m.Args_3, (m.Data, ()))))))))), ((q, (p, ())), ()))))))))) =
      some (.inl ((), ((), ((), ((q.map (bmp (nmsg p m)), (p', ())), ((m.Src, (m.Dst, (m.Kind, (m.Seq, (m.Args_0, (m.Args_1, (m.Args_2, (m.Args_3, (m.Data, ()))))))))), ((q, (p, ())), ()))))))) := by
  obtain ⟨h1, h2, h3, h4⟩ := urg_facts hv hl
  obtain ⟨s, _, hs⟩ := iter_inv (step := t7_10 fu) (fu := fu) q (fun j (last : Int) => ((), ((), ((), (last, (dlen q, ((j : Int), ((q.map (bmp (nmsg p m)), (p', ())), ((m.Src, (m.Dst, (m.Kind, (m.Seq, (m.Args_0, (m.Args_1, (m.Args_2, (m.Args_3, (m.Data, ()))))))))), ((q, (p, ())), ()))))))))))
    (fun _ y last => bif ofP y (nmsg p m) then iadd .i64 y.Seq 1 else last) (fun i last => ∀ z ∈ q.drop i, ofP z (nmsg p m) = true → last ≤ z.Seq)
    (fun _ => .inl ((), ((), ((), ((q.map (bmp (nmsg p m)), (p', ())), ((m.Src, (m.Dst, (m.Kind, (m.Seq, (m.Args_0, (m.Args_1, (m.Args_2, (m.Args_3, (m.Data, ()))))))))), ((q, (p, ())), ()))))))) (seqU (nmsg p m) (nmsg p m).Seq q) hf
    (fun z hz ho => by rw [List.drop_zero] at hz; exact seqU_le h2 z hz ho)
    (fun i y last hi hI => by
      have hlt := getElem?_lt hi
      have hdr : q.drop i = y :: q.drop (i + 1) := by
        rw [List.drop_eq_getElem_cons hlt]
        rw [List.getElem?_eq_getElem hlt] at hi
        cases hi
        rfl
      have hz : (q.map (bmp (nmsg p m)))[i]? = some (bmp (nmsg p m) y) := by rw [List.getElem?_map, hi]; rfl
      have hy := h1 y (List.mem_of_getElem? hi)
      have hsame := smsg20 fu y y
      rw [sameM_self] at hsame
      have hbef : ∀ z ∈ q.drop (i + 1), y.Src = z.Src → y.Dst = z.Dst → y.Seq < z.Seq := by
        have := List.Pairwise.sublist (List.drop_sublist i q) h2
        rw [hdr, List.pairwise_cons] at this
        exact this.1
      rw [hdr] at hI
      have hI' : ∀ z ∈ q.drop (i + 1), ofP z (nmsg p m) = true → last ≤ z.Seq := fun z hz => hI z (by simp [hz])
      simp only [t7_10, dlen_def q, dat_nat, hi, hz, ilt_len hlt, iadd1 (show i < 9223372036854775807 by omega)]
      cases ho : ofP y (nmsg p m) with
      | true =>
        obtain ⟨o1, o2⟩ := ofP_iff.1 ho
        have o1' : ieq y.Src m.Src = true := ieq_iff.2 o1
        have o2' : ieq y.Dst m.Dst = true := ieq_iff.2 o2
        have hb : bmp (nmsg p m) y = wseq y (iadd .i64 y.Seq 1) := by unfold bmp; rw [ho]; rfl
        have hw : ∀ s, (wseq y s).Src = y.Src ∧ (wseq y s).Dst = y.Dst ∧ (wseq y s).Kind = y.Kind ∧ (wseq y s).Seq = s ∧ (wseq y s).Args_0 = y.Args_0 ∧ (wseq y s).Args_1 = y.Args_1 ∧ (wseq y s).Args_2 = y.Args_2 ∧ (wseq y s).Args_3 = y.Args_3 ∧ (wseq y s).Data = y.Data := fun s => ⟨rfl, rfl, rfl, rfl, rfl, rfl, rfl, rfl, rfl⟩
        obtain ⟨w1, w2, w3, w4, w5, w6, w7, w8, w9⟩ := hw (iadd .i64 y.Seq 1)
        have hle : ile (iadd .i64 y.Seq 1) last = false := by
          rw [ile_f, hy.2.2.2]
          have := hI y (by simp) ho
          omega
        rw [hb]
        simp only [o1', o2', w1, w2, w3, w4, w5, w6, w7, w8, w9, ieq_iff.2 rfl, hle, hsame, cond_true]
        refine ⟨trivial, fun z hz hoz => ?_⟩
        obtain ⟨z1, z2⟩ := ofP_iff.1 hoz
        have := hbef z hz (o1.trans z1.symm) (o2.trans z2.symm)
        rw [hy.2.2.2]
        omega
      | false =>
        have hb : bmp (nmsg p m) y = y := by unfold bmp; rw [ho]; rfl
        rw [hb]
        unfold ofP at ho
        have ho' : (ieq y.Src m.Src && ieq y.Dst m.Dst) = false := ho
        cases e1 : ieq y.Src m.Src with
        | false =>
          simp only [hsame, cond_false]
          exact ⟨trivial, hI'⟩
        | true =>
          cases e2 : ieq y.Dst m.Dst with
          | false =>
            simp only [hsame, cond_false]
            exact ⟨trivial, hI'⟩
          | true => rw [e1, e2] at ho'; cases ho')
    (fun s _ => by simp only [t7_10, dlen_def q, ilt_end])
  rw [show ((0 : Nat) : Int) = 0 from rfl] at hs
  exact ⟨s, hs⟩

theorem law7_at (fu : Nat) (hf : 10000000000000000000 < fu) (ha : s9 fu = some (true, ())) (q : List Msg20) (p : List Pair20) (m : Msg20) (hq : q.length ≤ 9223372036854775807) :
    s7 fu q p m.Src m.Dst m.Kind m.Seq m.Args_0 m.Args_1 m.Args_2 m.Args_3 m.Data = some (true, ()) := by
  unfold s7
  rw [ha]
  simp only
  rw [few20 fu q p (by omega) hq]
  cases hfew : fewB q p with
  | false => rfl
  | true =>
    have hp := fewB_pairs hfew
    cases hd : ilt 2000 (dlen m.Data) with
    | true => rfl
    | false =>
      rw [ilt_f, dlen_def] at hd
      simp only [to20 fu q p (show p.length < fu by omega) (by omega), urgent20 fu q p m (by omega) (by omega) (by omega) hq (by omega), urgR20 fu q p m (by omega) (by omega) (by omega) hq (by omega), ieq_iff.2 rfl]
      rcases urgF_cases q p m with ⟨c, hc, he⟩ | ⟨he, hv, hpm, hql, hlast⟩
      · have hv0 : s26 fu [] [] = some (true, ()) := by
          have := valid20 fu [] [] (by simp; omega) (by simp) (by simp; omega) (by simp)
          rw [valid_nil] at this
          exact this
        simp only [he, from20 fu [] [] (by simp; omega) (by simp), eqR20 fu [] [] [] [] (by simp; omega) (by simp) (by simp; omega) (by simp), eqS_self, hv0, ieq_f.2 hc]
      · have hva := urg_valid hv hpm hql hlast
        obtain ⟨f1, f2⟩ := urg_take (q := q) (p := p) (m := m)
        have hpl : (putS ltP (npr p m) p).length ≤ p.length + 1 := by rw [putS_len]; have := noS_len (lt := ltP) (l := p) (x := npr p m); omega
        have hul : (urgQ q (nmsg p m)).length ≤ 400 := (valid_iff.1 hva).2.2
        have htk : takeF (urgQ q (nmsg p m)) (putS ltP (npr p m) p) m.Dst = (stT (q.map (bmp (nmsg p m))) (putS ltP (npr p m) p), mT (wseq (nmsg p m) (seqU (nmsg p m) (nmsg p m).Seq q)), 0, ()) := by
          unfold takeF
          rw [hva, f1, f2]
          rfl
        obtain ⟨b, hloop⟩ := loop7 fu q p (putS ltP (npr p m) p) m (by omega) hq hv hlast
        have hs27 : ∀ l : List Int, s27 fu l l = some (true, ()) := fun l => by
          unfold s27 seqb
          simp
        have hw : ∀ s, (wseq (nmsg p m) s).Src = m.Src ∧ (wseq (nmsg p m) s).Kind = m.Kind ∧ (wseq (nmsg p m) s).Seq = s ∧ (wseq (nmsg p m) s).Args_0 = m.Args_0 ∧ (wseq (nmsg p m) s).Args_1 = m.Args_1 ∧ (wseq (nmsg p m) s).Args_2 = m.Args_2 ∧ (wseq (nmsg p m) s).Args_3 = m.Args_3 ∧ (wseq (nmsg p m) s).Data = m.Data := fun s => ⟨rfl, rfl, rfl, rfl, rfl, rfl, rfl, rfl⟩
        obtain ⟨w1, w3, w4, w5, w6, w7, w8, w9⟩ := hw (seqU (nmsg p m) (nmsg p m).Seq q)
        have hdl : dlen (q.map (bmp (nmsg p m))) = dlen q := by rw [dlen_def, dlen_def, List.length_map]
        obtain ⟨⟨v1, v2⟩, v3, v4⟩ := valid_iff.1 hv
        have hls := last_sent (m := m) v2 m.Src m.Dst
        rw [if_pos ⟨rfl, rfl⟩] at hls
        have hL1 := last20 fu (q.map (bmp (nmsg p m))) (putS ltP (npr p m) p) m.Src m.Dst (by omega) (by omega)
        rw [hls] at hL1
        have hL2 := last20' fu q p m.Src m.Dst (by omega) (by omega)
        have hva' := valid20 fu (urgQ q (nmsg p m)) (putS ltP (npr p m) p) (by omega) (by omega) (by omega) (by omega)
        rw [hva] at hva'
        have htake := take20 fu (urgQ q (nmsg p m)) (putS ltP (npr p m) p) m.Dst (by omega) (by omega) (by omega) (by omega)
        rw [htk] at htake
        simp only [he, ieq_iff.2 rfl, from20 fu (urgQ q (nmsg p m)) (putS ltP (npr p m) p) (by omega) (by omega), eqR20 fu (urgQ q (nmsg p m)) (urgQ q (nmsg p m)) (putS ltP (npr p m) p) (putS ltP (npr p m) p) (by omega) (by omega) (by omega) (by omega), eqS_self, hva', htake, w1, w3, w4, w5, w6, w7, w8, w9, hs27, hdl, hloop, hL1, hL2]
/-- PortsUrgent is true. -/
theorem law7 (a0_Queue : List Msg20) (a0_Pairs : List Pair20) (a1_Src : Int) (a1_Dst : Int) (a1_Kind : Int) (a1_Seq : Int) (a1_Args_0 : Int) (a1_Args_1 : Int) (a1_Args_2 : Int) (a1_Args_3 : Int) (a1_Data : List Int) (h : WfA A7 ((a0_Queue, a0_Pairs, ()), (a1_Src, a1_Dst, a1_Kind, a1_Seq, a1_Args_0, a1_Args_1, a1_Args_2, a1_Args_3, a1_Data, ()), ())) : s7 FU a0_Queue a0_Pairs a1_Src a1_Dst a1_Kind a1_Seq a1_Args_0 a1_Args_1 a1_Args_2 a1_Args_3 a1_Data = some (true, ()) :=
  law7_at FU (by decide) aw20 a0_Queue a0_Pairs ⟨a1_Src, a1_Dst, a1_Kind, a1_Seq, a1_Args_0, a1_Args_1, a1_Args_2, a1_Args_3, a1_Data⟩ (rgq_of ((h _ (.head _)) (.d (.sl U20.msg a0_Queue)) (.head _)))
end Go.G
