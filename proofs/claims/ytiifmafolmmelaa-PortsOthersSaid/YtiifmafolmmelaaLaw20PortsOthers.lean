import Derived.Test.YtiifmafolmmelaaLaw20PortsUndo
set_option linter.unusedVariables false
set_option linter.unusedSimpArgs false
namespace Go.G
set_option maxRecDepth 100000
set_option maxHeartbeats 4000000
theorem firstF_eq {q q' : List Msg20} {d : Int} (h : q.find? (isD d) = q'.find? (isD d)) : firstF q d = firstF q' d := by
  unfold firstF
  rw [h]
theorem sameT (fu : Nat) (x : MT) : s13 fu x.1 x.2.1 x.2.2.1 x.2.2.2.1 x.2.2.2.2.1 x.2.2.2.2.2.1 x.2.2.2.2.2.2.1 x.2.2.2.2.2.2.2.1 x.2.2.2.2.2.2.2.2.1 x.1 x.2.1 x.2.2.1 x.2.2.2.1 x.2.2.2.2.1 x.2.2.2.2.2.1 x.2.2.2.2.2.2.1 x.2.2.2.2.2.2.2.1 x.2.2.2.2.2.2.2.2.1 = some (true, ()) := by
  have := smsg20 fu ⟨x.1, x.2.1, x.2.2.1, x.2.2.2.1, x.2.2.2.2.1, x.2.2.2.2.2.1, x.2.2.2.2.2.2.1, x.2.2.2.2.2.2.2.1, x.2.2.2.2.2.2.2.2.1⟩ ⟨x.1, x.2.1, x.2.2.1, x.2.2.2.1, x.2.2.2.2.1, x.2.2.2.2.2.1, x.2.2.2.2.2.2.1, x.2.2.2.2.2.2.2.1, x.2.2.2.2.2.2.2.2.1⟩
  rw [sameM_self] at this
  exact this
theorem loop6 (fu : Nat) (hf : 10000000000000000000 < fu) (L : List State20) (q : List Msg20) (p : List Pair20) (m : Msg20) (os od oq : Int) (hL : L.length ≤ 3)
    (hq : q.length ≤ 400) (hp : p.length ≤ 300) (hdq : ∀ x ∈ q, x.Data.length ≤ 1536)
    (h : ∀ st ∈ L, st.Queue.length ≤ 400 ∧ st.Pairs.length ≤ 301 ∧ (∀ x ∈ st.Queue, x.Data.length ≤ 1536) ∧ (¬ (os = m.Src ∧ od = m.Dst) → lastP st.Pairs os od = lastP p os od) ∧ (od ≠ m.Dst → st.Queue.find? (isD od) = q.find? (isD od) ∧ cntM st.Queue od = cntM q od)) :
    ∃ e, iter (t6_11 fu) fu ((), ((), ((), ((), ((dlen L), (0, (L, ((q, (p, ())), ((os, (od, (oq, ()))), ((mT m), ())))))))))) = some (.inl e) := by
  have := iter_run (step := t6_11 fu) (fu := fu) (fun j => ((), ((), ((), ((), ((dlen L), ((j : Int), (L, ((q, (p, ())), ((os, (od, (oq, ()))), ((mT m), ()))))))))))) (n := L.length) (e := .inl (L, ((q, (p, ())), ((os, (od, (oq, ()))), ((mT m), ())))))
    (fun j hj => by
      have hst : L[j]? = some L[j] := List.getElem?_eq_getElem hj
      obtain ⟨k1, k2, k3, k4, k5⟩ := h L[j] (List.getElem_mem hj)
      have hb : ∀ b : Bool, beqb b b = true := fun b => by cases b <;> rfl
      have hid := iadd1 (show j < 9223372036854775807 by omega)
      have hl1 := last20 fu L[j].Queue L[j].Pairs os od (by omega) (by omega)
      have hl2 := last20 fu q p os od (by omega) (by omega)
      have hf1 := first20 fu q p od hdq (by omega) (by omega)
      have hf2 := first20 fu L[j].Queue L[j].Pairs od k3 (by omega) (by omega)
      have hc1 := count20 fu q p od (by omega) (by omega)
      have hc2 := count20 fu L[j].Queue L[j].Pairs od (by omega) (by omega)
      cases e1 : ieq os m.Src with
      | true =>
        cases e2 : ieq od m.Dst with
        | true => simp only [t6_11, dlen_def L, ilt_len hj, dat_nat, hst, mT, e1, e2, hid]
        | false =>
          have hne : od ≠ m.Dst := ieq_f.1 e2
          have hla := k4 (fun hh => hne hh.2)
          obtain ⟨g1, g2⟩ := k5 hne
          rw [firstF_eq g1] at hf2
          rw [g2] at hc2
          rw [hla] at hl1
          simp only [t6_11, dlen_def L, ilt_len hj, dat_nat, hst, mT, e1, e2, hid, hl1, hl2, ieq_iff.2 rfl, hf1, hf2, hb, sameT, hc1, hc2]
      | false =>
        have hne1 : os ≠ m.Src := ieq_f.1 e1
        have hla := k4 (fun hh => hne1 hh.1)
        rw [hla] at hl1
        cases e2 : ieq od m.Dst with
        | true => simp only [t6_11, dlen_def L, ilt_len hj, dat_nat, hst, mT, e1, e2, hid, hl1, hl2, ieq_iff.2 rfl]
        | false =>
          have hne : od ≠ m.Dst := ieq_f.1 e2
          obtain ⟨g1, g2⟩ := k5 hne
          rw [firstF_eq g1] at hf2
          rw [g2] at hc2
          simp only [t6_11, dlen_def L, ilt_len hj, dat_nat, hst, mT, e1, e2, hid, hl1, hl2, ieq_iff.2 rfl, hf1, hf2, hb, sameT, hc1, hc2])
    (by simp only [t6_11, dlen_def L, ilt_end, mT]) (by omega)
  exact ⟨_, this⟩
theorem find_erase {d od : Int} (h : od ≠ d) : ∀ q : List Msg20, (q.eraseP (isD d)).find? (isD od) = q.find? (isD od) ∧ cntM (q.eraseP (isD d)) od = cntM q od
  | [] => ⟨rfl, rfl⟩
  | x :: q => by
    rw [List.eraseP_cons]
    cases hx : isD d x with
    | true =>
      have : isD od x = false := by
        unfold isD at hx ⊢
        rw [ieq_iff] at hx
        rw [ieq_f, hx]
        exact Ne.symm h
      simp only [cond_true, List.find?_cons, this]
      refine ⟨trivial, ?_⟩
      unfold cntM
      rw [List.filter_cons]
      unfold isD at this
      simp [this]
    | false =>
      obtain ⟨h1, h2⟩ := find_erase h q
      simp only [cond_false, List.find?_cons, h1]
      refine ⟨trivial, ?_⟩
      unfold cntM at h2 ⊢
      rw [List.filter_cons, List.filter_cons]
      cases ieq x.Dst od <;> simp [h2]
theorem find_filter {d od : Int} (h : od ≠ d) : ∀ q : List Msg20, (q.filter (fun m => !isD d m)).find? (isD od) = q.find? (isD od) ∧ cntM (q.filter (fun m => !isD d m)) od = cntM q od
  | [] => ⟨rfl, rfl⟩
  | x :: q => by
    obtain ⟨h1, h2⟩ := find_filter h q
    rw [List.filter_cons]
    cases hx : isD d x with
    | true =>
      have : isD od x = false := by
        unfold isD at hx ⊢
        rw [ieq_iff] at hx
        rw [ieq_f, hx]
        exact Ne.symm h
      simp only [Bool.not_true, Bool.false_eq_true, if_false, List.find?_cons, this, h1]
      refine ⟨trivial, ?_⟩
      rw [h2]
      unfold cntM
      rw [List.filter_cons]
      unfold isD at this
      simp [this]
    | false =>
      simp only [Bool.not_false, if_true, List.find?_cons, h1]
      refine ⟨trivial, ?_⟩
      unfold cntM at h2 ⊢
      rw [List.filter_cons, List.filter_cons]
      cases ieq x.Dst od with
      | true => simp only [if_true, List.length_cons, h2]
      | false => simp only [Bool.false_eq_true, if_false, h2]
theorem law6_at (fu : Nat) (hf : 10000000000000000000 < fu) (ha : s9 fu = some (true, ())) (q : List Msg20) (p : List Pair20) (m : Msg20) (os od oq : Int) (hq : q.length ≤ 9223372036854775807) :
    s6 fu q p m.Src m.Dst m.Kind m.Seq m.Args_0 m.Args_1 m.Args_2 m.Args_3 m.Data os od oq = some (true, ()) := by
  unfold s6
  rw [ha]
  simp only
  rw [few20 fu q p (by omega) hq]
  cases hfew : fewB q p with
  | false => rfl
  | true =>
    have hp := fewB_pairs hfew
    cases hd : ilt 2000 (dlen m.Data) with
    | true => rfl
    | false =>
      rw [ilt_f, dlen_def] at hd
      simp only [to20 fu q p (show p.length < fu by omega) (by omega), send20 fu q p m (by omega) (by omega) (by omega) hq (by omega)]
      rcases sendF_cases q p m with ⟨c, hc', he⟩ | ⟨he, hv, hpm, hql, hlast⟩
      · simp only [he, ieq_f.2 hc']
      · obtain ⟨⟨v1, v2⟩, v3, v4⟩ := valid_iff.1 hv
        have hva := sent_valid hv hpm hql hlast
        have hpl : (putS ltP (npr p m) p).length ≤ p.length + 1 := by rw [putS_len]; have := noS_len (lt := ltP) (l := p) (x := npr p m); omega
        have hal : (q ++ [nmsg p m]).length ≤ 400 := (valid_iff.1 hva).2.2
        have hlast' := fun s d => last_sent (m := m) v2 s d
        have hnd : isD m.Dst (nmsg p m) = true := ieq_iff.2 rfl
        generalize hA : q ++ [nmsg p m] = A at *
        generalize hP : putS ltP (npr p m) p = P at *
        obtain ⟨y, hy⟩ : ∃ y, A.find? (isD m.Dst) = some y := by
          cases hh : A.find? (isD m.Dst) with
          | some y => exact ⟨y, rfl⟩
          | none =>
            have := List.find?_eq_none.1 hh (nmsg p m) (by rw [← hA]; simp)
            exact absurd hnd this
        have htk : takeF A P m.Dst = (stT (A.eraseP (isD m.Dst)) P, mT y, 0, ()) := by
          unfold takeF
          rw [hva, hy]
          rfl
        have hdr : dropF A P m.Dst = (stT (A.filter (fun x => !isD m.Dst x)) P, 0, ()) := by
          unfold dropF
          rw [hva]
          rfl
        have le1 : (A.eraseP (isD m.Dst)).length ≤ A.length := List.eraseP_sublist.length_le
        have le2 : (A.filter (fun x => !isD m.Dst x)).length ≤ A.length := List.length_filter_le _ _
        have hc0 : cntM (A.filter (fun x => !isD m.Dst x)) m.Dst = 0 := by
          unfold cntM isD
          rw [List.filter_filter, List.length_eq_zero_iff, List.filter_eq_nil_iff]
          intro x _
          simp
        have hcA : cntM A m.Dst = cntM q m.Dst + 1 := by
          rw [← hA]
          unfold cntM
          unfold isD at hnd
          rw [List.filter_append, List.length_append, List.filter_cons, hnd]
          rfl
        have hcle : cntM q m.Dst ≤ q.length := List.length_filter_le _ _
        have hlA : lastP P m.Src m.Dst = iadd .i64 (lastP p m.Src m.Dst) 1 := by rw [hlast', if_pos ⟨rfl, rfl⟩]
        have hcadd : iadd .i64 (cntM q m.Dst : Int) 1 = ((cntM q m.Dst + 1 : Nat) : Int) := iadd1 (by omega)
        have hdA := data_le (valid_iff.1 hva).2.1
        have hoth : ¬ (os = m.Src ∧ od = m.Dst) → lastP P os od = lastP p os od := fun hh => by
          rw [hlast', if_neg (fun e => hh ⟨e.1.symm, e.2.symm⟩)]
        have hAf : od ≠ m.Dst → A.find? (isD od) = q.find? (isD od) ∧ cntM A od = cntM q od := fun hne => by
          have hno : isD od (nmsg p m) = false := ieq_f.2 (Ne.symm hne)
          rw [← hA]
          refine ⟨?_, ?_⟩
          · rw [List.find?_append, List.find?_cons, hno]
            simp
          · unfold cntM
            unfold isD at hno
            rw [List.filter_append, List.filter_cons, hno]
            simp
        obtain ⟨e, hloop⟩ := loop6 fu hf [⟨A, P⟩, ⟨A.eraseP (isD m.Dst), P⟩, ⟨A.filter (fun x => !isD m.Dst x), P⟩] q p m os od oq (by simp) v4 hp (data_le v3) (fun st hst => by
          simp only [List.mem_cons, List.not_mem_nil, or_false] at hst
          rcases hst with rfl | rfl | rfl
          · exact ⟨hal, show P.length ≤ 301 by omega, hdA, hoth, hAf⟩
          · exact ⟨show (A.eraseP (isD m.Dst)).length ≤ 400 by omega, show P.length ≤ 301 by omega, fun x hx => hdA x (List.mem_of_mem_eraseP hx), hoth, fun hne => by
              obtain ⟨g1, g2⟩ := find_erase hne A
              obtain ⟨g3, g4⟩ := hAf hne
              exact ⟨g1.trans g3, g2.trans g4⟩⟩
          · exact ⟨show (A.filter (fun x => !isD m.Dst x)).length ≤ 400 by omega, show P.length ≤ 301 by omega, fun x hx => hdA x (List.mem_filter.1 hx).1, hoth, fun hne => by
              obtain ⟨g1, g2⟩ := find_filter hne A
              obtain ⟨g3, g4⟩ := hAf hne
              exact ⟨g1.trans g3, g2.trans g4⟩⟩)
        simp only [mT] at hloop
        simp only [he, ieq_iff.2 rfl, take20 fu A P m.Dst (by omega) (by omega) (by omega) (by omega), htk, drop20 fu A P m.Dst (by omega) (by omega) (by omega) (by omega), hdr,
          count20 fu (A.filter (fun x => !isD m.Dst x)) P m.Dst (by omega) (by omega), hc0, show ieq ((0 : Nat) : Int) 0 = true from rfl, count20 fu A P m.Dst (by omega) (by omega), hcA, count20 fu q p m.Dst (by omega) hq, hcadd,
          last20 fu A P m.Src m.Dst (by omega) (by omega), hlA, last20 fu q p m.Src m.Dst (by omega) (by omega), hloop]
/-- PortsOthers is true. -/
theorem law6 (a0_Queue : List Msg20) (a0_Pairs : List Pair20) (a1_Src : Int) (a1_Dst : Int) (a1_Kind : Int) (a1_Seq : Int) (a1_Args_0 : Int) (a1_Args_1 : Int) (a1_Args_2 : Int) (a1_Args_3 : Int) (a1_Data : List Int) (a2_Src : Int) (a2_Dst : Int) (a2_Seq : Int) (h : WfA A6 ((a0_Queue, a0_Pairs, ()), (a1_Src, a1_Dst, a1_Kind, a1_Seq, a1_Args_0, a1_Args_1, a1_Args_2, a1_Args_3, a1_Data, ()), (a2_Src, a2_Dst, a2_Seq, ()), ())) : s6 FU a0_Queue a0_Pairs a1_Src a1_Dst a1_Kind a1_Seq a1_Args_0 a1_Args_1 a1_Args_2 a1_Args_3 a1_Data a2_Src a2_Dst a2_Seq = some (true, ()) :=
  law6_at FU (by decide) aw20 a0_Queue a0_Pairs ⟨a1_Src, a1_Dst, a1_Kind, a1_Seq, a1_Args_0, a1_Args_1, a1_Args_2, a1_Args_3, a1_Data⟩ a2_Src a2_Dst a2_Seq (rgq_of ((h _ (.head _)) (.d (.sl U20.msg a0_Queue)) (.head _)))
end Go.G
