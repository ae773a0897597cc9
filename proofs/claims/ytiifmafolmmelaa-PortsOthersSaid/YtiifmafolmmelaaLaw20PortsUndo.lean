import Derived.Test.YtiifmafolmmelaaP20f
set_option linter.unusedVariables false
set_option linter.unusedSimpArgs false
namespace Go.G
set_option maxRecDepth 100000
theorem cnt_none {q : List Msg20} {d : Int} (h : cntM q d = 0) : ∀ m ∈ q, isD d m = false := fun m hm => by
  unfold cntM at h
  have := List.eq_nil_of_length_eq_zero h
  rw [List.filter_eq_nil_iff] at this
  have := this m hm
  unfold isD
  simpa using this
theorem find_sent {q : List Msg20} {p : List Pair20} {m : Msg20} (h : ∀ x ∈ q, isD m.Dst x = false) : (q ++ [nmsg p m]).find? (isD m.Dst) = some (nmsg p m) ∧ (q ++ [nmsg p m]).eraseP (isD m.Dst) = q := by
  have h1 : isD m.Dst (nmsg p m) = true := ieq_iff.2 rfl
  have h2 : q.find? (isD m.Dst) = none := List.find?_eq_none.2 (fun x hx => by simp [h x hx])
  refine ⟨by rw [List.find?_append, h2]; simp [h1], ?_⟩
  rw [List.eraseP_append_right _ (fun x hx => by simp [h x hx]), List.eraseP_cons_of_pos h1, List.append_nil]
theorem law4_at (fu : Nat) (hf : 10000000000000000000 < fu) (ha : s9 fu = some (true, ())) (q : List Msg20) (p : List Pair20) (m : Msg20) (hq : q.length ≤ 9223372036854775807) :
    s4 fu q p m.Src m.Dst m.Kind m.Seq m.Args_0 m.Args_1 m.Args_2 m.Args_3 m.Data = some (true, ()) := by
  unfold s4
  rw [ha]
  simp only
  rw [few20 fu q p (by omega) hq]
  cases hfew : fewB q p with
  | false => rfl
  | true =>
    have hp := fewB_pairs hfew
    cases hd : ilt 2000 (dlen m.Data) with
    | true => rfl
    | false =>
      rw [ilt_f, dlen_def] at hd
      simp only [count20' fu q p m.Dst (by omega) hq]
      cases hc : ilt 0 (cntM q m.Dst : Int) with
      | true => rfl
      | false =>
        rw [ilt_f] at hc
        simp only [to20 fu q p (show p.length < fu by omega) (by omega), send20 fu q p m (by omega) (by omega) (by omega) hq (by omega)]
        rcases sendF_cases q p m with ⟨c, hc', he⟩ | ⟨he, hv, hpm, hql, hlast⟩
        · simp only [he, ieq_f.2 hc']
        · have hva := sent_valid hv hpm hql hlast
          obtain ⟨f1, f2⟩ := find_sent (p := p) (cnt_none (show cntM q m.Dst = 0 by omega))
          have hpl : (putS ltP (npr p m) p).length ≤ p.length + 1 := by rw [putS_len]; have := noS_len (lt := ltP) (l := p) (x := npr p m); omega
          have htk : takeF (q ++ [nmsg p m]) (putS ltP (npr p m) p) m.Dst = (stT q (putS ltP (npr p m) p), mT (nmsg p m), 0, ()) := by
            unfold takeF
            rw [hva, f1, f2]
            rfl
          have hsm : s13 fu (nmsg p m).Src (nmsg p m).Dst (nmsg p m).Kind (nmsg p m).Seq (nmsg p m).Args_0 (nmsg p m).Args_1 (nmsg p m).Args_2 (nmsg p m).Args_3 (nmsg p m).Data m.Src m.Dst m.Kind (iadd .i64 (lastP p m.Src m.Dst) 1) m.Args_0 m.Args_1 m.Args_2 m.Args_3 m.Data = some (true, ()) := by
            have := smsg20 fu (nmsg p m) (nmsg p m)
            rw [sameM_self] at this
            exact this
          simp only [he, ieq_iff.2 rfl, take20 fu (q ++ [nmsg p m]) (putS ltP (npr p m) p) m.Dst (by omega) (by omega) (by simp; omega) (by simp; omega), htk, last20' fu q p m.Src m.Dst (by omega) (by omega), hsm, eqR20 fu q q [] [] (by simp; omega) (by simp) (by omega) hq, eqS_self]
/-- PortsUndo is true. -/
theorem law4 (a0_Queue : List Msg20) (a0_Pairs : List Pair20) (a1_Src : Int) (a1_Dst : Int) (a1_Kind : Int) (a1_Seq : Int) (a1_Args_0 : Int) (a1_Args_1 : Int) (a1_Args_2 : Int) (a1_Args_3 : Int) (a1_Data : List Int) (h : WfA A4 ((a0_Queue, a0_Pairs, ()), (a1_Src, a1_Dst, a1_Kind, a1_Seq, a1_Args_0, a1_Args_1, a1_Args_2, a1_Args_3, a1_Data, ()), ())) : s4 FU a0_Queue a0_Pairs a1_Src a1_Dst a1_Kind a1_Seq a1_Args_0 a1_Args_1 a1_Args_2 a1_Args_3 a1_Data = some (true, ()) :=
  law4_at FU (by decide) aw20 a0_Queue a0_Pairs ⟨a1_Src, a1_Dst, a1_Kind, a1_Seq, a1_Args_0, a1_Args_1, a1_Args_2, a1_Args_3, a1_Data⟩ (rgq_of ((h _ (.head _)) (.d (.sl U20.msg a0_Queue)) (.head _)))
end Go.G
