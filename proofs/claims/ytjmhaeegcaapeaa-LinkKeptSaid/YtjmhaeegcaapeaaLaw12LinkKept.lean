import Derived.Test.YtjmhaeegcaapeaaP12z
import Derived.Test.YtjmhaeegcaapeaaOn12L6
set_option linter.unusedVariables false
set_option linter.unusedSimpArgs false
namespace Go.G
set_option maxRecDepth 100000
set_option maxHeartbeats 4000000
theorem iter3 {X ε : Type} {step : X → Option (X ⊕ ε)} {s0 s1 s2 : X} {e : ε} {fu : Nat} (hf : 3 < fu) (h0 : step s0 = some (.inl s1)) (h1 : step s1 = some (.inl s2)) (h2 : step s2 = some (.inr e)) : iter step fu s0 = some e := by
  obtain ⟨k, rfl⟩ : ∃ k, fu = k + 3 := ⟨fu - 3, by omega⟩
  simp only [iter, h0, h1, h2]
theorem kept_it {fu : Nat} {P : List Int} {now : Int} {sent : Int} {first : Int} {fl : List Flight12} {wt : List (List Int)} {oo : Bool} {ot : Int} {oop : Int} {opl : Int} {od : List Int} {olt : Int} {ola : Int} {old : List Int} {io : Bool} {it : Int} {iop : Int} {ipl : Int} {id : List Int} {jlt : Int} {jla : Int} {jld : List Int} {P' : List Int} {now' : Int} {sent' : Int} {first' : Int} {fl' : List Flight12} {wt' : List (List Int)} {oo' : Bool} {ot' : Int} {oop' : Int} {opl' : Int} {od' : List Int} {olt' : Int} {ola' : Int} {old' : List Int} {io' : Bool} {it' : Int} {iop' : Int} {ipl' : Int} {id' : List Int} {jlt' : Int} {jla' : Int} {jld' : List Int} {P'' : List Int} {now'' : Int} {sent'' : Int} {first'' : Int} {fl'' : List Flight12} {wt'' : List (List Int)} {oo'' : Bool} {ot'' : Int} {oop'' : Int} {opl'' : Int} {od'' : List Int} {olt'' : Int} {ola'' : Int} {old'' : List Int} {io'' : Bool} {it'' : Int} {iop'' : Int} {ipl'' : Int} {id'' : List Int} {jlt'' : Int} {jla'' : Int} {jld'' : List Int} {L : List Answer12} {tag p j : Int} {b : List Int} {i : Nat} (S : ((List Int) × (Int × (Int × (Int × ((List Flight12) × ((List (List Int)) × (Bool × (Int × (Int × (Int × ((List Int) × (Int × (Int × (Int × ((List Int) × (Bool × (Int × (Int × (Int × ((List Int) × (Int × (Int × (Int × ((List Int) × Unit))))))))))))))))))))))))) (hf : 1000000 < fu) (hj : j < 2) (h3 : iadd .i64 S.2.2.2.1 (i : Int) = p) (h5 : dat S.2.2.2.2.2.1 (i : Int) = some b) (hbl : b.length ≤ 1000) (hp : iadd .i64 p 1 = p + 1)
    (h26 : s26 fu P now sent first fl wt oo ot oop opl od olt ola old io it iop ipl id jlt jla jld tag 1 p [] = some (tu P' now' sent' first' fl' wt' oo' ot' oop' opl' od' olt' ola' old' io' it' iop' ipl' id' jlt' jla' jld', (0, ()))) (h20 : s20 fu P' now' sent' first' fl' wt' oo' ot' oop' opl' od' olt' ola' old' io' it' iop' ipl' id' jlt' jla' jld' = some (tu P'' now'' sent'' first'' fl'' wt'' oo'' ot'' oop'' opl'' od'' olt'' ola'' old'' io'' it'' iop'' ipl'' id'' jlt'' jla'' jld'', (L, ()))) (hL : L.length ≤ 10) (hfi : L.find? (fun a => decide (a.Tag = tag)) = some ⟨tag, p + 1, b⟩) :
    t6_4 fu ((), ((i : Int), (tag, ((), (j, ((tu P now sent first fl wt oo ot oop opl od olt ola old io it iop ipl id jlt jla jld), (S, ()))))))) = some (.inl ((), ((i : Int), (iadd .i64 tag 2, ((), (iadd .i64 j 1, ((tu P'' now'' sent'' first'' fl'' wt'' oo'' ot'' oop'' opl'' od'' olt'' ola'' old'' io'' it'' iop'' ipl'' id'' jlt'' jla'' jld''), (S, ())))))))) := by
  have e1 := own_eq (fu := fu) (by omega) L hL
  have e2 := ans_eq (fu := fu) (by omega) L hL tag
  rw [hfi] at e2
  have e3 := bytes12 fu b b (by omega) (by omega)
  simp only [t6_4, ilt_iff.2 hj, h3, h26, h20, e1, e2, hp, h5, e3, ieq_d, decide_true]
theorem law6_at (k : Nat) (hf : 9223372036854775807 < k) (ha : s11 k = some (true, ())) (P : List Int) (now : Int) (sent : Int) (first : Int) (fl : List Flight12) (wt : List (List Int)) (oo : Bool) (ot : Int) (oop : Int) (opl : Int) (od : List Int) (ol : Int) (olt : Int) (ola : Int) (old : List Int) (io : Bool) (it : Int) (iop : Int) (ipl : Int) (id : List Int) (il : Int) (jlt : Int) (jla : Int) (jld : List Int) (q : Int) (hq : 0 ≤ q ∧ q ≤ 255)
    (wP : By P ∧ P.length ≤ 9223372036854775807) (wfl : fl.length * 32 ≤ 140737488351232 ∧ ∀ f ∈ fl, By f.Data ∧ f.Data.length ≤ 9223372036854775807) (wwt : wt.length * 24 ≤ 140737488351232 ∧ ∀ b ∈ wt, By b ∧ b.length ≤ 9223372036854775807) (wod : By od ∧ od.length ≤ 9223372036854775807) (wold : By old ∧ old.length ≤ 9223372036854775807) (wid : By id ∧ id.length ≤ 9223372036854775807) (wjld : By jld ∧ jld.length ≤ 9223372036854775807) :
    s6 k P now sent first fl wt oo ot oop opl od ol olt ola old io it iop ipl id il jlt jla jld q = some (true, ()) := by
  have l1 := wfl.1
  have l2 := wwt.1
  obtain ⟨b, h19, hb⟩ := few12 (fu := k) (P := P) (now := now) (sent := sent) (first := first) (fl := fl) (wt := wt) (oo := oo) (ot := ot) (oop := oop) (opl := opl) (od := od) (ol := ol) (olt := olt) (ola := ola) (old := old) (io := io) (it := it) (iop := iop) (ipl := ipl) (id := id) (il := il) (jlt := jlt) (jla := jla) (jld := jld) (by omega) (by omega) (by omega) (by omega) 0 0 0 []
  unfold s6
  cases b with
  | false => simp only [ha, h19]
  | true =>
    obtain ⟨p1, p2, p3, p4, p5, p6, rfl, rfl⟩ := hb rfl
    have e28 := valid_r (fu := k) (P := P) (now := now) (sent := sent) (first := first) (fl := fl) (wt := wt) (oo := oo) (ot := ot) (oop := oop) (opl := opl) (od := od) (olt := olt) (ola := ola) (old := old) (io := io) (it := it) (iop := iop) (ipl := ipl) (id := id) (jlt := jlt) (jla := jla) (jld := jld) (by omega) (by omega) (by omega)
    cases hv : validB P now sent first fl wt oo ot oop opl od olt io it iop ipl id jlt with
    | false =>
      rw [hv] at e28
      simp only [ha, h19, e28]
    | true =>
    rw [hv] at e28
    cases io with
    | true => simp only [ha, h19, e28]
    | false =>
    cases z1 : ilt 1099511627776 jlt with
    | true => simp only [ha, h19, e28, z1]
    | false =>
    cases z2 : ieq (dlen wt) 0 with
    | true => simp only [ha, h19, e28, z1, z2]
    | false =>
    cases z3 : ilt 1073741824 now with
    | true => simp only [ha, h19, e28, z1, z2, z3]
    | false =>
    cases z4 : ilt 1073741824 sent with
    | true => simp only [ha, h19, e28, z1, z2, z3, z4]
    | false =>
    cases z5 : ilt 1073741824 first with
    | true => simp only [ha, h19, e28, z1, z2, z3, z4, z5]
    | false =>
    have y1 := ilt_f.1 z1
    have y2 := ieq_f.1 z2
    have y3 := ilt_f.1 z3
    have y4 := ilt_f.1 z4
    have y5 := ilt_f.1 z5
    rw [dlen_def] at y2
    have hv0 := hv
    unfold validB at hv0
    simp only [Bool.and_eq_true, decide_eq_true_eq] at hv0
    obtain ⟨v1, v2, v3, v4, v5, v6, v7, v8, v9, v10⟩ := hv0
    unfold numB at v4
    simp only [Bool.and_eq_true, decide_eq_true_eq] at v4
    have e1 := to_eq (fu := k) (P := P) (now := now) (sent := sent) (first := first) (fl := fl) (wt := wt) (oo := oo) (ot := ot) (oop := oop) (opl := opl) (od := od) (ol := 0) (olt := olt) (ola := ola) (old := old) (io := false) (it := it) (iop := iop) (ipl := ipl) (id := id) (il := 0) (jlt := jlt) (jla := jla) (jld := jld) (by omega) l1
    have hby : BySt P fl wt od old id jld := ⟨wP.1, fun f h => (wfl.2 f h).1, fun f h => (wwt.2 f h).1, wod.1, wold.1, wid.1, wjld.1⟩
    have sh : Sh od old id jld [] := ⟨by omega, by omega, by omega, by omega, Nat.zero_le _⟩
    -- the index
    obtain ⟨i, hi⟩ : ∃ i : Nat, irem .i64 (iwrap .i64 q) (dlen wt) = (i : Int) ∧ i < wt.length := by
      have w : iwrap .i64 q = q := wrap64 (by omega)
      have e : irem .i64 q (dlen wt) = q.tmod (wt.length : Int) := rfl
      rw [w, e]
      have a1 := Int.tmod_nonneg (wt.length : Int) hq.1
      have a2 := Int.tmod_lt_of_pos q (show (0 : Int) < (wt.length : Int) by omega)
      exact ⟨(q.tmod (wt.length : Int)).toNat, by omega, by omega⟩
    obtain ⟨b, hbi⟩ : ∃ b, wt[i]? = some b := ⟨_, List.getElem?_eq_getElem hi.2⟩
    have hfb := frB_iff.1 (List.all_eq_true.1 v8 b (List.mem_of_getElem? hbi))
    -- the tag
    have hj : jlt = 0 ∨ prB jlt 1 = true := by
      unfold chB at v10
      simp only [Bool.and_eq_true, Bool.or_eq_true, decide_eq_true_eq] at v10
      exact v10.1
    have hj0 : 0 ≤ jlt := by
      rcases hj with h | h
      · omega
      · unfold prB at h
        simp only [Bool.and_eq_true, decide_eq_true_eq] at h
        omega
    obtain ⟨tag, ht, htp, htl, htm⟩ : ∃ tag, isub .i64 (iadd .i64 jlt 2) (irem .i64 (iadd .i64 jlt 1) 2) = tag ∧ prB tag 1 = true ∧ jlt < tag ∧ tag ≤ jlt + 2 := by
      rw [iadd64 (by omega), iadd64 (by omega), irem2, Int.tmod_eq_emod_of_nonneg (by omega), isub64 (by omega)]
      refine ⟨_, rfl, ?_, by omega, by omega⟩
      unfold prB
      simp only [Bool.and_eq_true, decide_eq_true_eq]
      rw [Int.tmod_eq_emod_of_nonneg (by omega)]
      rcases hj with h | h
      · omega
      · unfold prB at h
        simp only [Bool.and_eq_true, decide_eq_true_eq] at h
        rw [Int.tmod_eq_emod_of_nonneg (by omega)] at h
        omega
    have hp3 : iadd .i64 first (i : Int) = first + (i : Int) := iadd64 (by omega)
    have hp1 : iadd .i64 (first + (i : Int)) 1 = first + (i : Int) + 1 := iadd64 (by omega)
    have h5 : dat wt (i : Int) = some b := by rw [dat_nat]; exact hbi
    obtain ⟨P', now', sent', first', fl', wt', oo', ot', oop', opl', od', olt', ola', old', io', it', iop', ipl', id', jlt', jla', jld', L, a1, a2, a3, a4, a5, a6, a7, a8, a9, a10, a11, a12, a13⟩ := kept_step (fu := k) (ola := ola) (jla := jla) (by omega) hv (by omega) (by omega) (by omega) hby sh rfl htp htl hbi rfl
    have htp2 : prB (tag + 2) 1 = true := by
      unfold prB at htp ⊢
      simp only [Bool.and_eq_true, decide_eq_true_eq] at htp ⊢
      rw [Int.tmod_eq_emod_of_nonneg (by omega)] at htp ⊢
      omega
    obtain ⟨P'', now'', sent'', first'', fl'', wt'', oo'', ot'', oop'', opl'', od'', olt'', ola'', old'', io'', it'', iop'', ipl'', id'', jlt'', jla'', jld'', L', b1, b2, b3, b4, b5, b6, b7, b8, b9, b10, b11, b12, b13⟩ := kept_step (fu := k) (ola := ola') (jla := jla') (tag := tag + 2) (p := first + (i : Int)) (i := 0) (by omega) a5 (by omega) (by omega) (by omega) a9 a10 a11 htp2 (by omega) a13 (by omega)
    have ht2 : iadd .i64 tag 2 = tag + 2 := iadd64 (by omega)
    have s1 := kept_it (j := 0) (tv P now sent first fl wt oo ot oop opl od 0 olt ola old false it iop ipl id 0 jlt jla jld) (by omega) (by decide) hp3 h5 (by have := hfb.2; omega) hp1 a1 a2 a3 a4
    have s2 := kept_it (j := 1) (tv P now sent first fl wt oo ot oop opl od 0 olt ola old false it iop ipl id 0 jlt jla jld) (by omega) (by decide) hp3 h5 (by have := hfb.2; omega) hp1 b1 b2 b3 b4
    rw [ht2, show iadd .i64 0 1 = 1 from rfl] at s1
    rw [show iadd .i64 1 1 = 2 from rfl] at s2
    have it3 := iter3 (fu := k) (by omega) s1 s2 (e := .inl ((), ((i : Int), ((), ((tu P'' now'' sent'' first'' fl'' wt'' oo'' ot'' oop'' opl'' od'' olt'' ola'' old'' io'' it'' iop'' ipl'' id'' jlt'' jla'' jld''), ((tv P now sent first fl wt oo ot oop opl od 0 olt ola old false it iop ipl id 0 jlt jla jld), ())))))) (by simp only [t6_4, show ilt 2 2 = false from rfl])
    simp only [ha, h19, e28, z1, z2, z3, z4, z5, show ieq 2 0 = false from rfl, e1, hi.1, ht, it3, hp3]
    rw [b8, ieq_iff.2 rfl]
theorem law6 (a0_Pattern : List Int) (a0_Now : Int) (a0_Sent : Int) (a0_First : Int) (a0_Flying : List Flight12) (a0_Waiting : List (List Int)) (a0_Out_Open : Bool) (a0_Out_Cmd_Tag : Int) (a0_Out_Cmd_Op : Int) (a0_Out_Cmd_Place : Int) (a0_Out_Cmd_Data : List Int) (a0_Out_Left : Int) (a0_Out_Last_Tag : Int) (a0_Out_Last_Answer : Int) (a0_Out_Last_Data : List Int) (a0_In_Open : Bool) (a0_In_Cmd_Tag : Int) (a0_In_Cmd_Op : Int) (a0_In_Cmd_Place : Int) (a0_In_Cmd_Data : List Int) (a0_In_Left : Int) (a0_In_Last_Tag : Int) (a0_In_Last_Answer : Int) (a0_In_Last_Data : List Int) (a1 : Int) (h : WfA A6 ((a0_Pattern, a0_Now, a0_Sent, a0_First, a0_Flying, a0_Waiting, a0_Out_Open, a0_Out_Cmd_Tag, a0_Out_Cmd_Op, a0_Out_Cmd_Place, a0_Out_Cmd_Data, a0_Out_Left, a0_Out_Last_Tag, a0_Out_Last_Answer, a0_Out_Last_Data, a0_In_Open, a0_In_Cmd_Tag, a0_In_Cmd_Op, a0_In_Cmd_Place, a0_In_Cmd_Data, a0_In_Left, a0_In_Last_Tag, a0_In_Last_Answer, a0_In_Last_Data, ()), a1, ())) : s6 FU a0_Pattern a0_Now a0_Sent a0_First a0_Flying a0_Waiting a0_Out_Open a0_Out_Cmd_Tag a0_Out_Cmd_Op a0_Out_Cmd_Place a0_Out_Cmd_Data a0_Out_Left a0_Out_Last_Tag a0_Out_Last_Answer a0_Out_Last_Data a0_In_Open a0_In_Cmd_Tag a0_In_Cmd_Op a0_In_Cmd_Place a0_In_Cmd_Data a0_In_Left a0_In_Last_Tag a0_In_Last_Answer a0_In_Last_Data a1 = some (true, ()) := by
  exact law6_at FU (by decide) aw12 a0_Pattern a0_Now a0_Sent a0_First a0_Flying a0_Waiting a0_Out_Open a0_Out_Cmd_Tag a0_Out_Cmd_Op a0_Out_Cmd_Place a0_Out_Cmd_Data a0_Out_Left a0_Out_Last_Tag a0_Out_Last_Answer a0_Out_Last_Data a0_In_Open a0_In_Cmd_Tag a0_In_Cmd_Op a0_In_Cmd_Place a0_In_Cmd_Data a0_In_Left a0_In_Last_Tag a0_In_Last_Answer a0_In_Last_Data a1 (wfd_u8 (show WfD C12 (.int .u8 a1) from (h _ (.tail _ (.head _))))) (wf_by (show WfD C12 (.sl U12.u8 a0_Pattern) from (h _ (.head _)) (.d (.sl U12.u8 a0_Pattern)) (.head _))) (wf_fl (show WfD C12 (.sl U12.flight a0_Flying) from (h _ (.head _)) (.d (.sl U12.flight a0_Flying)) (.tail _ (.tail _ (.tail _ (.tail _ (.head _))))))) (wf_wt (show WfD C12 (.sl U12.sl_u8 a0_Waiting) from (h _ (.head _)) (.d (.sl U12.sl_u8 a0_Waiting)) (.tail _ (.tail _ (.tail _ (.tail _ (.tail _ (.head _)))))))) (wf_by (show WfD C12 (.sl U12.u8 a0_Out_Cmd_Data) from (h _ (.head _)) (.d (.sl U12.u8 a0_Out_Cmd_Data)) (.tail _ (.tail _ (.tail _ (.tail _ (.tail _ (.tail _ (.tail _ (.tail _ (.tail _ (.tail _ (.head _))))))))))))) (wf_by (show WfD C12 (.sl U12.u8 a0_Out_Last_Data) from (h _ (.head _)) (.d (.sl U12.u8 a0_Out_Last_Data)) (.tail _ (.tail _ (.tail _ (.tail _ (.tail _ (.tail _ (.tail _ (.tail _ (.tail _ (.tail _ (.tail _ (.tail _ (.tail _ (.tail _ (.head _))))))))))))))))) (wf_by (show WfD C12 (.sl U12.u8 a0_In_Cmd_Data) from (h _ (.head _)) (.d (.sl U12.u8 a0_In_Cmd_Data)) (.tail _ (.tail _ (.tail _ (.tail _ (.tail _ (.tail _ (.tail _ (.tail _ (.tail _ (.tail _ (.tail _ (.tail _ (.tail _ (.tail _ (.tail _ (.tail _ (.tail _ (.tail _ (.tail _ (.head _)))))))))))))))))))))) (wf_by (show WfD C12 (.sl U12.u8 a0_In_Last_Data) from (h _ (.head _)) (.d (.sl U12.u8 a0_In_Last_Data)) (.tail _ (.tail _ (.tail _ (.tail _ (.tail _ (.tail _ (.tail _ (.tail _ (.tail _ (.tail _ (.tail _ (.tail _ (.tail _ (.tail _ (.tail _ (.tail _ (.tail _ (.tail _ (.tail _ (.tail _ (.tail _ (.tail _ (.tail _ (.head _))))))))))))))))))))))))))
end Go.G
