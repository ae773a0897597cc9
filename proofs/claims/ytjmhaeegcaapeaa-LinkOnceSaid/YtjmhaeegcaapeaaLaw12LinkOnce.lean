import Derived.Test.YtjmhaeegcaapeaaP12v
import Derived.Test.YtjmhaeegcaapeaaOn12L10
set_option linter.unusedVariables false
set_option linter.unusedSimpArgs false
namespace Go.G
set_option maxRecDepth 100000
set_option maxHeartbeats 4000000
theorem take_shape {o : Bool} {t op pl : Int} {d : List Int} {lt xt xop xpl : Int} {xd : List Int} {ch : Int} (he : tkE o t lt xt = 0) (hp : prB xt ch = true) (hc : chB o t op pl d lt ch = true) (h1 : By d ∧ d.length ≤ 1000) (h2 : By xd ∧ xd.length ≤ 1000) : ∃ op' pl' d', tkC o t op pl d lt xt xop xpl xd = (true, xt, op', pl', d') ∧ chB true xt op' pl' d' lt ch = true ∧ (By d' ∧ d'.length ≤ 1000) ∧ ((pl' = pl ∨ pl' = xpl) ∨ pl' = 0) := by
  cases o with
  | true =>
    have e : t = xt := by
      unfold tkE at he
      rw [if_pos rfl] at he
      by_cases a : xt < t
      · rw [if_pos a] at he; exact absurd he (by decide)
      · rw [if_neg a] at he
        by_cases b : t < xt
        · rw [if_pos b] at he; exact absurd he (by decide)
        · omega
    subst e
    exact ⟨op, pl, d, rfl, hc, h1, .inl (.inl rfl)⟩
  | false =>
    have h0 : ¬ xt < lt := by
      intro h
      unfold tkE at he
      rw [if_neg (by decide), if_pos h] at he
      exact absurd he (by decide)
    have hs := ch_shut hc
    unfold tkC
    rw [if_neg (by decide)]
    by_cases h : xt = lt
    · rw [if_pos h]
      exact ⟨0, 0, [], rfl, chv hs hp (by omega) 0 0 [], nil_ok, .inr rfl⟩
    · rw [if_neg h]
      exact ⟨xop, xpl, xd, rfl, chv hs hp (by omega) _ _ _, h2, .inl (.inr rfl)⟩
theorem law10_at (k : Nat) (hf : 9223372036854775807 < k) (ha : s11 k = some (true, ())) (P : List Int) (now : Int) (sent : Int) (first : Int) (fl : List Flight12) (wt : List (List Int)) (oo : Bool) (ot : Int) (oop : Int) (opl : Int) (od : List Int) (ol : Int) (olt : Int) (ola : Int) (old : List Int) (io : Bool) (it : Int) (iop : Int) (ipl : Int) (id : List Int) (il : Int) (jlt : Int) (jla : Int) (jld : List Int) (xt xop xpl : Int) (xd : List Int) (zt zop zpl : Int) (zd : List Int)
    (wP : By P ∧ P.length ≤ 9223372036854775807) (wfl : fl.length * 32 ≤ 140737488351232 ∧ ∀ f ∈ fl, By f.Data ∧ f.Data.length ≤ 9223372036854775807) (wwt : wt.length * 24 ≤ 140737488351232 ∧ ∀ b ∈ wt, By b ∧ b.length ≤ 9223372036854775807) (wod : By od ∧ od.length ≤ 9223372036854775807) (wold : By old ∧ old.length ≤ 9223372036854775807) (wid : By id ∧ id.length ≤ 9223372036854775807) (wjld : By jld ∧ jld.length ≤ 9223372036854775807) (wxd : By xd ∧ xd.length ≤ 9223372036854775807) (wipl : ipl ≤ 9223372036854775807) (wxpl : xpl ≤ 9223372036854775807) :
    s10 k P now sent first fl wt oo ot oop opl od ol olt ola old io it iop ipl id il jlt jla jld xt xop xpl xd zt zop zpl zd = some (true, ()) := by
  have l1 := wfl.1
  have l2 := wwt.1
  obtain ⟨b, h19, hb⟩ := few12 (fu := k) (P := P) (now := now) (sent := sent) (first := first) (fl := fl) (wt := wt) (oo := oo) (ot := ot) (oop := oop) (opl := opl) (od := od) (ol := ol) (olt := olt) (ola := ola) (old := old) (io := io) (it := it) (iop := iop) (ipl := ipl) (id := id) (il := il) (jlt := jlt) (jla := jla) (jld := jld) (by omega) (by omega) (by omega) (by omega) xt xop xpl xd
  unfold s10
  cases b with
  | false => simp only [ha, h19]
  | true =>
    obtain ⟨p1, p2, p3, p4, p5, p6, rfl, rfl⟩ := hb rfl
    cases z1 : ilt 300 (dlen zd) with
    | true => simp only [ha, h19, z1]
    | false =>
    cases z2 : ilt 1073741824 now with
    | true => simp only [ha, h19, z1, z2]
    | false =>
    cases z3 : ilt 1073741824 sent with
    | true => simp only [ha, h19, z1, z2, z3]
    | false =>
    cases z4 : ilt 1073741824 first with
    | true => simp only [ha, h19, z1, z2, z3, z4]
    | false =>
    have y1 := ilt_f.1 z1
    have y2 := ilt_f.1 z2
    have y3 := ilt_f.1 z3
    have y4 := ilt_f.1 z4
    rw [dlen_def] at y1
    have e1 := to_eq (fu := k) (P := P) (now := now) (sent := sent) (first := first) (fl := fl) (wt := wt) (oo := oo) (ot := ot) (oop := oop) (opl := opl) (od := od) (olt := olt) (ola := ola) (old := old) (io := io) (it := it) (iop := iop) (ipl := ipl) (id := id) (jlt := jlt) (jla := jla) (jld := jld) (ol := 0) (il := 0) (by omega) l1
    have hby : BySt P fl wt od old id jld := ⟨wP.1, fun f h => (wfl.2 f h).1, fun f h => (wwt.2 f h).1, wod.1, wold.1, wid.1, wjld.1⟩
    have sh : Sh od old id jld xd := ⟨by omega, by omega, by omega, by omega, by omega⟩
    have r0 : ieq 0 0 = true := rfl
    cases hv : validB P now sent first fl wt oo ot oop opl od olt io it iop ipl id jlt with
    | false =>
      have q := do_bad_p (fu := k) (P := P) (now := now) (sent := sent) (first := first) (fl := fl) (wt := wt) (oo := oo) (ot := ot) (oop := oop) (opl := opl) (od := od) (olt := olt) (ola := ola) (old := old) (io := io) (it := it) (iop := iop) (ipl := ipl) (id := id) (jlt := jlt) (jla := jla) (jld := jld) (xt := xt) (xop := xop) (xpl := xpl) (xd := xd) (by omega) hv
      simp only [ha, h19, z1, z2, z3, z4, e1, q, show ieq 1 0 = false from rfl]
    | true =>
    have hc := vchs hv
    have hl := vlen hv
    by_cases hx : (xop = 0 ∨ xop = 1) ∧ prB xt xop = true
    · obtain ⟨hx, hp⟩ := hx
      rcases hx with rfl | rfl
      · have q1 := do_o_p (fu := k) (P := P) (now := now) (sent := sent) (first := first) (fl := fl) (wt := wt) (oo := oo) (ot := ot) (oop := oop) (opl := opl) (od := od) (olt := olt) (ola := ola) (old := old) (io := io) (it := it) (iop := iop) (ipl := ipl) (id := id) (jlt := jlt) (jla := jla) (jld := jld) (xt := xt) (xpl := xpl) (xd := xd) (by omega) sh hv hp
        by_cases he : tkE oo ot olt xt = 0
        · obtain ⟨op', pl', d', s1, s2, s3, _⟩ := take_shape (xop := 0) (xpl := xpl) (xd := xd) he hp hc.1 ⟨wod.1, by omega⟩ ⟨wxd.1, by omega⟩
          rw [if_pos he, s1] at q1
          have vA := vset hv s2 hc.2
          have shA : Sh d' old id jld zd := ⟨s3.2, by omega, by omega, by omega, by omega⟩
          have q2 := do_o_p (fu := k) (ola := ola) (old := old) (jla := jla) (jld := jld) (xt := xt) (xpl := zpl) (xd := zd) (by omega) shA vA hp
          have k1 : tkE true xt olt xt = 0 := by unfold tkE; rw [if_pos rfl, if_neg (by omega), if_neg (by omega)]
          have k2 : tkC true xt op' pl' d' olt xt 0 zpl zd = (true, xt, op', pl', d') := rfl
          rw [if_pos k1, k2] at q2
          have bA : BySt P fl wt d' old id jld := ⟨wP.1, hby.fl, hby.wt, s3.1, wold.1, wid.1, wjld.1⟩
          have q3 := equal_p (fu := k) (P := P) (P' := P) (now := now) (now' := now) (sent := sent) (sent' := sent) (first := first) (first' := first) (oo := true) (oo' := true) (ot := xt) (ot' := xt) (oop := op') (oop' := op') (opl := pl') (opl' := pl') (olt := olt) (olt' := olt) (ola := ola) (ola' := ola) (io := io) (io' := io) (it := it) (it' := it) (iop := iop) (iop' := iop) (ipl := ipl) (ipl' := ipl) (jlt := jlt) (jlt' := jlt) (jla := jla) (jla' := jla) (by omega) (by omega) (by omega) (by omega) bA bA
          rw [eqS_iff.2 rfl] at q3
          obtain ⟨P', now', sent', first', fl', wt', ot', oop', opl', od', olt', ola', old', io', it', iop', ipl', id', jlt', jla', jld', la, ld, L, L', P'', now'', sent'', first'', fl'', wt'', oo'', ot'', oop'', opl'', od'', olt'', ola'', old'', io'', it'', iop'', ipl'', id'', jlt'', jla'', jld'', a1, a2, a3, a4, a5, a6, a7, a8, a9⟩ := once_out (fu := k) (oo := true) (ola := ola) (old := old) (jla := jla) (jld := jld) (xpl := zpl) (xd := zd) ⟨by omega, vA, by omega, by omega, by omega, wP.1, ⟨s3.2, by omega, by omega, by omega, Nat.zero_le _⟩, wipl⟩ (by omega) (by omega) (by omega) bA (by omega)
          have o1 := own_eq (fu := k) (by omega) L a2
          have o2 := ans_eq (fu := k) (by omega) L a2 xt
          have o3 := own_eq (fu := k) (by omega) L' a6
          have o4 := ans_eq (fu := k) (by omega) L' a6 xt
          rw [a3] at o2
          rw [a7] at o4
          have o5 := bytes12 k ld ld (by omega) (by omega)
          have o6 : ieq sent'' sent' = true := ieq_iff.2 a8
          simp only [ha, h19, z1, z2, z3, z4, e1, q1, q2, q3, r0, a1, o1, o2, a4, a5, o3, o4, s32, ieq_d, decide_true, o5]
          simp only [a8, decide_true]
        · rw [if_neg he] at q1
          simp only [ha, h19, z1, z2, z3, z4, e1, q1, ieq_f.2 he]
      · have q1 := do_i_p (fu := k) (P := P) (now := now) (sent := sent) (first := first) (fl := fl) (wt := wt) (oo := oo) (ot := ot) (oop := oop) (opl := opl) (od := od) (olt := olt) (ola := ola) (old := old) (io := io) (it := it) (iop := iop) (ipl := ipl) (id := id) (jlt := jlt) (jla := jla) (jld := jld) (xt := xt) (xpl := xpl) (xd := xd) (by omega) sh hv hp
        by_cases he : tkE io it jlt xt = 0
        · obtain ⟨op', pl', d', s1, s2, s3, s4⟩ := take_shape (xop := 1) (xpl := xpl) (xd := xd) he hp hc.2 ⟨wid.1, by omega⟩ ⟨wxd.1, by omega⟩
          have hpl : pl' ≤ 9223372036854775807 := by omega
          rw [if_pos he, s1] at q1
          have vA := vset hv hc.1 s2
          have shA : Sh od old d' jld zd := ⟨by omega, by omega, s3.2, by omega, by omega⟩
          have q2 := do_i_p (fu := k) (ola := ola) (old := old) (jla := jla) (jld := jld) (xt := xt) (xpl := zpl) (xd := zd) (by omega) shA vA hp
          have k1 : tkE true xt jlt xt = 0 := by unfold tkE; rw [if_pos rfl, if_neg (by omega), if_neg (by omega)]
          have k2 : tkC true xt op' pl' d' jlt xt 1 zpl zd = (true, xt, op', pl', d') := rfl
          rw [if_pos k1, k2] at q2
          have bA : BySt P fl wt od old d' jld := ⟨wP.1, hby.fl, hby.wt, wod.1, wold.1, s3.1, wjld.1⟩
          have q3 := equal_p (fu := k) (P := P) (P' := P) (now := now) (now' := now) (sent := sent) (sent' := sent) (first := first) (first' := first) (oo := oo) (oo' := oo) (ot := ot) (ot' := ot) (oop := oop) (oop' := oop) (opl := opl) (opl' := opl) (olt := olt) (olt' := olt) (ola := ola) (ola' := ola) (io := true) (io' := true) (it := xt) (it' := xt) (iop := op') (iop' := op') (ipl := pl') (ipl' := pl') (jlt := jlt) (jlt' := jlt) (jla := jla) (jla' := jla) (by omega) (by omega) (by omega) (by omega) bA bA
          rw [eqS_iff.2 rfl] at q3
          obtain ⟨P', now', sent', first', fl', wt', oo', ot', oop', opl', od', olt', ola', old', io', it', iop', ipl', id', jlt', jla', jld', L, a1, a0, a2, a3⟩ := once_in (fu := k) (io := true) (ola := ola) (old := old) (jla := jla) (jld := jld) (xpl := zpl) (xd := zd) ⟨by omega, vA, by omega, by omega, by omega, wP.1, ⟨by omega, by omega, s3.2, by omega, Nat.zero_le _⟩, hpl⟩ (by omega) (by omega) (by omega) bA (by omega)
          have o1 := own_eq (fu := k) (by omega) L a2
          have o2 := ans_eq (fu := k) (by omega) L a2 xt
          subst a0
          rcases a3 with a3 | ⟨la, ld, L', P'', now'', sent'', first'', fl'', wt'', oo'', ot'', oop'', opl'', od'', olt'', ola'', old'', io'', it'', iop'', ipl'', id'', jlt'', jla'', jld'', a3, a4, a5, a6, a7, a8, a9⟩
          · rw [a3] at o2
            simp only [ha, h19, z1, z2, z3, z4, e1, q1, q2, q3, r0, a1, o1, o2, show ieq 1 1 = true from rfl]
          · have o3 := own_eq (fu := k) (by omega) L' a6
            have o4 := ans_eq (fu := k) (by omega) L' a6 xt
            rw [a3] at o2
            rw [a7] at o4
            have o5 := bytes12 k ld ld (by omega) (by omega)
            simp only [ha, h19, z1, z2, z3, z4, e1, q1, q2, q3, r0, a1, o1, o2, a4, a5, o3, o4, s32, ieq_d, decide_true, o5]
            simp only [a8, decide_true]
        · rw [if_neg he] at q1
          simp only [ha, h19, z1, z2, z3, z4, e1, q1, ieq_f.2 he]
    · have hx' : ¬ (xop = 0 ∨ xop = 1) ∨ ((xop = 0 ∨ xop = 1) ∧ prB xt xop = false) := by
        by_cases h : xop = 0 ∨ xop = 1
        · exact .inr ⟨h, by cases hq : prB xt xop with | false => rfl | true => exact absurd ⟨h, hq⟩ hx⟩
        · exact .inl h
      have q := do_range_p (fu := k) (P := P) (now := now) (sent := sent) (first := first) (fl := fl) (wt := wt) (oo := oo) (ot := ot) (oop := oop) (opl := opl) (od := od) (olt := olt) (ola := ola) (old := old) (io := io) (it := it) (iop := iop) (ipl := ipl) (id := id) (jlt := jlt) (jla := jla) (jld := jld) (xt := xt) (xop := xop) (xpl := xpl) (xd := xd) (by omega) hv hx'
      simp only [ha, h19, z1, z2, z3, z4, e1, q, show ieq 2 0 = false from rfl]
theorem law10 (a0_Pattern : List Int) (a0_Now : Int) (a0_Sent : Int) (a0_First : Int) (a0_Flying : List Flight12) (a0_Waiting : List (List Int)) (a0_Out_Open : Bool) (a0_Out_Cmd_Tag : Int) (a0_Out_Cmd_Op : Int) (a0_Out_Cmd_Place : Int) (a0_Out_Cmd_Data : List Int) (a0_Out_Left : Int) (a0_Out_Last_Tag : Int) (a0_Out_Last_Answer : Int) (a0_Out_Last_Data : List Int) (a0_In_Open : Bool) (a0_In_Cmd_Tag : Int) (a0_In_Cmd_Op : Int) (a0_In_Cmd_Place : Int) (a0_In_Cmd_Data : List Int) (a0_In_Left : Int) (a0_In_Last_Tag : Int) (a0_In_Last_Answer : Int) (a0_In_Last_Data : List Int) (a1_Tag : Int) (a1_Op : Int) (a1_Place : Int) (a1_Data : List Int) (a2_Tag : Int) (a2_Op : Int) (a2_Place : Int) (a2_Data : List Int) (h : WfA A10 ((a0_Pattern, a0_Now, a0_Sent, a0_First, a0_Flying, a0_Waiting, a0_Out_Open, a0_Out_Cmd_Tag, a0_Out_Cmd_Op, a0_Out_Cmd_Place, a0_Out_Cmd_Data, a0_Out_Left, a0_Out_Last_Tag, a0_Out_Last_Answer, a0_Out_Last_Data, a0_In_Open, a0_In_Cmd_Tag, a0_In_Cmd_Op, a0_In_Cmd_Place, a0_In_Cmd_Data, a0_In_Left, a0_In_Last_Tag, a0_In_Last_Answer, a0_In_Last_Data, ()), (a1_Tag, a1_Op, a1_Place, a1_Data, ()), (a2_Tag, a2_Op, a2_Place, a2_Data, ()), ())) : s10 FU a0_Pattern a0_Now a0_Sent a0_First a0_Flying a0_Waiting a0_Out_Open a0_Out_Cmd_Tag a0_Out_Cmd_Op a0_Out_Cmd_Place a0_Out_Cmd_Data a0_Out_Left a0_Out_Last_Tag a0_Out_Last_Answer a0_Out_Last_Data a0_In_Open a0_In_Cmd_Tag a0_In_Cmd_Op a0_In_Cmd_Place a0_In_Cmd_Data a0_In_Left a0_In_Last_Tag a0_In_Last_Answer a0_In_Last_Data a1_Tag a1_Op a1_Place a1_Data a2_Tag a2_Op a2_Place a2_Data = some (true, ()) := by
  exact law10_at FU (by decide) aw12 a0_Pattern a0_Now a0_Sent a0_First a0_Flying a0_Waiting a0_Out_Open a0_Out_Cmd_Tag a0_Out_Cmd_Op a0_Out_Cmd_Place a0_Out_Cmd_Data a0_Out_Left a0_Out_Last_Tag a0_Out_Last_Answer a0_Out_Last_Data a0_In_Open a0_In_Cmd_Tag a0_In_Cmd_Op a0_In_Cmd_Place a0_In_Cmd_Data a0_In_Left a0_In_Last_Tag a0_In_Last_Answer a0_In_Last_Data a1_Tag a1_Op a1_Place a1_Data a2_Tag a2_Op a2_Place a2_Data (wf_by (show WfD C12 (.sl U12.u8 a0_Pattern) from (h _ (.head _)) (.d (.sl U12.u8 a0_Pattern)) (.head _))) (wf_fl (show WfD C12 (.sl U12.flight a0_Flying) from (h _ (.head _)) (.d (.sl U12.flight a0_Flying)) (.tail _ (.tail _ (.tail _ (.tail _ (.head _))))))) (wf_wt (show WfD C12 (.sl U12.sl_u8 a0_Waiting) from (h _ (.head _)) (.d (.sl U12.sl_u8 a0_Waiting)) (.tail _ (.tail _ (.tail _ (.tail _ (.tail _ (.head _)))))))) (wf_by (show WfD C12 (.sl U12.u8 a0_Out_Cmd_Data) from (h _ (.head _)) (.d (.sl U12.u8 a0_Out_Cmd_Data)) (.tail _ (.tail _ (.tail _ (.tail _ (.tail _ (.tail _ (.tail _ (.tail _ (.tail _ (.tail _ (.head _))))))))))))) (wf_by (show WfD C12 (.sl U12.u8 a0_Out_Last_Data) from (h _ (.head _)) (.d (.sl U12.u8 a0_Out_Last_Data)) (.tail _ (.tail _ (.tail _ (.tail _ (.tail _ (.tail _ (.tail _ (.tail _ (.tail _ (.tail _ (.tail _ (.tail _ (.tail _ (.tail _ (.head _))))))))))))))))) (wf_by (show WfD C12 (.sl U12.u8 a0_In_Cmd_Data) from (h _ (.head _)) (.d (.sl U12.u8 a0_In_Cmd_Data)) (.tail _ (.tail _ (.tail _ (.tail _ (.tail _ (.tail _ (.tail _ (.tail _ (.tail _ (.tail _ (.tail _ (.tail _ (.tail _ (.tail _ (.tail _ (.tail _ (.tail _ (.tail _ (.tail _ (.head _)))))))))))))))))))))) (wf_by (show WfD C12 (.sl U12.u8 a0_In_Last_Data) from (h _ (.head _)) (.d (.sl U12.u8 a0_In_Last_Data)) (.tail _ (.tail _ (.tail _ (.tail _ (.tail _ (.tail _ (.tail _ (.tail _ (.tail _ (.tail _ (.tail _ (.tail _ (.tail _ (.tail _ (.tail _ (.tail _ (.tail _ (.tail _ (.tail _ (.tail _ (.tail _ (.tail _ (.tail _ (.head _)))))))))))))))))))))))))) (wf_by (show WfD C12 (.sl U12.u8 a1_Data) from (h _ (.tail _ (.head _))) (.d (.sl U12.u8 a1_Data)) (.tail _ (.tail _ (.tail _ (.head _)))))) (wfd_i64 (show WfD C12 (.int .i64 a0_In_Cmd_Place) from (h _ (.head _)) (.d (.int .i64 a0_In_Cmd_Place)) (.tail _ (.tail _ (.tail _ (.tail _ (.tail _ (.tail _ (.tail _ (.tail _ (.tail _ (.tail _ (.tail _ (.tail _ (.tail _ (.tail _ (.tail _ (.tail _ (.tail _ (.tail _ (.head _))))))))))))))))))))).2 (wfd_i64 (show WfD C12 (.int .i64 a1_Place) from (h _ (.tail _ (.head _))) (.d (.int .i64 a1_Place)) (.tail _ (.tail _ (.head _))))).2
end Go.G
