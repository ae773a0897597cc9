import Derived.Test.YtjmhaeegcaapeaaP12r
set_option linter.unusedVariables false
set_option linter.unusedSimpArgs false
namespace Go.G
set_option maxRecDepth 100000
theorem law9_at (k : Nat) (hf : 9223372036854775807 < k) (ha : s11 k = some (true, ())) (P : List Int) (now : Int) (sent : Int) (first : Int) (fl : List Flight12) (wt : List (List Int)) (oo : Bool) (ot : Int) (oop : Int) (opl : Int) (od : List Int) (ol : Int) (olt : Int) (ola : Int) (old : List Int) (io : Bool) (it : Int) (iop : Int) (ipl : Int) (id : List Int) (il : Int) (jlt : Int) (jla : Int) (jld : List Int) (xt : Int) (xop : Int) (xpl : Int) (xd : List Int)
    (wP : By P ∧ P.length ≤ 9223372036854775807) (wfl : fl.length * 32 ≤ 140737488351232 ∧ ∀ f ∈ fl, By f.Data ∧ f.Data.length ≤ 9223372036854775807) (wwt : wt.length * 24 ≤ 140737488351232 ∧ ∀ b ∈ wt, By b ∧ b.length ≤ 9223372036854775807) (wod : By od ∧ od.length ≤ 9223372036854775807) (wold : By old ∧ old.length ≤ 9223372036854775807) (wid : By id ∧ id.length ≤ 9223372036854775807) (wjld : By jld ∧ jld.length ≤ 9223372036854775807) (wxd : By xd ∧ xd.length ≤ 9223372036854775807) :
    s9 k P now sent first fl wt oo ot oop opl od ol olt ola old io it iop ipl id il jlt jla jld xt xop xpl xd = some (true, ()) := by
  have l1 := wfl.1
  have l2 := wwt.1
  obtain ⟨b, h19, hb⟩ := few12 (fu := k) (P := P) (now := now) (sent := sent) (first := first) (fl := fl) (wt := wt) (oo := oo) (ot := ot) (oop := oop) (opl := opl) (od := od) (ol := ol) (olt := olt) (ola := ola) (old := old) (io := io) (it := it) (iop := iop) (ipl := ipl) (id := id) (il := il) (jlt := jlt) (jla := jla) (jld := jld) (by omega) (by omega) (by omega) (by omega) xt xop xpl xd
  cases b with
  | false =>
    unfold s9
    simp only [ha, h19]
  | true =>
    obtain ⟨p1, p2, p3, p4, p5, p6, rfl, rfl⟩ := hb rfl
    have hS : Fine P fl wt od old id jld := ⟨⟨wP.1, fun f h => (wfl.2 f h).1, fun f h => (wwt.2 f h).1, wod.1, wold.1, wid.1, wjld.1⟩, by omega, l1, l2, fun f h => (wfl.2 f h).2, fun f h => (wwt.2 f h).2, by omega, by omega, by omega, by omega⟩
    have sh : Sh od old id jld xd := ⟨by omega, by omega, by omega, by omega, by omega⟩
    cases hv : validB P now sent first fl wt oo ot oop opl od olt io it iop ipl id jlt with
    | false => exact link_fin hf ha h19 hS fine0 (do_bad_p (by omega) hv) (do_bad_r (by omega) (by omega) (by omega) hv) (fun h => absurd h (by decide))
    | true =>
      have hv' := hv
      unfold validB at hv'
      simp only [Bool.and_eq_true] at hv'
      obtain ⟨v1, v2, v3, v4, v5, v6, v7, v8, v9, v10⟩ := hv'
      by_cases hx : (xop = 0 ∨ xop = 1) ∧ prB xt xop = true
      · obtain ⟨hx, hp⟩ := hx
        rcases hx with rfl | rfl
        · have q1 := do_o_p (fu := k) (ola := ola) (jla := jla) (xpl := xpl) (by omega) sh hv hp
          have q2 := do_o_r (fu := k) (ola := ola) (jla := jla) (xpl := xpl) (by omega) sh hv hp
          by_cases he : tkE oo ot olt xt = 0
          · rw [if_pos he] at q1 q2
            have tb := take_by (o := oo) (t := ot) (op := oop) (pl := opl) (lt := olt) (xt := xt) (xop := 0) (xpl := xpl) (show By od ∧ od.length ≤ 1000 from ⟨wod.1, by omega⟩) (show By xd ∧ xd.length ≤ 1000 from ⟨wxd.1, by omega⟩)
            exact link_fin (P' := P) (now' := now) (sent' := sent) (first' := first) (fl' := fl) (wt' := wt) (olt' := olt) (ola' := ola) (old' := old) (io' := io) (it' := it) (iop' := iop) (ipl' := ipl) (id' := id) (jlt' := jlt) (jla' := jla) (jld' := jld) (oo' := (tkC oo ot oop opl od olt xt 0 xpl xd).1) (ot' := (tkC oo ot oop opl od olt xt 0 xpl xd).2.1) (oop' := (tkC oo ot oop opl od olt xt 0 xpl xd).2.2.1) (opl' := (tkC oo ot oop opl od olt xt 0 xpl xd).2.2.2.1) (od' := (tkC oo ot oop opl od olt xt 0 xpl xd).2.2.2.2) hf ha h19 hS ⟨⟨wP.1, hS.by_.fl, hS.by_.wt, tb.1, wold.1, wid.1, wjld.1⟩, by omega, l1, l2, hS.fd, hS.wd, tb.2, by omega, by omega, by omega⟩ q1 q2 (fun _ => by
              unfold validB
              simp only [Bool.and_eq_true]
              exact ⟨v1, v2, v3, v4, v5, v6, v7, v8, take_valid he hp v9, v10⟩)
          · rw [if_neg he] at q1 q2
            exact link_fin hf ha h19 hS fine0 q1 q2 (fun h => absurd h he)
        · have q1 := do_i_p (fu := k) (ola := ola) (jla := jla) (xpl := xpl) (by omega) sh hv hp
          have q2 := do_i_r (fu := k) (ola := ola) (jla := jla) (xpl := xpl) (by omega) sh hv hp
          by_cases he : tkE io it jlt xt = 0
          · rw [if_pos he] at q1 q2
            have tb := take_by (o := io) (t := it) (op := iop) (pl := ipl) (lt := jlt) (xt := xt) (xop := 1) (xpl := xpl) (show By id ∧ id.length ≤ 1000 from ⟨wid.1, by omega⟩) (show By xd ∧ xd.length ≤ 1000 from ⟨wxd.1, by omega⟩)
            exact link_fin (P' := P) (now' := now) (sent' := sent) (first' := first) (fl' := fl) (wt' := wt) (oo' := oo) (ot' := ot) (oop' := oop) (opl' := opl) (od' := od) (olt' := olt) (ola' := ola) (old' := old) (jlt' := jlt) (jla' := jla) (jld' := jld) (io' := (tkC io it iop ipl id jlt xt 1 xpl xd).1) (it' := (tkC io it iop ipl id jlt xt 1 xpl xd).2.1) (iop' := (tkC io it iop ipl id jlt xt 1 xpl xd).2.2.1) (ipl' := (tkC io it iop ipl id jlt xt 1 xpl xd).2.2.2.1) (id' := (tkC io it iop ipl id jlt xt 1 xpl xd).2.2.2.2) hf ha h19 hS ⟨⟨wP.1, hS.by_.fl, hS.by_.wt, wod.1, wold.1, tb.1, wjld.1⟩, by omega, l1, l2, hS.fd, hS.wd, by omega, by omega, tb.2, by omega⟩ q1 q2 (fun _ => by
              unfold validB
              simp only [Bool.and_eq_true]
              exact ⟨v1, v2, v3, v4, v5, v6, v7, v8, v9, take_valid he hp v10⟩)
          · rw [if_neg he] at q1 q2
            exact link_fin hf ha h19 hS fine0 q1 q2 (fun h => absurd h he)
      · have hx' : ¬ (xop = 0 ∨ xop = 1) ∨ ((xop = 0 ∨ xop = 1) ∧ prB xt xop = false) := by
          by_cases h : xop = 0 ∨ xop = 1
          · exact .inr ⟨h, by cases hq : prB xt xop with | false => rfl | true => exact absurd ⟨h, hq⟩ hx⟩
          · exact .inl h
        exact link_fin hf ha h19 hS fine0 (do_range_p (by omega) hv hx') (do_range_r (by omega) (by omega) (by omega) hv hx') (fun h => absurd h (by decide))
theorem law9 (a0_Pattern : List Int) (a0_Now : Int) (a0_Sent : Int) (a0_First : Int) (a0_Flying : List Flight12) (a0_Waiting : List (List Int)) (a0_Out_Open : Bool) (a0_Out_Cmd_Tag : Int) (a0_Out_Cmd_Op : Int) (a0_Out_Cmd_Place : Int) (a0_Out_Cmd_Data : List Int) (a0_Out_Left : Int) (a0_Out_Last_Tag : Int) (a0_Out_Last_Answer : Int) (a0_Out_Last_Data : List Int) (a0_In_Open : Bool) (a0_In_Cmd_Tag : Int) (a0_In_Cmd_Op : Int) (a0_In_Cmd_Place : Int) (a0_In_Cmd_Data : List Int) (a0_In_Left : Int) (a0_In_Last_Tag : Int) (a0_In_Last_Answer : Int) (a0_In_Last_Data : List Int) (a1_Tag : Int) (a1_Op : Int) (a1_Place : Int) (a1_Data : List Int) (h : WfA A9 ((a0_Pattern, a0_Now, a0_Sent, a0_First, a0_Flying, a0_Waiting, a0_Out_Open, a0_Out_Cmd_Tag, a0_Out_Cmd_Op, a0_Out_Cmd_Place, a0_Out_Cmd_Data, a0_Out_Left, a0_Out_Last_Tag, a0_Out_Last_Answer, a0_Out_Last_Data, a0_In_Open, a0_In_Cmd_Tag, a0_In_Cmd_Op, a0_In_Cmd_Place, a0_In_Cmd_Data, a0_In_Left, a0_In_Last_Tag, a0_In_Last_Answer, a0_In_Last_Data, ()), (a1_Tag, a1_Op, a1_Place, a1_Data, ()), ())) : s9 FU a0_Pattern a0_Now a0_Sent a0_First a0_Flying a0_Waiting a0_Out_Open a0_Out_Cmd_Tag a0_Out_Cmd_Op a0_Out_Cmd_Place a0_Out_Cmd_Data a0_Out_Left a0_Out_Last_Tag a0_Out_Last_Answer a0_Out_Last_Data a0_In_Open a0_In_Cmd_Tag a0_In_Cmd_Op a0_In_Cmd_Place a0_In_Cmd_Data a0_In_Left a0_In_Last_Tag a0_In_Last_Answer a0_In_Last_Data a1_Tag a1_Op a1_Place a1_Data = some (true, ()) := by
  exact law9_at FU (by decide) aw12 a0_Pattern a0_Now a0_Sent a0_First a0_Flying a0_Waiting a0_Out_Open a0_Out_Cmd_Tag a0_Out_Cmd_Op a0_Out_Cmd_Place a0_Out_Cmd_Data a0_Out_Left a0_Out_Last_Tag a0_Out_Last_Answer a0_Out_Last_Data a0_In_Open a0_In_Cmd_Tag a0_In_Cmd_Op a0_In_Cmd_Place a0_In_Cmd_Data a0_In_Left a0_In_Last_Tag a0_In_Last_Answer a0_In_Last_Data a1_Tag a1_Op a1_Place a1_Data (wf_by (show WfD C12 (.sl U12.u8 a0_Pattern) from (h _ (.head _)) (.d (.sl U12.u8 a0_Pattern)) (.head _))) (wf_fl (show WfD C12 (.sl U12.flight a0_Flying) from (h _ (.head _)) (.d (.sl U12.flight a0_Flying)) (.tail _ (.tail _ (.tail _ (.tail _ (.head _))))))) (wf_wt (show WfD C12 (.sl U12.sl_u8 a0_Waiting) from (h _ (.head _)) (.d (.sl U12.sl_u8 a0_Waiting)) (.tail _ (.tail _ (.tail _ (.tail _ (.tail _ (.head _)))))))) (wf_by (show WfD C12 (.sl U12.u8 a0_Out_Cmd_Data) from (h _ (.head _)) (.d (.sl U12.u8 a0_Out_Cmd_Data)) (.tail _ (.tail _ (.tail _ (.tail _ (.tail _ (.tail _ (.tail _ (.tail _ (.tail _ (.tail _ (.head _))))))))))))) (wf_by (show WfD C12 (.sl U12.u8 a0_Out_Last_Data) from (h _ (.head _)) (.d (.sl U12.u8 a0_Out_Last_Data)) (.tail _ (.tail _ (.tail _ (.tail _ (.tail _ (.tail _ (.tail _ (.tail _ (.tail _ (.tail _ (.tail _ (.tail _ (.tail _ (.tail _ (.head _))))))))))))))))) (wf_by (show WfD C12 (.sl U12.u8 a0_In_Cmd_Data) from (h _ (.head _)) (.d (.sl U12.u8 a0_In_Cmd_Data)) (.tail _ (.tail _ (.tail _ (.tail _ (.tail _ (.tail _ (.tail _ (.tail _ (.tail _ (.tail _ (.tail _ (.tail _ (.tail _ (.tail _ (.tail _ (.tail _ (.tail _ (.tail _ (.tail _ (.head _)))))))))))))))))))))) (wf_by (show WfD C12 (.sl U12.u8 a0_In_Last_Data) from (h _ (.head _)) (.d (.sl U12.u8 a0_In_Last_Data)) (.tail _ (.tail _ (.tail _ (.tail _ (.tail _ (.tail _ (.tail _ (.tail _ (.tail _ (.tail _ (.tail _ (.tail _ (.tail _ (.tail _ (.tail _ (.tail _ (.tail _ (.tail _ (.tail _ (.tail _ (.tail _ (.tail _ (.tail _ (.head _)))))))))))))))))))))))))) (wf_by (show WfD C12 (.sl U12.u8 a1_Data) from (h _ (.tail _ (.head _))) (.d (.sl U12.u8 a1_Data)) (.tail _ (.tail _ (.tail _ (.head _))))))
end Go.G
