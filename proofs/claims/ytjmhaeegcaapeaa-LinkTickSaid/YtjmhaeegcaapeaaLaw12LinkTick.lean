import Derived.Test.YtjmhaeegcaapeaaP12x
import Derived.Test.YtjmhaeegcaapeaaOn12L4
set_option linter.unusedVariables false
set_option linter.unusedSimpArgs false
namespace Go.G
set_option maxRecDepth 100000
set_option maxHeartbeats 4000000
section
variable {fu : Nat} {P P' : List Int} {now sent first now' sent' first' : Int} {fl fl' : List Flight12} {wt wt' : List (List Int)} {oo oo' : Bool} {ot oop opl ot' oop' opl' : Int} {od od' : List Int} {olt ola olt' ola' : Int} {old old' : List Int} {io io' : Bool} {it iop ipl it' iop' ipl' : Int} {id id' : List Int} {jlt jla jlt' jla' : Int} {jld jld' : List Int} {L : List Answer12}
theorem tick_fin (hf : 9223372036854775807 < fu) (ha : s11 fu = some (true, ())) (h19 : s19 fu P now sent first fl wt oo ot oop opl od 0 olt ola old io it iop ipl id 0 jlt jla jld 0 0 0 [] = some (true, ())) (h1 : fl.length * 32 ≤ 140737488351232) (hA : Fine P' fl' wt' od' old' id' jld')
    (h20 : s20 fu P now sent first fl wt oo ot oop opl od olt ola old io it iop ipl id jlt jla jld = some (tu P' now' sent' first' fl' wt' oo' ot' oop' opl' od' olt' ola' old' io' it' iop' ipl' id' jlt' jla' jld', (L, ()))) (h22 : s22 fu P now sent first fl wt oo ot oop opl od 0 olt ola old io it iop ipl id 0 jlt jla jld = some (tv P' now' sent' first' fl' wt' oo' ot' oop' opl' od' 0 olt' ola' old' io' it' iop' ipl' id' 0 jlt' jla' jld', (L, ()))) (hL : L.length ≤ 10) (hLd : ∀ a ∈ L, a.Data.length ≤ 1000)
    (hv : validB P' now' sent' first' fl' wt' oo' ot' oop' opl' od' olt' io' it' iop' ipl' id' jlt' = true) : s4 fu P now sent first fl wt oo ot oop opl od 0 olt ola old io it iop ipl id 0 jlt jla jld = some (true, ()) := by
  have b3 := hA.fln
  have b4 := hA.wtn
  have d1 := hA.odn
  have d2 := hA.oldn
  have d3 := hA.idn
  have d4 := hA.jldn
  have d5 := hA.pn
  have e1 := to_eq (fu := fu) (P := P) (now := now) (sent := sent) (first := first) (fl := fl) (wt := wt) (oo := oo) (ot := ot) (oop := oop) (opl := opl) (od := od) (ol := 0) (olt := olt) (ola := ola) (old := old) (io := io) (it := it) (iop := iop) (ipl := ipl) (id := id) (il := 0) (jlt := jlt) (jla := jla) (jld := jld) (by omega) h1
  have e2 := from_eq (fu := fu) (P := P') (now := now') (sent := sent') (first := first') (fl := fl') (wt := wt') (oo := oo') (ot := ot') (oop := oop') (opl := opl') (od := od') (olt := olt') (ola := ola') (old := old') (io := io') (it := it') (iop := iop') (ipl := ipl') (id := id') (jlt := jlt') (jla := jla') (jld := jld') (by omega) b3
  have e3 := equal_r (fu := fu) (P := P') (now := now') (sent := sent') (first := first') (fl := fl') (wt := wt') (oo := oo') (ot := ot') (oop := oop') (opl := opl') (od := od') (olt := olt') (ola := ola') (old := old') (io := io') (it := it') (iop := iop') (ipl := ipl') (id := id') (jlt := jlt') (jla := jla') (jld := jld') (P' := P') (now' := now') (sent' := sent') (first' := first') (fl' := fl') (wt' := wt') (oo' := oo') (ot' := ot') (oop' := oop') (opl' := opl') (od' := od') (olt' := olt') (ola' := ola') (old' := old') (io' := io') (it' := it') (iop' := iop') (ipl' := ipl') (id' := id') (jlt' := jlt') (jla' := jla') (jld' := jld') hf (by omega) (by omega) (by omega) hA.fd hA.wd (by omega) (by omega) (by omega) (by omega)
  have e6 := valid_p (fu := fu) (P := P') (now := now') (sent := sent') (first := first') (fl := fl') (wt := wt') (oo := oo') (ot := ot') (oop := oop') (opl := opl') (od := od') (olt := olt') (ola := ola') (old := old') (io := io') (it := it') (iop := iop') (ipl := ipl') (id := id') (jlt := jlt') (jla := jla') (jld := jld') (by omega)
  have e7 := own_eq (fu := fu) (by omega) L hL
  have e8 := same_ans (fu := fu) (by omega) L hL hLd
  rw [eqS_iff.2 rfl] at e3
  rw [hv] at e6
  unfold s4
  simp only [ha, h19, e1, h20, h22, e2, e3, e6, e7, e8]
end
theorem law4_at (k : Nat) (hf : 9223372036854775807 < k) (ha : s11 k = some (true, ())) (P : List Int) (now : Int) (sent : Int) (first : Int) (fl : List Flight12) (wt : List (List Int)) (oo : Bool) (ot : Int) (oop : Int) (opl : Int) (od : List Int) (ol : Int) (olt : Int) (ola : Int) (old : List Int) (io : Bool) (it : Int) (iop : Int) (ipl : Int) (id : List Int) (il : Int) (jlt : Int) (jla : Int) (jld : List Int)
    (wP : By P ∧ P.length ≤ 9223372036854775807) (wfl : fl.length * 32 ≤ 140737488351232 ∧ ∀ f ∈ fl, By f.Data ∧ f.Data.length ≤ 9223372036854775807) (wwt : wt.length * 24 ≤ 140737488351232 ∧ ∀ b ∈ wt, By b ∧ b.length ≤ 9223372036854775807) (wod : By od ∧ od.length ≤ 9223372036854775807) (wold : By old ∧ old.length ≤ 9223372036854775807) (wid : By id ∧ id.length ≤ 9223372036854775807) (wjld : By jld ∧ jld.length ≤ 9223372036854775807) (wipl : ipl ≤ 9223372036854775807) :
    s4 k P now sent first fl wt oo ot oop opl od ol olt ola old io it iop ipl id il jlt jla jld = some (true, ()) := by
  have l1 := wfl.1
  have l2 := wwt.1
  obtain ⟨b, h19, hb⟩ := few12 (fu := k) (P := P) (now := now) (sent := sent) (first := first) (fl := fl) (wt := wt) (oo := oo) (ot := ot) (oop := oop) (opl := opl) (od := od) (ol := ol) (olt := olt) (ola := ola) (old := old) (io := io) (it := it) (iop := iop) (ipl := ipl) (id := id) (il := il) (jlt := jlt) (jla := jla) (jld := jld) (by omega) (by omega) (by omega) (by omega) 0 0 0 []
  cases b with
  | false =>
    unfold s4
    simp only [ha, h19]
  | true =>
    obtain ⟨p1, p2, p3, p4, p5, p6, rfl, rfl⟩ := hb rfl
    have hby : BySt P fl wt od old id jld := ⟨wP.1, fun f h => (wfl.2 f h).1, fun f h => (wwt.2 f h).1, wod.1, wold.1, wid.1, wjld.1⟩
    by_cases hg : validB P now sent first fl wt oo ot oop opl od olt io it iop ipl id jlt = true ∧ now ≤ 1099511627712 ∧ sent ≤ 1099511627712 ∧ first ≤ 1099511627712
    · have H : Tk k P now sent first fl wt oo ot oop opl od olt ola old io it iop ipl id jlt jla jld := ⟨by omega, hg.1, hg.2.1, hg.2.2.1, hg.2.2.2, wP.1, ⟨by omega, by omega, by omega, by omega, Nat.zero_le _⟩, wipl⟩
      obtain ⟨gs, gr⟩ := tick_good H hby
      have t1 := tick_p H
      have t2 := tick_r H hby
      have t3 := tick_valid H hby
      have s4' := gs.a4
      have r4 := gr.a4
      refine tick_fin hf ha h19 l1 ⟨⟨wP.1, gs.a10, gr.a10, gs.a8.1, gs.a9.1, gr.a8.1, gr.a9.1⟩, by omega, by omega, by omega, fun f h => ?_, fun b h => ?_, gs.a8.2, gs.a9.2, gr.a8.2, gr.a9.2⟩ t1 t2 ?_ ?_ t3
      · have := (frB_iff.1 (gs.a5 f h).1).2; omega
      · have := (frB_iff.1 (gr.a5 b h)).2; omega
      · rw [List.length_append]; have := gs.a1; have := gr.a1; omega
      · intro a h
        rcases List.mem_append.1 h with h | h
        · exact gs.a2 a h
        · exact gr.a2 a h
    · have hn : validB P now sent first fl wt oo ot oop opl od olt io it iop ipl id jlt = false ∨ 1099511627712 < now ∨ 1099511627712 < sent ∨ 1099511627712 < first := by
        cases hv : validB P now sent first fl wt oo ot oop opl od olt io it iop ipl id jlt with
        | false => exact .inl rfl
        | true => rw [hv] at hg; simp only [true_and] at hg; omega
      exact tick_fin hf ha h19 l1 fine0 (tick_bad_p (by omega) hn) (tick_bad_r (by omega) (by omega) (by omega) hn) (Nat.zero_le _) (fun _ h => absurd h List.not_mem_nil) (by decide)
theorem law4 (a0_Pattern : List Int) (a0_Now : Int) (a0_Sent : Int) (a0_First : Int) (a0_Flying : List Flight12) (a0_Waiting : List (List Int)) (a0_Out_Open : Bool) (a0_Out_Cmd_Tag : Int) (a0_Out_Cmd_Op : Int) (a0_Out_Cmd_Place : Int) (a0_Out_Cmd_Data : List Int) (a0_Out_Left : Int) (a0_Out_Last_Tag : Int) (a0_Out_Last_Answer : Int) (a0_Out_Last_Data : List Int) (a0_In_Open : Bool) (a0_In_Cmd_Tag : Int) (a0_In_Cmd_Op : Int) (a0_In_Cmd_Place : Int) (a0_In_Cmd_Data : List Int) (a0_In_Left : Int) (a0_In_Last_Tag : Int) (a0_In_Last_Answer : Int) (a0_In_Last_Data : List Int) (h : WfA A4 ((a0_Pattern, a0_Now, a0_Sent, a0_First, a0_Flying, a0_Waiting, a0_Out_Open, a0_Out_Cmd_Tag, a0_Out_Cmd_Op, a0_Out_Cmd_Place, a0_Out_Cmd_Data, a0_Out_Left, a0_Out_Last_Tag, a0_Out_Last_Answer, a0_Out_Last_Data, a0_In_Open, a0_In_Cmd_Tag, a0_In_Cmd_Op, a0_In_Cmd_Place, a0_In_Cmd_Data, a0_In_Left, a0_In_Last_Tag, a0_In_Last_Answer, a0_In_Last_Data, ()), ())) : s4 FU a0_Pattern a0_Now a0_Sent a0_First a0_Flying a0_Waiting a0_Out_Open a0_Out_Cmd_Tag a0_Out_Cmd_Op a0_Out_Cmd_Place a0_Out_Cmd_Data a0_Out_Left a0_Out_Last_Tag a0_Out_Last_Answer a0_Out_Last_Data a0_In_Open a0_In_Cmd_Tag a0_In_Cmd_Op a0_In_Cmd_Place a0_In_Cmd_Data a0_In_Left a0_In_Last_Tag a0_In_Last_Answer a0_In_Last_Data = some (true, ()) := by
  exact law4_at FU (by decide) aw12 a0_Pattern a0_Now a0_Sent a0_First a0_Flying a0_Waiting a0_Out_Open a0_Out_Cmd_Tag a0_Out_Cmd_Op a0_Out_Cmd_Place a0_Out_Cmd_Data a0_Out_Left a0_Out_Last_Tag a0_Out_Last_Answer a0_Out_Last_Data a0_In_Open a0_In_Cmd_Tag a0_In_Cmd_Op a0_In_Cmd_Place a0_In_Cmd_Data a0_In_Left a0_In_Last_Tag a0_In_Last_Answer a0_In_Last_Data (wf_by (show WfD C12 (.sl U12.u8 a0_Pattern) from (h _ (.head _)) (.d (.sl U12.u8 a0_Pattern)) (.head _))) (wf_fl (show WfD C12 (.sl U12.flight a0_Flying) from (h _ (.head _)) (.d (.sl U12.flight a0_Flying)) (.tail _ (.tail _ (.tail _ (.tail _ (.head _))))))) (wf_wt (show WfD C12 (.sl U12.sl_u8 a0_Waiting) from (h _ (.head _)) (.d (.sl U12.sl_u8 a0_Waiting)) (.tail _ (.tail _ (.tail _ (.tail _ (.tail _ (.head _)))))))) (wf_by (show WfD C12 (.sl U12.u8 a0_Out_Cmd_Data) from (h _ (.head _)) (.d (.sl U12.u8 a0_Out_Cmd_Data)) (.tail _ (.tail _ (.tail _ (.tail _ (.tail _ (.tail _ (.tail _ (.tail _ (.tail _ (.tail _ (.head _))))))))))))) (wf_by (show WfD C12 (.sl U12.u8 a0_Out_Last_Data) from (h _ (.head _)) (.d (.sl U12.u8 a0_Out_Last_Data)) (.tail _ (.tail _ (.tail _ (.tail _ (.tail _ (.tail _ (.tail _ (.tail _ (.tail _ (.tail _ (.tail _ (.tail _ (.tail _ (.tail _ (.head _))))))))))))))))) (wf_by (show WfD C12 (.sl U12.u8 a0_In_Cmd_Data) from (h _ (.head _)) (.d (.sl U12.u8 a0_In_Cmd_Data)) (.tail _ (.tail _ (.tail _ (.tail _ (.tail _ (.tail _ (.tail _ (.tail _ (.tail _ (.tail _ (.tail _ (.tail _ (.tail _ (.tail _ (.tail _ (.tail _ (.tail _ (.tail _ (.tail _ (.head _)))))))))))))))))))))) (wf_by (show WfD C12 (.sl U12.u8 a0_In_Last_Data) from (h _ (.head _)) (.d (.sl U12.u8 a0_In_Last_Data)) (.tail _ (.tail _ (.tail _ (.tail _ (.tail _ (.tail _ (.tail _ (.tail _ (.tail _ (.tail _ (.tail _ (.tail _ (.tail _ (.tail _ (.tail _ (.tail _ (.tail _ (.tail _ (.tail _ (.tail _ (.tail _ (.tail _ (.tail _ (.head _)))))))))))))))))))))))))) (wfd_i64 (show WfD C12 (.int .i64 a0_In_Cmd_Place) from (h _ (.head _)) (.d (.int .i64 a0_In_Cmd_Place)) (.tail _ (.tail _ (.tail _ (.tail _ (.tail _ (.tail _ (.tail _ (.tail _ (.tail _ (.tail _ (.tail _ (.tail _ (.tail _ (.tail _ (.tail _ (.tail _ (.tail _ (.tail _ (.head _))))))))))))))))))))).2
end Go.G
