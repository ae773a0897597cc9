import Derived.Test.YtjmhaeegcaapeaaP12z
set_option linter.unusedVariables false
set_option linter.unusedSimpArgs false
namespace Go.G
set_option maxRecDepth 100000
set_option maxHeartbeats 4000000
theorem send_shape {P : List Int} {now sent : Int} {FL : List Flight12} {ot oop opl : Int} {od : List Int} {olt ola : Int} {old : List Int} : ∃ se f la ld, sendS P now sent FL true ot oop opl od olt ola old = ⟨se, f, false, 0, 0, 0, [], ot, la, ld, [⟨ot, la, ld⟩]⟩ := by
  unfold sendS
  rw [if_neg (by decide)]
  by_cases p1 : ot = olt
  · rw [if_pos p1, ← p1]; exact ⟨_, _, _, _, rfl⟩
  rw [if_neg p1]
  cases frB od with
  | false => rw [if_pos rfl]; exact ⟨_, _, _, _, rfl⟩
  | true => rw [if_neg (by decide)]; exact ⟨_, _, _, _, rfl⟩
theorem send_o {P : List Int} {now sent : Int} {FL : List Flight12} {oo : Bool} {ot oop opl : Int} {od : List Int} {olt ola : Int} {old : List Int} : (sendS P now sent FL oo ot oop opl od olt ola old).o = false := by
  cases oo with
  | false => rfl
  | true => obtain ⟨_, _, _, _, h⟩ := send_shape (P := P) (now := now) (sent := sent) (FL := FL) (ot := ot) (oop := oop) (opl := opl) (od := od) (olt := olt) (ola := ola) (old := old); rw [h]
theorem recv_shape {first : Int} {W : List (List Int)} {it iop ipl : Int} {id : List Int} {jlt jla : Int} {jld : List Int} : recvS first W true it iop ipl id jlt jla jld = ⟨first, W, true, it, iop, ipl, id, jlt, jla, jld, []⟩ ∨ ∃ fi w la ld, recvS first W true it iop ipl id jlt jla jld = ⟨fi, w, false, 0, 0, 0, [], it, la, ld, [⟨it, la, ld⟩]⟩ := by
  unfold recvS
  rw [if_neg (by decide)]
  by_cases q1 : it = jlt
  · rw [if_pos q1, ← q1]; exact .inr ⟨_, _, _, _, rfl⟩
  rw [if_neg q1]
  by_cases q2 : id ≠ []
  · rw [if_pos q2]; exact .inr ⟨_, _, _, _, rfl⟩
  rw [if_neg q2]
  by_cases q3 : ipl < first ∨ (W.length : Int) < ipl - first
  · rw [if_pos q3]; exact .inr ⟨_, _, _, _, rfl⟩
  rw [if_neg q3]
  cases W[(ipl - first).toNat]? with
  | none => exact .inl rfl
  | some b => exact .inr ⟨_, _, _, _, rfl⟩
theorem recv_tags {first : Int} {W : List (List Int)} {io : Bool} {it iop ipl : Int} {id : List Int} {jlt jla : Int} {jld : List Int} (hc : chB io it iop ipl id jlt 1 = true) : ∀ a ∈ (recvS first W io it iop ipl id jlt jla jld).ans, prB a.Tag 1 = true := by
  cases io with
  | false => exact fun a h => absurd h List.not_mem_nil
  | true =>
    unfold chB at hc
    rw [Bool.and_eq_true, if_pos rfl, Bool.and_eq_true] at hc
    rcases recv_shape (first := first) (W := W) (it := it) (iop := iop) (ipl := ipl) (id := id) (jlt := jlt) (jla := jla) (jld := jld) with h | ⟨_, _, _, _, h⟩
    · rw [h]; exact fun a h => absurd h List.not_mem_nil
    · rw [h]; intro a ha; rw [List.mem_singleton] at ha; subst ha; exact hc.2.1
theorem chv {lt xt ch : Int} (h : chB false 0 0 0 [] lt ch = true) (hp : prB xt ch = true) (hl : lt ≤ xt) (op pl : Int) (d : List Int) : chB true xt op pl d lt ch = true := by
  unfold chB at h ⊢
  rw [Bool.and_eq_true] at h ⊢
  exact ⟨h.1, by rw [if_pos rfl, hp, Bool.true_and, decide_eq_true_eq]; exact hl⟩
theorem vset {P : List Int} {now sent first : Int} {fl : List Flight12} {wt : List (List Int)} {oo oo' : Bool} {ot oop opl ot' oop' opl' : Int} {od od' : List Int} {olt olt' : Int} {io io' : Bool} {it iop ipl it' iop' ipl' : Int} {id id' : List Int} {jlt jlt' : Int} (h : validB P now sent first fl wt oo ot oop opl od olt io it iop ipl id jlt = true) (ho : chB oo' ot' oop' opl' od' olt' 0 = true) (hi : chB io' it' iop' ipl' id' jlt' 1 = true) : validB P now sent first fl wt oo' ot' oop' opl' od' olt' io' it' iop' ipl' id' jlt' = true := by
  unfold validB at h ⊢
  simp only [Bool.and_eq_true] at h ⊢
  obtain ⟨v1, v2, v3, v4, v5, v6, v7, v8, v9, v10⟩ := h
  exact ⟨v1, v2, v3, v4, v5, v6, v7, v8, ho, hi⟩
theorem vchs {P : List Int} {now sent first : Int} {fl : List Flight12} {wt : List (List Int)} {oo : Bool} {ot oop opl : Int} {od : List Int} {olt : Int} {io : Bool} {it iop ipl : Int} {id : List Int} {jlt : Int} (h : validB P now sent first fl wt oo ot oop opl od olt io it iop ipl id jlt = true) : chB oo ot oop opl od olt 0 = true ∧ chB io it iop ipl id jlt 1 = true := by
  unfold validB at h
  simp only [Bool.and_eq_true] at h
  obtain ⟨v1, v2, v3, v4, v5, v6, v7, v8, v9, v10⟩ := h
  exact ⟨v9, v10⟩
/-- An open out channel of tag xt: its tick, the same tag again, and the tick behind it. -/
theorem once_out {fu : Nat} {P : List Int} {now sent first : Int} {fl : List Flight12} {wt : List (List Int)} {oo : Bool} {ot oop opl : Int} {od : List Int} {olt ola : Int} {old : List Int} {io : Bool} {it iop ipl : Int} {id : List Int} {jlt jla : Int} {jld : List Int} {xpl : Int} {xd : List Int} (H : Tk fu P now sent first fl wt true ot oop opl od olt ola old io it iop ipl id jlt jla jld) (hn : now ≤ 1073741900) (hs : sent ≤ 1073741900) (h1 : first ≤ 1073741900) (hb : BySt P fl wt od old id jld) (hx : xd.length ≤ 1000) :
    ∃ P' now' sent' first' fl' wt' ot' oop' opl' od' olt' ola' old' io' it' iop' ipl' id' jlt' jla' jld' la ld L L' P'' now'' sent'' first'' fl'' wt'' oo'' ot'' oop'' opl'' od'' olt'' ola'' old'' io'' it'' iop'' ipl'' id'' jlt'' jla'' jld'', s20 fu P now sent first fl wt true ot oop opl od olt ola old io it iop ipl id jlt jla jld = some (tu P' now' sent' first' fl' wt' false ot' oop' opl' od' olt' ola' old' io' it' iop' ipl' id' jlt' jla' jld', (L, ())) ∧ L.length ≤ 10 ∧ L.find? (fun a => decide (a.Tag = ot)) = some ⟨ot, la, ld⟩ ∧
      s26 fu P' now' sent' first' fl' wt' false ot' oop' opl' od' olt' ola' old' io' it' iop' ipl' id' jlt' jla' jld' ot 0 xpl xd = some (tu P' now' sent' first' fl' wt' true ot 0 0 [] olt' ola' old' io' it' iop' ipl' id' jlt' jla' jld', (0, ())) ∧
      s20 fu P' now' sent' first' fl' wt' true ot 0 0 [] olt' ola' old' io' it' iop' ipl' id' jlt' jla' jld' = some (tu P'' now'' sent'' first'' fl'' wt'' oo'' ot'' oop'' opl'' od'' olt'' ola'' old'' io'' it'' iop'' ipl'' id'' jlt'' jla'' jld'', (L', ())) ∧ L'.length ≤ 10 ∧ L'.find? (fun a => decide (a.Tag = ot)) = some ⟨ot, la, ld⟩ ∧ sent'' = sent' ∧ ld.length ≤ 1000 := by
  have hv := H.v
  have hc := vchs hv
  have hfu := H.fu_
  have sh := H.sh
  obtain ⟨gs, gr⟩ := tick_good H hb
  have t1 := tick_p H
  have t3 := tick_valid H hb
  obtain ⟨se, f, la, ld, e1⟩ := send_shape (P := P) (now := now + 1) (sent := sent) (FL := (arrS (now + 1) fl wt).1) (ot := ot) (oop := oop) (opl := opl) (od := od) (olt := olt) (ola := ola) (old := old)
  rw [e1] at t1 t3 gs
  have hp : prB ot 0 = true := by
    have := hc.1
    unfold chB at this
    rw [Bool.and_eq_true, if_pos rfl, Bool.and_eq_true] at this
    exact this.2.1
  have hc3 := vchs t3
  have q1 := do_o_p (fu := fu) (ola := la) (old := ld) (jla := (recvS first (arrS (now + 1) fl wt).2 io it iop ipl id jlt jla jld).la) (jld := (recvS first (arrS (now + 1) fl wt).2 io it iop ipl id jlt jla jld).ld) (xt := ot) (xpl := xpl) (xd := xd) hfu ⟨Nat.zero_le _, gs.a9.2, gr.a8.2, gr.a9.2, hx⟩ t3 hp
  have k1 : tkE false 0 ot ot = 0 := by unfold tkE; rw [if_neg (by decide), if_neg (by omega)]
  have k2 : tkC false 0 0 0 [] ot ot 0 xpl xd = (true, ot, 0, 0, []) := by unfold tkC; rw [if_neg (by decide), if_pos rfl]
  rw [if_pos k1, k2] at q1
  have v2 := vset t3 (chv hc3.1 hp (Int.le_refl _) 0 0 []) hc3.2
  have hpl : (recvS first (arrS (now + 1) fl wt).2 io it iop ipl id jlt jla jld).pl ≤ 9223372036854775807 := by
    have := H.ipl_
    cases io with
    | false => exact this
    | true =>
      rcases recv_shape (first := first) (W := (arrS (now + 1) fl wt).2) (it := it) (iop := iop) (ipl := ipl) (id := id) (jlt := jlt) (jla := jla) (jld := jld) with h | ⟨_, _, _, _, h⟩ <;> rw [h]
      · exact this
      · exact (by decide : (0 : Int) ≤ 9223372036854775807)
  have hse : se = sent ∨ se = sent + 1 := gs.a3
  have hfi := gr.a3
  have H2 : Tk fu P (now + 1) se (recvS first (arrS (now + 1) fl wt).2 io it iop ipl id jlt jla jld).first f (recvS first (arrS (now + 1) fl wt).2 io it iop ipl id jlt jla jld).wt true ot 0 0 [] ot la ld (recvS first (arrS (now + 1) fl wt).2 io it iop ipl id jlt jla jld).o (recvS first (arrS (now + 1) fl wt).2 io it iop ipl id jlt jla jld).t (recvS first (arrS (now + 1) fl wt).2 io it iop ipl id jlt jla jld).op (recvS first (arrS (now + 1) fl wt).2 io it iop ipl id jlt jla jld).pl (recvS first (arrS (now + 1) fl wt).2 io it iop ipl id jlt jla jld).d (recvS first (arrS (now + 1) fl wt).2 io it iop ipl id jlt jla jld).lt (recvS first (arrS (now + 1) fl wt).2 io it iop ipl id jlt jla jld).la (recvS first (arrS (now + 1) fl wt).2 io it iop ipl id jlt jla jld).ld := ⟨hfu, v2, by omega, by rcases hse with h | h <;> omega, by omega, H.p, ⟨Nat.zero_le _, gs.a9.2, gr.a8.2, gr.a9.2, Nat.zero_le _⟩, hpl⟩
  have hb2 : BySt P f (recvS first (arrS (now + 1) fl wt).2 io it iop ipl id jlt jla jld).wt [] ld (recvS first (arrS (now + 1) fl wt).2 io it iop ipl id jlt jla jld).d (recvS first (arrS (now + 1) fl wt).2 io it iop ipl id jlt jla jld).ld := ⟨H.p, gs.a10, gr.a10, by_nil, gs.a9.1, gr.a8.1, gr.a9.1⟩
  obtain ⟨gs2, gr2⟩ := tick_good H2 hb2
  have t2 := tick_p H2
  have e2 : ∀ FL, sendS P (now + 1 + 1) se FL true ot 0 0 [] ot la ld = ⟨se, FL, false, 0, 0, 0, [], ot, la, ld, [⟨ot, la, ld⟩]⟩ := fun FL => by unfold sendS; rw [if_neg (by decide), if_pos rfl]
  rw [e2] at t2 gs2
  refine ⟨_, _, _, _, _, _, _, _, _, _, _, _, _, _, _, _, _, _, _, _, _, la, ld, _, _, _, _, _, _, _, _, _, _, _, _, _, _, _, _, _, _, _, _, _, _, _, _, t1, ?_, ?_, q1, t2, ?_, ?_, rfl, gs.a9.2⟩
  · rw [List.length_append]; have := gs.a1; have := gr.a1; omega
  · simp
  · rw [List.length_append]; have := gs2.a1; have := gr2.a1; omega
  · simp
/-- An open in channel of tag it: either it waits, or its tick answers, and the same tag again answers the same. -/
theorem once_in {fu : Nat} {P : List Int} {now sent first : Int} {fl : List Flight12} {wt : List (List Int)} {oo : Bool} {ot oop opl : Int} {od : List Int} {olt ola : Int} {old : List Int} {io : Bool} {it iop ipl : Int} {id : List Int} {jlt jla : Int} {jld : List Int} {xpl : Int} {xd : List Int} (H : Tk fu P now sent first fl wt oo ot oop opl od olt ola old true it iop ipl id jlt jla jld) (hn : now ≤ 1073741900) (hs : sent ≤ 1073741900) (h1 : first ≤ 1073741900) (hb : BySt P fl wt od old id jld) (hx : xd.length ≤ 1000) :
    ∃ P' now' sent' first' fl' wt' oo' ot' oop' opl' od' olt' ola' old' io' it' iop' ipl' id' jlt' jla' jld' L, s20 fu P now sent first fl wt oo ot oop opl od olt ola old true it iop ipl id jlt jla jld = some (tu P' now' sent' first' fl' wt' oo' ot' oop' opl' od' olt' ola' old' io' it' iop' ipl' id' jlt' jla' jld', (L, ())) ∧ oo' = false ∧ L.length ≤ 10 ∧ (L.find? (fun a => decide (a.Tag = it)) = none ∨ ∃ la ld L' P'' now'' sent'' first'' fl'' wt'' oo'' ot'' oop'' opl'' od'' olt'' ola'' old'' io'' it'' iop'' ipl'' id'' jlt'' jla'' jld'', L.find? (fun a => decide (a.Tag = it)) = some ⟨it, la, ld⟩ ∧
      s26 fu P' now' sent' first' fl' wt' oo' ot' oop' opl' od' olt' ola' old' io' it' iop' ipl' id' jlt' jla' jld' it 1 xpl xd = some (tu P' now' sent' first' fl' wt' oo' ot' oop' opl' od' olt' ola' old' true it 0 0 [] jlt' jla' jld', (0, ())) ∧
      s20 fu P' now' sent' first' fl' wt' oo' ot' oop' opl' od' olt' ola' old' true it 0 0 [] jlt' jla' jld' = some (tu P'' now'' sent'' first'' fl'' wt'' oo'' ot'' oop'' opl'' od'' olt'' ola'' old'' io'' it'' iop'' ipl'' id'' jlt'' jla'' jld'', (L', ())) ∧ L'.length ≤ 10 ∧ L'.find? (fun a => decide (a.Tag = it)) = some ⟨it, la, ld⟩ ∧ sent'' = sent' ∧ ld.length ≤ 1000) := by
  have hv := H.v
  have hc := vchs hv
  have hfu := H.fu_
  have sh := H.sh
  obtain ⟨gs, gr⟩ := tick_good H hb
  have t1 := tick_p H
  have t3 := tick_valid H hb
  have hp : prB it 1 = true := by
    have := hc.2
    unfold chB at this
    rw [Bool.and_eq_true, if_pos rfl, Bool.and_eq_true] at this
    exact this.2.1
  have hso : (sendS P (now + 1) sent (arrS (now + 1) fl wt).1 oo ot oop opl od olt ola old).o = false := send_o
  have hlen : ((sendS P (now + 1) sent (arrS (now + 1) fl wt).1 oo ot oop opl od olt ola old).ans ++ (recvS first (arrS (now + 1) fl wt).2 true it iop ipl id jlt jla jld).ans).length ≤ 10 := by rw [List.length_append]; have := gs.a1; have := gr.a1; omega
  have hfd := find_app (M := (recvS first (arrS (now + 1) fl wt).2 true it iop ipl id jlt jla jld).ans) (fun a h => pr_ne (send_tags (P := P) (now := now + 1) (sent := sent) (FL := (arrS (now + 1) fl wt).1) (ola := ola) (old := old) hc.1 a h) hp)
  rcases recv_shape (first := first) (W := (arrS (now + 1) fl wt).2) (it := it) (iop := iop) (ipl := ipl) (id := id) (jlt := jlt) (jla := jla) (jld := jld) with hr | ⟨fi, w, la, ld, hr⟩
  · refine ⟨_, _, _, _, _, _, _, _, _, _, _, _, _, _, _, _, _, _, _, _, _, _, _, t1, hso, hlen, .inl ?_⟩
    rw [hfd, hr]
    rfl
  rw [hr] at t1 t3 gr hlen hfd
  have hc3 := vchs t3
  have q1 := do_i_p (fu := fu) (ola := (sendS P (now + 1) sent (arrS (now + 1) fl wt).1 oo ot oop opl od olt ola old).la) (old := (sendS P (now + 1) sent (arrS (now + 1) fl wt).1 oo ot oop opl od olt ola old).ld) (jla := la) (jld := ld) (xt := it) (xpl := xpl) (xd := xd) hfu ⟨gs.a8.2, gs.a9.2, Nat.zero_le _, gr.a9.2, hx⟩ t3 hp
  have k1 : tkE false 0 it it = 0 := by unfold tkE; rw [if_neg (by decide), if_neg (by omega)]
  have k2 : tkC false 0 0 0 [] it it 1 xpl xd = (true, it, 0, 0, []) := by unfold tkC; rw [if_neg (by decide), if_pos rfl]
  rw [if_pos k1, k2] at q1
  have v2 := vset t3 hc3.1 (chv hc3.2 hp (Int.le_refl _) 0 0 [])
  have hse := gs.a3
  have hfi : first ≤ fi ∧ fi ≤ first + 64 := gr.a3
  have H2 : Tk fu P (now + 1) (sendS P (now + 1) sent (arrS (now + 1) fl wt).1 oo ot oop opl od olt ola old).sent fi (sendS P (now + 1) sent (arrS (now + 1) fl wt).1 oo ot oop opl od olt ola old).fl w (sendS P (now + 1) sent (arrS (now + 1) fl wt).1 oo ot oop opl od olt ola old).o (sendS P (now + 1) sent (arrS (now + 1) fl wt).1 oo ot oop opl od olt ola old).t (sendS P (now + 1) sent (arrS (now + 1) fl wt).1 oo ot oop opl od olt ola old).op (sendS P (now + 1) sent (arrS (now + 1) fl wt).1 oo ot oop opl od olt ola old).pl (sendS P (now + 1) sent (arrS (now + 1) fl wt).1 oo ot oop opl od olt ola old).d (sendS P (now + 1) sent (arrS (now + 1) fl wt).1 oo ot oop opl od olt ola old).lt (sendS P (now + 1) sent (arrS (now + 1) fl wt).1 oo ot oop opl od olt ola old).la (sendS P (now + 1) sent (arrS (now + 1) fl wt).1 oo ot oop opl od olt ola old).ld true it 0 0 [] it la ld := ⟨hfu, v2, by omega, by rcases hse with h | h <;> omega, by omega, H.p, ⟨gs.a8.2, gs.a9.2, Nat.zero_le _, gr.a9.2, Nat.zero_le _⟩, by decide⟩
  have hb2 : BySt P (sendS P (now + 1) sent (arrS (now + 1) fl wt).1 oo ot oop opl od olt ola old).fl w (sendS P (now + 1) sent (arrS (now + 1) fl wt).1 oo ot oop opl od olt ola old).d (sendS P (now + 1) sent (arrS (now + 1) fl wt).1 oo ot oop opl od olt ola old).ld [] ld := ⟨H.p, gs.a10, gr.a10, gs.a8.1, gs.a9.1, by_nil, gr.a9.1⟩
  obtain ⟨gs2, gr2⟩ := tick_good H2 hb2
  have t2 := tick_p H2
  have e2 : ∀ W, recvS fi W true it 0 0 [] it la ld = ⟨fi, W, false, 0, 0, 0, [], it, la, ld, [⟨it, la, ld⟩]⟩ := fun W => by unfold recvS; rw [if_neg (by decide), if_pos rfl]
  have e3 : ∀ FL, sendS P (now + 1 + 1) (sendS P (now + 1) sent (arrS (now + 1) fl wt).1 oo ot oop opl od olt ola old).sent FL (sendS P (now + 1) sent (arrS (now + 1) fl wt).1 oo ot oop opl od olt ola old).o (sendS P (now + 1) sent (arrS (now + 1) fl wt).1 oo ot oop opl od olt ola old).t (sendS P (now + 1) sent (arrS (now + 1) fl wt).1 oo ot oop opl od olt ola old).op (sendS P (now + 1) sent (arrS (now + 1) fl wt).1 oo ot oop opl od olt ola old).pl (sendS P (now + 1) sent (arrS (now + 1) fl wt).1 oo ot oop opl od olt ola old).d (sendS P (now + 1) sent (arrS (now + 1) fl wt).1 oo ot oop opl od olt ola old).lt (sendS P (now + 1) sent (arrS (now + 1) fl wt).1 oo ot oop opl od olt ola old).la (sendS P (now + 1) sent (arrS (now + 1) fl wt).1 oo ot oop opl od olt ola old).ld = ⟨(sendS P (now + 1) sent (arrS (now + 1) fl wt).1 oo ot oop opl od olt ola old).sent, FL, false, (sendS P (now + 1) sent (arrS (now + 1) fl wt).1 oo ot oop opl od olt ola old).t, (sendS P (now + 1) sent (arrS (now + 1) fl wt).1 oo ot oop opl od olt ola old).op, (sendS P (now + 1) sent (arrS (now + 1) fl wt).1 oo ot oop opl od olt ola old).pl, (sendS P (now + 1) sent (arrS (now + 1) fl wt).1 oo ot oop opl od olt ola old).d, (sendS P (now + 1) sent (arrS (now + 1) fl wt).1 oo ot oop opl od olt ola old).lt, (sendS P (now + 1) sent (arrS (now + 1) fl wt).1 oo ot oop opl od olt ola old).la, (sendS P (now + 1) sent (arrS (now + 1) fl wt).1 oo ot oop opl od olt ola old).ld, []⟩ := fun FL => by rw [hso]; rfl
  rw [e2, e3] at t2
  refine ⟨_, _, _, _, _, _, _, _, _, _, _, _, _, _, _, _, _, _, _, _, _, _, _, t1, hso, hlen, .inr ⟨la, ld, _, _, _, _, _, _, _, _, _, _, _, _, _, _, _, _, _, _, _, _, _, _, _, ?_, q1, t2, ?_, ?_, rfl, gr.a9.2⟩⟩
  · rw [hfd]; simp
  · simp
  · simp
end Go.G
