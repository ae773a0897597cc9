import Derived.Test.YtjmhaeegcaapeaaP12u
set_option linter.unusedVariables false
set_option linter.unusedSimpArgs false
namespace Go.G
set_option maxRecDepth 100000
set_option maxHeartbeats 4000000
theorem insAll_ok {now : Int} {data : List Int} (Q : Flight12 → Prop) : ∀ (l : List Int) (fl : List Flight12), (∀ f ∈ fl, Q f) → (∀ d ∈ l, Q ⟨now + d, data⟩) → Sf fl → (∀ f ∈ insAll now data l fl, Q f) ∧ Sf (insAll now data l fl) ∧ (insAll now data l fl).length = fl.length + l.length
  | [], fl, h1, _, h3 => ⟨h1, h3, rfl⟩
  | d :: l, fl, h1, h2, h3 => by
    obtain ⟨a, b, c⟩ := insAll_ok Q l (insS fl ⟨now + d, data⟩) (fun f hf => by
      rcases insS_mem.1 hf with rfl | hf
      · exact h2 d (.head _)
      · exact h1 f hf) (fun e he => h2 e (.tail _ he)) (insS_sorted h3)
    refine ⟨a, b, ?_⟩
    rw [insS_len] at c
    show (insAll now data l (insS fl ⟨now + d, data⟩)).length = _
    rw [c, List.length_cons]
    omega
structure GS (so : SO) (now sent : Int) : Prop where
  a1 : so.ans.length ≤ 1
  a2 : ∀ a ∈ so.ans, a.Data.length ≤ 1000
  a3 : so.sent = sent ∨ so.sent = sent + 1
  a4 : so.fl.length ≤ 400
  a5 : ∀ f ∈ so.fl, frB f.Data = true ∧ now < f.Due ∧ f.Due ≤ now + 8
  a6 : Sf so.fl
  a7 : chB so.o so.t so.op so.pl so.d so.lt 0 = true
  a8 : By so.d ∧ so.d.length ≤ 1000
  a9 : By so.ld ∧ so.ld.length ≤ 1000
  a10 : ∀ f ∈ so.fl, By f.Data
theorem nil_ok : By [] ∧ ([] : List Int).length ≤ 1000 := ⟨by_nil, Nat.zero_le _⟩
theorem ch_shut {o : Bool} {t op pl : Int} {d : List Int} {lt ch : Int} (h : chB o t op pl d lt ch = true) : chB false 0 0 0 [] lt ch = true := by
  unfold chB at h ⊢
  rw [Bool.and_eq_true] at h ⊢
  exact ⟨h.1, rfl⟩
theorem ch_new {t op pl : Int} {d : List Int} {lt ch : Int} (h : chB true t op pl d lt ch = true) : chB false 0 0 0 [] t ch = true := by
  unfold chB at h ⊢
  rw [Bool.and_eq_true, if_pos rfl, Bool.and_eq_true] at h
  rw [Bool.and_eq_true]
  exact ⟨by rw [h.2.1, Bool.or_true], rfl⟩
theorem good_send {P : List Int} {now sent : Int} {FL : List Flight12} {oo : Bool} {ot oop opl : Int} {od : List Int} {olt ola : Int} {old : List Int} (hP : By P) (hc : chB oo ot oop opl od olt 0 = true) (h1 : By od ∧ od.length ≤ 1000) (h2 : By old ∧ old.length ≤ 1000)
    (f1 : FL.length ≤ 400) (f2 : ∀ f ∈ FL, frB f.Data = true ∧ now < f.Due ∧ f.Due ≤ now + 8) (f3 : Sf FL) (f4 : ∀ f ∈ FL, By f.Data) : GS (sendS P now sent FL oo ot oop opl od olt ola old) now sent := by
  unfold sendS
  cases oo with
  | false =>
    rw [if_pos rfl]
    exact ⟨Nat.zero_le _, fun _ h => absurd h List.not_mem_nil, .inl rfl, f1, f2, f3, hc, h1, h2, f4⟩
  | true =>
    rw [if_neg (by decide)]
    by_cases p1 : ot = olt
    · rw [if_pos p1]
      refine ⟨Nat.le_refl _, fun a h => ?_, .inl rfl, f1, f2, f3, ch_shut hc, nil_ok, h2, f4⟩
      rw [List.mem_singleton] at h
      subst h
      exact h2.2
    rw [if_neg p1]
    cases p2 : frB od with
    | false =>
      rw [if_pos rfl]
      refine ⟨Nat.le_refl _, fun a h => ?_, .inl rfl, f1, f2, f3, ch_new hc, nil_ok, nil_ok, f4⟩
      rw [List.mem_singleton] at h
      subst h
      exact Nat.zero_le _
    | true =>
      rw [if_neg (by decide)]
      have ans : ∀ a ∈ [(⟨ot, 0, []⟩ : Answer12)], a.Data.length ≤ 1000 := fun a h => by
        rw [List.mem_singleton] at h
        subst h
        exact Nat.zero_le _
      by_cases p4 : FL.length ≤ 398
      · rw [if_pos p4]
        have pa := patS_ok hP sent
        have al := arrL_ok pa.1 pa.2
        obtain ⟨q1, q2, q3⟩ := insAll_ok (now := now) (data := od) (fun f => (frB f.Data = true ∧ now < f.Due ∧ f.Due ≤ now + 8) ∧ By f.Data) (arrL (patS P sent)) FL (fun f h => ⟨f2 f h, f4 f h⟩) (fun d h => ⟨⟨p2, by have := al.2 d h; show now < now + d; omega, by have := al.2 d h; show now + d ≤ now + 8; omega⟩, h1.1⟩) f3
        exact ⟨Nat.le_refl _, ans, .inr rfl, by rw [q3]; have := al.1; omega, fun f h => (q1 f h).1, q2, ch_new hc, nil_ok, nil_ok, fun f h => (q1 f h).2⟩
      · rw [if_neg p4]
        exact ⟨Nat.le_refl _, ans, .inr rfl, f1, f2, f3, ch_new hc, nil_ok, nil_ok, f4⟩
structure GR (ro : RO) (first : Int) : Prop where
  a1 : ro.ans.length ≤ 1
  a2 : ∀ a ∈ ro.ans, a.Data.length ≤ 1000
  a3 : first ≤ ro.first ∧ ro.first ≤ first + 64
  a4 : ro.wt.length ≤ 64
  a5 : ∀ b ∈ ro.wt, frB b = true
  a7 : chB ro.o ro.t ro.op ro.pl ro.d ro.lt 1 = true
  a8 : By ro.d ∧ ro.d.length ≤ 1000
  a9 : By ro.ld ∧ ro.ld.length ≤ 1000
  a10 : ∀ b ∈ ro.wt, By b
theorem good_recv {first : Int} {W : List (List Int)} {io : Bool} {it iop ipl : Int} {id : List Int} {jlt jla : Int} {jld : List Int} (hc : chB io it iop ipl id jlt 1 = true) (h1 : By id ∧ id.length ≤ 1000) (h2 : By jld ∧ jld.length ≤ 1000)
    (w1 : W.length ≤ 64) (w2 : ∀ b ∈ W, frB b = true) (w3 : ∀ b ∈ W, By b) : GR (recvS first W io it iop ipl id jlt jla jld) first := by
  have f0 : first ≤ first ∧ first ≤ first + 64 := by omega
  have ans0 : ∀ (t n : Int), ∀ a ∈ [(⟨t, n, []⟩ : Answer12)], a.Data.length ≤ 1000 := fun t n a h => by
    rw [List.mem_singleton] at h
    subst h
    exact Nat.zero_le _
  unfold recvS
  cases io with
  | false =>
    rw [if_pos rfl]
    exact ⟨Nat.zero_le _, fun _ h => absurd h List.not_mem_nil, f0, w1, w2, hc, h1, h2, w3⟩
  | true =>
    rw [if_neg (by decide)]
    by_cases q1 : it = jlt
    · rw [if_pos q1]
      refine ⟨Nat.le_refl _, fun a h => ?_, f0, w1, w2, ch_shut hc, nil_ok, h2, w3⟩
      rw [List.mem_singleton] at h
      subst h
      exact h2.2
    rw [if_neg q1]
    by_cases q2 : id ≠ []
    · rw [if_pos q2]
      exact ⟨Nat.le_refl _, ans0 _ _, f0, w1, w2, ch_new hc, nil_ok, nil_ok, w3⟩
    rw [if_neg q2]
    by_cases q3 : ipl < first ∨ (W.length : Int) < ipl - first
    · rw [if_pos q3]
      exact ⟨Nat.le_refl _, ans0 _ _, f0, w1, w2, ch_new hc, nil_ok, nil_ok, w3⟩
    rw [if_neg q3]
    cases q5 : W[(ipl - first).toNat]? with
    | none => exact ⟨Nat.zero_le _, fun _ h => absurd h List.not_mem_nil, f0, w1, w2, hc, h1, h2, w3⟩
    | some b =>
      have hb := List.mem_of_getElem? q5
      have hl := getElem?_lt q5
      have hfr := frB_iff.1 (w2 b hb)
      refine ⟨Nat.le_refl _, fun a h => ?_, by show first ≤ ipl ∧ ipl ≤ first + 64; omega, by show (W.drop _).length ≤ 64; rw [List.length_drop]; omega, fun c h => w2 c (List.mem_of_mem_drop h), ch_new hc, nil_ok, ⟨w3 b hb, by have := hfr.2; show b.length ≤ 1000; omega⟩, fun c h => w3 c (List.mem_of_mem_drop h)⟩
      rw [List.mem_singleton] at h
      subst h
      show b.length ≤ 1000
      have := hfr.2
      omega
section
variable {fu : Nat} {P : List Int} {now sent first : Int} {fl : List Flight12} {wt : List (List Int)} {oo : Bool} {ot oop opl : Int} {od : List Int} {olt ola : Int} {old : List Int} {io : Bool} {it iop ipl : Int} {id : List Int} {jlt jla : Int} {jld : List Int}
theorem tick_p (H : Tk fu P now sent first fl wt oo ot oop opl od olt ola old io it iop ipl id jlt jla jld) : s20 fu P now sent first fl wt oo ot oop opl od olt ola old io it iop ipl id jlt jla jld = some ((tu P (now + 1) (sendS P (now + 1) sent (arrS (now + 1) fl wt).1 oo ot oop opl od olt ola old).sent (recvS first (arrS (now + 1) fl wt).2 io it iop ipl id jlt jla jld).first (sendS P (now + 1) sent (arrS (now + 1) fl wt).1 oo ot oop opl od olt ola old).fl (recvS first (arrS (now + 1) fl wt).2 io it iop ipl id jlt jla jld).wt (sendS P (now + 1) sent (arrS (now + 1) fl wt).1 oo ot oop opl od olt ola old).o (sendS P (now + 1) sent (arrS (now + 1) fl wt).1 oo ot oop opl od olt ola old).t (sendS P (now + 1) sent (arrS (now + 1) fl wt).1 oo ot oop opl od olt ola old).op (sendS P (now + 1) sent (arrS (now + 1) fl wt).1 oo ot oop opl od olt ola old).pl (sendS P (now + 1) sent (arrS (now + 1) fl wt).1 oo ot oop opl od olt ola old).d (sendS P (now + 1) sent (arrS (now + 1) fl wt).1 oo ot oop opl od olt ola old).lt (sendS P (now + 1) sent (arrS (now + 1) fl wt).1 oo ot oop opl od olt ola old).la (sendS P (now + 1) sent (arrS (now + 1) fl wt).1 oo ot oop opl od olt ola old).ld (recvS first (arrS (now + 1) fl wt).2 io it iop ipl id jlt jla jld).o (recvS first (arrS (now + 1) fl wt).2 io it iop ipl id jlt jla jld).t (recvS first (arrS (now + 1) fl wt).2 io it iop ipl id jlt jla jld).op (recvS first (arrS (now + 1) fl wt).2 io it iop ipl id jlt jla jld).pl (recvS first (arrS (now + 1) fl wt).2 io it iop ipl id jlt jla jld).d (recvS first (arrS (now + 1) fl wt).2 io it iop ipl id jlt jla jld).lt (recvS first (arrS (now + 1) fl wt).2 io it iop ipl id jlt jla jld).la (recvS first (arrS (now + 1) fl wt).2 io it iop ipl id jlt jla jld).ld), ((sendS P (now + 1) sent (arrS (now + 1) fl wt).1 oo ot oop opl od olt ola old).ans ++ (recvS first (arrS (now + 1) fl wt).2 io it iop ipl id jlt jla jld).ans, ())) := by
  cases oo with
  | false => exact tick_o0 H
  | true =>
    by_cases p1 : ot = olt
    · exact tick_o1 H p1
    cases p2 : frB od with
    | false => exact tick_o2 H p1 p2
    | true =>
      by_cases p3 : P = []
      · by_cases p4 : (arrS (now + 1) fl wt).1.length ≤ 398
        · exact tick_o3 H p1 p2 p3 p4
        · exact tick_o4 H p1 p2 p3 (by omega)
      · by_cases p4 : (arrS (now + 1) fl wt).1.length ≤ 398
        · exact tick_o5 H p1 p2 p3 p4
        · exact tick_o6 H p1 p2 p3 (by omega)
structure BySh (P : List Int) (fl : List Flight12) (wt : List (List Int)) (od old id jld : List Int) : Prop where
  st : BySt P fl wt od old id jld
theorem tick_good (H : Tk fu P now sent first fl wt oo ot oop opl od olt ola old io it iop ipl id jlt jla jld) (hb : BySt P fl wt od old id jld) : GS (sendS P (now + 1) sent (arrS (now + 1) fl wt).1 oo ot oop opl od olt ola old) (now + 1) sent ∧ GR (recvS first (arrS (now + 1) fl wt).2 io it iop ipl id jlt jla jld) first := by
  obtain ⟨hfu, hv, m1, m2, m3, hP, sh, hipl⟩ := H
  unfold validB at hv
  simp only [Bool.and_eq_true, decide_eq_true_eq] at hv
  obtain ⟨v1, v2, v3, v4, v5, v6, v7, v8, v9, v10⟩ := hv
  obtain ⟨f1, f2⟩ := fl_iff.1 v7
  obtain ⟨n, a1, a2, a3⟩ := arrS_fl (now + 1) fl wt
  obtain ⟨w1, w2⟩ := arrS_wt (now + 1) (fun b => frB b = true ∧ By b) fl wt (fun f h => ⟨(f1 f h).1, hb.fl f h⟩) (fun b h => ⟨List.all_eq_true.1 v8 b h, hb.wt b h⟩) v6
  have g3 : Sf (fl.drop n) := List.Pairwise.sublist (List.drop_sublist _ _) f2
  have g2 : ∀ f ∈ fl.drop n, now + 1 < f.Due := by
    cases hd : fl.drop n with
    | nil => intro f h; cases h
    | cons g r =>
      have h1 := a3 g r hd
      have h2 : g ∈ fl := List.mem_of_mem_drop (i := n) (by rw [hd]; exact .head _)
      have h3 := (f1 g h2).2.1
      rw [hd] at g3
      have h4 := (List.pairwise_cons.1 g3).1
      intro f hf
      rcases List.mem_cons.1 hf with rfl | hf
      · omega
      · have := h4 f hf; omega
  constructor
  · rw [a1]
    exact good_send hP v9 ⟨hb.od, sh.od⟩ ⟨hb.old, sh.old⟩ (by rw [List.length_drop]; omega) (fun f h => by
      have := f1 f (List.mem_of_mem_drop h)
      exact ⟨this.1, g2 f h, by omega⟩) g3 (fun f h => hb.fl f (List.mem_of_mem_drop h))
  · exact good_recv v10 ⟨hb.id, sh.id⟩ ⟨hb.jld, sh.jld⟩ w1 (fun b h => (w2 b h).1) (fun b h => (w2 b h).2)
theorem tick_valid (H : Tk fu P now sent first fl wt oo ot oop opl od olt ola old io it iop ipl id jlt jla jld) (hb : BySt P fl wt od old id jld) : validB P (now + 1) (sendS P (now + 1) sent (arrS (now + 1) fl wt).1 oo ot oop opl od olt ola old).sent (recvS first (arrS (now + 1) fl wt).2 io it iop ipl id jlt jla jld).first (sendS P (now + 1) sent (arrS (now + 1) fl wt).1 oo ot oop opl od olt ola old).fl (recvS first (arrS (now + 1) fl wt).2 io it iop ipl id jlt jla jld).wt (sendS P (now + 1) sent (arrS (now + 1) fl wt).1 oo ot oop opl od olt ola old).o (sendS P (now + 1) sent (arrS (now + 1) fl wt).1 oo ot oop opl od olt ola old).t (sendS P (now + 1) sent (arrS (now + 1) fl wt).1 oo ot oop opl od olt ola old).op (sendS P (now + 1) sent (arrS (now + 1) fl wt).1 oo ot oop opl od olt ola old).pl (sendS P (now + 1) sent (arrS (now + 1) fl wt).1 oo ot oop opl od olt ola old).d (sendS P (now + 1) sent (arrS (now + 1) fl wt).1 oo ot oop opl od olt ola old).lt (recvS first (arrS (now + 1) fl wt).2 io it iop ipl id jlt jla jld).o (recvS first (arrS (now + 1) fl wt).2 io it iop ipl id jlt jla jld).t (recvS first (arrS (now + 1) fl wt).2 io it iop ipl id jlt jla jld).op (recvS first (arrS (now + 1) fl wt).2 io it iop ipl id jlt jla jld).pl (recvS first (arrS (now + 1) fl wt).2 io it iop ipl id jlt jla jld).d (recvS first (arrS (now + 1) fl wt).2 io it iop ipl id jlt jla jld).lt = true := by
  obtain ⟨gs, gr⟩ := tick_good H hb
  obtain ⟨hfu, hv, m1, m2, m3, hP, sh, hipl⟩ := H
  unfold validB at hv ⊢
  simp only [Bool.and_eq_true, decide_eq_true_eq] at hv ⊢
  obtain ⟨v1, v2, v3, v4, v5, v6, v7, v8, v9, v10⟩ := hv
  unfold numB at v2 v3 v4 ⊢
  simp only [Bool.and_eq_true, decide_eq_true_eq] at v2 v3 v4 ⊢
  refine ⟨v1, by omega, ?_, ?_, gs.a4, gr.a4, fl_iff.2 ⟨gs.a5, gs.a6⟩, List.all_eq_true.2 gr.a5, gs.a7, gr.a7⟩
  · rcases gs.a3 with h | h <;> rw [h] <;> omega
  · have := gr.a3; omega
end
theorem own_eq {fu : Nat} (hf : 1000 < fu) (L : List Answer12) (hl : L.length ≤ 10) : s24 fu L = some (L, ()) := by
  have h := iter_run (step := t24_0 fu) (fu := fu) (fun j => (L, ((), (dlen L, ((j : Int), (L.take j, ())))))) (e := .inl ((), (L, ()))) (n := L.length)
    (fun j hj => by
      obtain ⟨f, hf⟩ : ∃ f, L[j]? = some f := ⟨_, List.getElem?_eq_getElem hj⟩
      have hd : dapp 40 (L.take j) [(⟨f.Tag, f.Answer, f.Data⟩ : Answer12)] = some (L.take (j + 1)) := by
        rw [dapp_ok (by rw [List.length_take, List.length_singleton]; omega) (by rw [List.length_take, List.length_singleton]; omega), List.take_add_one, hf]
        rfl
      simp only [t24_0, dlen_def, ilt_len hj, dat_nat, hf, hd, iadd1 (show j < 9223372036854775807 by omega)])
    (by simp only [t24_0, dlen_def, ilt_end, List.take_length]) (by omega)
  rw [show ((0 : Nat) : Int) = 0 from rfl, List.take_zero] at h
  unfold s24
  simp only [h]
end Go.G
