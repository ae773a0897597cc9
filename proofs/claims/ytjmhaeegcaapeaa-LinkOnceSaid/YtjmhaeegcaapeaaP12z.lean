import Derived.Test.YtjmhaeegcaapeaaP12x
import Derived.Test.YtjmhaeegcaapeaaP12q
set_option linter.unusedVariables false
set_option linter.unusedSimpArgs false
namespace Go.G
set_option maxRecDepth 100000
set_option maxHeartbeats 4000000
theorem ans_eq {fu : Nat} (hf : 1000 < fu) (L : List Answer12) (hl : L.length ≤ 10) (tag : Int) : s29 fu L tag = match L.find? (fun a => decide (a.Tag = tag)) with
    | some a => some ((a.Tag, (a.Answer, (a.Data, ()))), (true, ()))
    | none => some ((0, (0, ([], ()))), (false, ())) := by
  have h := iter_find (step := t29_0 fu) (fu := fu) L (fun j => (L, (tag, ((), (dlen L, ((j : Int), ((0, (0, ([], ()))), ()))))))) (fun a => decide (a.Tag = tag)) (fun a => .inr (.inl (true, ((), ((a.Tag, (a.Answer, (a.Data, ()))), ()))))) (.inl ((), ((0, (0, ([], ()))), ()))) (by omega)
    (fun j a ha hq => by
      have hj := getElem?_lt ha
      simp only [t29_0, dlen_def, ilt_len hj, dat_nat, ha, ieq_d, hq, iadd1 (show j < 9223372036854775807 by omega)])
    (fun j a ha hq => by
      have hj := getElem?_lt ha
      simp only [t29_0, dlen_def, ilt_len hj, dat_nat, ha, ieq_d, hq])
    (by simp only [t29_0, dlen_def, ilt_end])
  rw [show ((0 : Nat) : Int) = 0 from rfl] at h
  unfold s29
  rw [h]
  cases L.find? (fun a => decide (a.Tag = tag)) <;> rfl
theorem arrS_pre (t : Int) : ∀ (fl : List Flight12) (w : List (List Int)) (i : Nat) (b : List Int), w[i]? = some b → (arrS t fl w).2[i]? = some b
  | [], w, i, b, h => h
  | f :: r, w, i, b, h => by
    by_cases hd : f.Due = t
    · simp only [arrS, if_pos hd]
      refine arrS_pre t r _ i b ?_
      by_cases hw : w.length < 64
      · rw [if_pos hw, List.getElem?_append_left (getElem?_lt h)]
        exact h
      · rw [if_neg hw]; exact h
    · simp only [arrS, if_neg hd]
      exact h
theorem send_tags {P : List Int} {now sent : Int} {FL : List Flight12} {oo : Bool} {ot oop opl : Int} {od : List Int} {olt ola : Int} {old : List Int} (hc : chB oo ot oop opl od olt 0 = true) : ∀ a ∈ (sendS P now sent FL oo ot oop opl od olt ola old).ans, prB a.Tag 0 = true := by
  unfold sendS
  cases oo with
  | false => rw [if_pos rfl]; exact fun a h => absurd h List.not_mem_nil
  | true =>
    unfold chB at hc
    rw [Bool.and_eq_true, if_pos rfl, Bool.and_eq_true] at hc
    have hp := hc.2.1
    rw [if_neg (by decide)]
    by_cases p1 : ot = olt
    · rw [if_pos p1]
      intro a h
      rw [List.mem_singleton] at h
      subst h
      rw [← p1]; exact hp
    rw [if_neg p1]
    cases frB od with
    | false => rw [if_pos rfl]; intro a h; rw [List.mem_singleton] at h; subst h; exact hp
    | true => rw [if_neg (by decide)]; intro a h; rw [List.mem_singleton] at h; subst h; exact hp
theorem pr_ne {a b : Int} (h1 : prB a 0 = true) (h2 : prB b 1 = true) : a ≠ b := by
  unfold prB at h1 h2
  simp only [Bool.and_eq_true, decide_eq_true_eq] at h1 h2
  rintro rfl
  omega
theorem find_app {L M : List Answer12} {tag : Int} (h : ∀ a ∈ L, a.Tag ≠ tag) : (L ++ M).find? (fun a => decide (a.Tag = tag)) = M.find? (fun a => decide (a.Tag = tag)) := by
  rw [List.find?_append, List.find?_eq_none.2 (fun a ha => by simpa using h a ha)]
  rfl
section
variable {fu : Nat} {P : List Int} {now sent first : Int} {fl : List Flight12} {wt : List (List Int)} {oo : Bool} {ot oop opl : Int} {od : List Int} {olt ola : Int} {old : List Int} {io : Bool} {it iop ipl : Int} {id : List Int} {jlt jla : Int} {jld : List Int} {tag p : Int} {b : List Int} {i : Nat}
theorem kept_step (hfu : 1000000 < fu) (hv : validB P now sent first fl wt oo ot oop opl od olt io it iop ipl id jlt = true) (m1 : now ≤ 1099511627712) (m2 : sent ≤ 1099511627712) (m3 : first ≤ 1099511627712) (hb : BySt P fl wt od old id jld) (sh : Sh od old id jld []) (hio : io = false) (tp : prB tag 1 = true) (tl : jlt < tag) (hi : wt[i]? = some b) (hp : p = first + (i : Int)) :
    ∃ P' now' sent' first' fl' wt' oo' ot' oop' opl' od' olt' ola' old' io' it' iop' ipl' id' jlt' jla' jld' L, s26 fu P now sent first fl wt oo ot oop opl od olt ola old io it iop ipl id jlt jla jld tag 1 p [] = some (tu P now sent first fl wt oo ot oop opl od olt ola old true tag 1 p [] jlt jla jld, (0, ())) ∧ s20 fu P now sent first fl wt oo ot oop opl od olt ola old true tag 1 p [] jlt jla jld = some (tu P' now' sent' first' fl' wt' oo' ot' oop' opl' od' olt' ola' old' io' it' iop' ipl' id' jlt' jla' jld', (L, ())) ∧ L.length ≤ 10 ∧ L.find? (fun a => decide (a.Tag = tag)) = some ⟨tag, p + 1, b⟩ ∧
      validB P' now' sent' first' fl' wt' oo' ot' oop' opl' od' olt' io' it' iop' ipl' id' jlt' = true ∧ now' = now + 1 ∧ sent' ≤ sent + 1 ∧ first' = p ∧ BySt P' fl' wt' od' old' id' jld' ∧ Sh od' old' id' jld' [] ∧ io' = false ∧ jlt' = tag ∧ wt'[0]? = some b := by
  subst hio
  have hv0 := hv
  unfold validB at hv0
  simp only [Bool.and_eq_true, decide_eq_true_eq] at hv0
  obtain ⟨v1, v2, v3, v4, v5, v6, v7, v8, v9, v10⟩ := hv0
  unfold numB at v4
  simp only [Bool.and_eq_true, decide_eq_true_eq] at v4
  have hlt := getElem?_lt hi
  have hc : chB true tag 1 p [] jlt 1 = true := by
    unfold chB at v10 ⊢
    rw [Bool.and_eq_true] at v10 ⊢
    refine ⟨v10.1, ?_⟩
    rw [if_pos rfl, tp, Bool.true_and, decide_eq_true_eq]
    omega
  have hv1 : validB P now sent first fl wt oo ot oop opl od olt true tag 1 p [] jlt = true := by
    unfold validB
    simp only [Bool.and_eq_true, decide_eq_true_eq]
    exact ⟨v1, v2, v3, by unfold numB; simp only [Bool.and_eq_true, decide_eq_true_eq]; exact v4, v5, v6, v7, v8, v9, hc⟩
  have H : Tk fu P now sent first fl wt oo ot oop opl od olt ola old true tag 1 p [] jlt jla jld := ⟨hfu, hv1, m1, m2, m3, hb.p, ⟨sh.od, sh.old, Nat.zero_le _, sh.jld, Nat.zero_le _⟩, by omega⟩
  have hb1 : BySt P fl wt od old [] jld := ⟨hb.p, hb.fl, hb.wt, hb.od, hb.old, by_nil, hb.jld⟩
  have q1 := do_i_p (fu := fu) (ola := ola) (jla := jla) (xt := tag) (xpl := p) (xd := []) hfu sh hv tp
  have e1 : tkE false it jlt tag = 0 := by unfold tkE; rw [if_neg (by decide), if_neg (by omega)]
  have e2 : tkC false it iop ipl id jlt tag 1 p [] = (true, tag, 1, p, []) := by unfold tkC; rw [if_neg (by decide), if_neg (by omega)]
  rw [if_pos e1, e2] at q1
  have t1 := tick_p H
  have t3 := tick_valid H hb1
  obtain ⟨gs, gr⟩ := tick_good H hb1
  have hW := arrS_pre (now + 1) fl wt i b hi
  have hWl := (arrS_wt (now + 1) (fun _ => True) fl wt (fun _ _ => trivial) (fun _ _ => trivial) v6).1
  have hro : recvS first (arrS (now + 1) fl wt).2 true tag 1 p [] jlt jla jld = ⟨p, (arrS (now + 1) fl wt).2.drop i, false, 0, 0, 0, [], tag, p + 1, b, [⟨tag, p + 1, b⟩]⟩ := by
    have hpi : p - first = (i : Int) := by omega
    have := getElem?_lt hW
    unfold recvS
    rw [if_neg (by decide), if_neg (by omega), if_neg (by simp), if_neg (by omega), hpi, Int.toNat_natCast, hW]
  rw [hro] at t1 t3 gr
  refine ⟨_, _, _, _, _, _, _, _, _, _, _, _, _, _, _, _, _, _, _, _, _, _, _, q1, t1, ?_, ?_, t3, rfl, ?_, rfl, ⟨hb.p, gs.a10, gr.a10, gs.a8.1, gs.a9.1, gr.a8.1, gr.a9.1⟩, ⟨gs.a8.2, gs.a9.2, gr.a8.2, gr.a9.2, Nat.zero_le _⟩, rfl, rfl, ?_⟩
  · rw [List.length_append]; have := gs.a1; have := gr.a1; omega
  · rw [find_app (fun a h => pr_ne (send_tags v9 a h) tp)]
    simp
  · rcases gs.a3 with h | h <;> rw [h] <;> omega
  · show ((arrS (now + 1) fl wt).2.drop i)[0]? = some b
    rw [List.getElem?_drop]
    exact hW
end
end Go.G
