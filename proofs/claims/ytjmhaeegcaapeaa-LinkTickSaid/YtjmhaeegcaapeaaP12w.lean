import Derived.Test.YtjmhaeegcaapeaaP12u
set_option linter.unusedVariables false
set_option linter.unusedSimpArgs false
namespace Go.G
set_option maxRecDepth 100000
set_option maxHeartbeats 4000000
theorem dsub_drop {α : Type} (l : List α) {k : Nat} (h : k ≤ l.length) : dsub l (k : Int) (dlen l) = some (l.drop k) := by
  unfold dsub
  rw [dlen_def, if_pos (by omega)]
  simp
theorem dsub_take {α : Type} (l : List α) {k : Nat} (h : k ≤ l.length) : dsub l 0 (k : Int) = some (l.take k) := by
  unfold dsub
  rw [if_pos (by omega)]
  simp
theorem ins_r {fu : Nat} (hfu : 2000 < fu) {fl : List Flight12} (hl : fl.length ≤ 1000) (due : Int) (data : List Int) : s69 fu fl due data = some (insS fl ⟨due, data⟩, ()) := by
  have fin : ∀ k : Nat, k ≤ fl.length → insS fl ⟨due, data⟩ = fl.take k ++ (⟨due, data⟩ : Flight12) :: fl.drop k → iter (t69_0 fu) fu (fl, ((), (0, ((due, (data, ())), ())))) = some (.inl (fl, ((), ((k : Int), ((due, (data, ())), ()))))) → s69 fu fl due data = some (insS fl ⟨due, data⟩, ()) := by
    intro k hk he hi
    have d1 := clone12 (bytes := 32) (by omega) (l := fl.take k) (by rw [List.length_take]; omega)
    have d2 : dapp 32 (fl.take k) ((⟨due, data⟩ : Flight12) :: []) = some (fl.take k ++ [⟨due, data⟩]) := dapp_ok (by rw [List.length_take]; simp; omega) (by rw [List.length_take]; simp; omega)
    have d3 : dapp 32 (fl.take k ++ [(⟨due, data⟩ : Flight12)]) (fl.drop k) = some (fl.take k ++ [⟨due, data⟩] ++ fl.drop k) := dapp_ok (by rw [List.length_append, List.length_take, List.length_drop]; simp; omega) (by rw [List.length_append, List.length_take, List.length_drop]; simp; omega)
    unfold s69
    simp only [hi, dsub_take fl hk, dsub_drop fl hk, d1, d2, d3]
    rw [he, List.append_assoc]
    rfl
  rcases iter_first (step := t69_0 fu) (fu := fu) fl (fun j => (fl, ((), ((j : Int), ((due, (data, ())), ()))))) (fun f => decide (due < f.Due)) (fun j _ => .inl (fl, ((), ((j : Int), ((due, (data, ())), ()))))) (.inl (fl, ((), ((fl.length : Int), ((due, (data, ())), ()))))) (by omega)
    (fun j f hf hq => by
      have hj := getElem?_lt hf
      have g : ile f.Due due = true := ile_iff.2 (by simpa using hq)
      simp only [t69_0, dlen_def, ilt_len hj, dat_nat, hf, g, iadd1 (show j < 9223372036854775807 by omega)])
    (fun j f hf hq => by
      have hj := getElem?_lt hf
      have g : ile f.Due due = false := ile_f.2 (by simpa using hq)
      simp only [t69_0, dlen_def, ilt_len hj, dat_nat, hf, g])
    (by simp only [t69_0, dlen_def, ilt_end]) with ⟨k, f, h1, h2, h3, h4⟩ | ⟨h1, h2⟩
  · refine fin k (by have := getElem?_lt h1; omega) (insS_at fl k (by have := getElem?_lt h1; omega) (fun c g hc hg => ?_) (fun g hg => ?_)) h4
    · have := h3 c g hc hg
      simpa using this
    · rw [h1] at hg
      cases hg
      simpa using h2
  · refine fin fl.length (Nat.le_refl _) (insS_at fl fl.length (Nat.le_refl _) (fun c g hc hg => ?_) (fun g hg => ?_)) h2
    · have := h1 g (List.mem_of_getElem? hg)
      simpa using this
    · have := getElem?_lt hg
      omega
section
variable {fu : Nat} {P : List Int} {now sent first : Int} {fl : List Flight12} {wt : List (List Int)} {oo : Bool} {ot oop opl : Int} {od : List Int} {olt ola : Int} {old : List Int} {io : Bool} {it iop ipl : Int} {id : List Int} {jlt jla : Int} {jld : List Int}
theorem arr_r (T : (Unit × (Int × (Int × (Int × (Unit × (Unit × (Bool × (Int × (Int × (Int × (Unit × (Int × (Int × (Int × (Unit × (Bool × (Int × (Int × (Int × (Unit × (Int × (Int × (Int × (Unit × Unit))))))))))))))))))))))))) : ∀ (fl : List Flight12) (w : List (List Int)) (k : Nat), fl.length < k → fl.length ≤ 400 → w.length ≤ 64 →
    iter (t44_1 fu) k ((), ((), (T, (w, ((P, now, sent, first, fl, (), oo, ot, oop, opl, od, 0, olt, ola, old, io, it, iop, ipl, id, 0, jlt, jla, jld, ()), ()))))) = some (.inl ((), ((), (T, ((arrS now fl w).2, ((P, now, sent, first, (arrS now fl w).1, (), oo, ot, oop, opl, od, 0, olt, ola, old, io, it, iop, ipl, id, 0, jlt, jla, jld, ()), ()))))))
  | [], w, k + 1, _, _, _ => by
    have e1 : ilt 0 (dlen ([] : List Flight12)) = false := rfl
    simp only [iter, t44_1, e1, arrS]
  | f :: r, w, k + 1, hf, hl, hw => by
    have e1 : ilt 0 (dlen (f :: r)) = true := ilt_iff.2 (by rw [dlen_def, List.length_cons]; omega)
    have e2 : dat (f :: r) 0 = some f := rfl
    by_cases h : f.Due = now
    · have e3 : ieq f.Due now = true := ieq_iff.2 h
      have e8 := dsub_drop (f :: r) (k := 1) (by rw [List.length_cons]; omega)
      rw [List.drop_one, List.tail_cons, Int.natCast_one] at e8
      rw [List.length_cons] at hf hl
      by_cases hw2 : w.length < 64
      · have e4 : ilt (dlen w) 64 = true := ilt_iff.2 (by rw [dlen_def]; omega)
        have e5 : dapp 24 w (f.Data :: []) = some (w ++ [f.Data]) := by
          refine dapp_ok ?_ ?_ <;> simp <;> omega
        have ih := arr_r T r (w ++ [f.Data]) k (by omega) (by omega) (by simp; omega)
        simp only [iter, t44_1, e1, e2, e3, e4, e5, e8, arrS, if_pos h, if_pos hw2]
        exact ih
      · have e4 : ilt (dlen w) 64 = false := ilt_f.2 (by rw [dlen_def]; omega)
        have ih := arr_r T r w k (by omega) (by omega) hw
        simp only [iter, t44_1, e1, e2, e3, e4, e8, arrS, if_pos h, if_neg hw2]
        exact ih
    · have e3 : ieq f.Due now = false := ieq_f.2 h
      simp only [iter, t44_1, e1, e2, e3, arrS, if_neg h]
  | [], _, 0, hf, _, _ => absurd hf (by simp)
  | _ :: _, _, 0, hf, _, _ => absurd hf (by simp)
theorem arrive_r (hfu : 2000 < fu) (hn : 0 ≤ now) (hn2 : now ≤ 1099511627776) (hl : fl.length ≤ 400) (hw : wt.length ≤ 64) : s44 fu P now sent first fl wt oo ot oop opl od 0 olt ola old io it iop ipl id 0 jlt jla jld = some (tv P (now + 1) sent first (arrS (now + 1) fl wt).1 (arrS (now + 1) fl wt).2 oo ot oop opl od 0 olt ola old io it iop ipl id 0 jlt jla jld, ()) := by
  have hc2 := clone12 (bytes := 24) (by omega) (l := wt) (by omega)
  have hn1 : iadd .i64 now 1 = now + 1 := iadd64 (by omega)
  have ha := fun T => arr_r (fu := fu) (P := P) (now := now + 1) (sent := sent) (first := first) (oo := oo) (ot := ot) (oop := oop) (opl := opl) (od := od) (olt := olt) (ola := ola) (old := old) (io := io) (it := it) (iop := iop) (ipl := ipl) (id := id) (jlt := jlt) (jla := jla) (jld := jld) T fl wt fu (by omega) hl hw
  unfold s44
  simp only [hc2, hn1, ha]
theorem loop45 (hfu : 2000 < fu) (l : List Int) (hll : l.length ≤ 2) (hl : fl.length ≤ 400) (hn : 0 ≤ now) (hn2 : now ≤ 1100000000000) (h1 : ∀ d ∈ l, 0 < d ∧ d ≤ 8) (x8 : (Unit × (Int × (Int × (Int × (Unit × (Unit × (Bool × (Int × (Int × (Int × (Unit × (Int × (Int × (Int × (Unit × (Bool × (Int × (Int × (Int × (Unit × (Int × (Int × (Int × (Unit × Unit))))))))))))))))))))))))) :
    iter (t45_2 fu) fu ((), ((), ((), ((), (l, (0, ((ot, (0, ((), ()))), ((ot, (oop, (opl, (od, ())))), (x8, ((tv P now sent first fl wt oo ot oop opl od 0 olt ola old io it iop ipl id 0 jlt jla jld), ())))))))))) = some (.inl ((), ((), ((), ((ot, (0, ((), ()))), ((ot, (oop, (opl, (od, ())))), (x8, ((tv P now sent first (insAll now od l fl) wt oo ot oop opl od 0 olt ola old io it iop ipl id 0 jlt jla jld), ())))))))) := by
  have := iter_fold (step := t45_2 fu) (fu := fu) l (fun j s => ((), ((), ((), ((), (l, ((j : Int), ((ot, (0, ((), ()))), ((ot, (oop, (opl, (od, ())))), (x8, ((tv P now sent first s wt oo ot oop opl od 0 olt ola old io it iop ipl id 0 jlt jla jld), ())))))))))))
    (fun d s => insS s ⟨now + d, od⟩) (fun j s => s.length = fl.length + j) (fun s => .inl ((), ((), ((), ((ot, (0, ((), ()))), ((ot, (oop, (opl, (od, ())))), (x8, ((tv P now sent first s wt oo ot oop opl od 0 olt ola old io it iop ipl id 0 jlt jla jld), ())))))))) fl (by omega) rfl
    (fun j d s hdj hI => by
      have hj := getElem?_lt hdj
      obtain ⟨d1, d2⟩ := h1 d (List.mem_of_getElem? hdj)
      have e1 : iadd .i64 now d = now + d := iadd64 (by omega)
      have e5 : iadd .i64 (j : Int) 1 = ((j + 1 : Nat) : Int) := iadd1 (by omega)
      have e6 := ins_r (fu := fu) hfu (fl := s) (by omega) (now + d) od
      exact ⟨by simp only [t45_2, dlen_def, ilt_len hj, dat_nat, hdj, e1, e5, e6], by rw [insS_len]; omega⟩)
    (fun s _ => by simp only [t45_2, dlen_def, ilt_end])
  exact this
theorem loop45e (hfu : 2000 < fu) (x8 : (Unit × (Int × (Int × (Int × (Unit × (Unit × (Bool × (Int × (Int × (Int × (Unit × (Int × (Int × (Int × (Unit × (Bool × (Int × (Int × (Int × (Unit × (Int × (Int × (Int × (Unit × Unit))))))))))))))))))))))))) :
    iter (t45_9 fu) fu ((), ((), ((), ((), ((), (0, ((ot, (0, ((), ()))), ((ot, (oop, (opl, (od, ())))), (x8, ((tv P now sent first fl wt oo ot oop opl od 0 olt ola old io it iop ipl id 0 jlt jla jld), ())))))))))) = some (.inl ((), ((), ((), ((ot, (0, ((), ()))), ((ot, (oop, (opl, (od, ())))), (x8, ((tv P now sent first fl wt oo ot oop opl od 0 olt ola old io it iop ipl id 0 jlt jla jld), ())))))))) := by
  cases fu with
  | zero => omega
  | succ k => rfl
theorem s18_eq (p : Int) : s18 fu p = some (arrL p, ()) := s17_eq fu p
theorem recv_r (h0 : 0 ≤ first) (h1 : first ≤ 1099511627776) (hi : ipl ≤ 9223372036854775807) (hw : wt.length ≤ 64) : s46 fu P now sent first fl wt oo ot oop opl od 0 olt ola old io it iop ipl id 0 jlt jla jld = some (tv P now sent (recvS first wt io it iop ipl id jlt jla jld).first fl (recvS first wt io it iop ipl id jlt jla jld).wt oo ot oop opl od 0 olt ola old (recvS first wt io it iop ipl id jlt jla jld).o (recvS first wt io it iop ipl id jlt jla jld).t (recvS first wt io it iop ipl id jlt jla jld).op (recvS first wt io it iop ipl id jlt jla jld).pl (recvS first wt io it iop ipl id jlt jla jld).d 0 (recvS first wt io it iop ipl id jlt jla jld).lt (recvS first wt io it iop ipl id jlt jla jld).la (recvS first wt io it iop ipl id jlt jla jld).ld, ((recvS first wt io it iop ipl id jlt jla jld).ans, ())) := by
  unfold s46 recvS
  simp only [s70]
  cases io with
  | false => rfl
  | true =>
    by_cases q1 : it = jlt
    · have i1 : ieq it jlt = true := ieq_iff.2 q1
      simp only [i1, if_pos q1]
      rfl
    have i1 : ieq it jlt = false := ieq_f.2 q1
    by_cases q2 : id ≠ []
    · have i2 : ilt 0 (dlen id) = true := ilt_iff.2 (by rw [dlen_def]; have := List.length_pos_iff.2 q2; omega)
      simp only [i1, i2, if_neg q1, if_pos q2]
      rfl
    have i2 : ilt 0 (dlen id) = false := by rw [Classical.not_not.1 q2]; rfl
    by_cases q3 : ipl < first
    · have i3 : ilt ipl first = true := ilt_iff.2 q3
      simp only [i1, i2, i3, if_neg q1, if_neg q2, if_pos (show ipl < first ∨ (wt.length : Int) < ipl - first from .inl q3)]
      rfl
    have i3 : ilt ipl first = false := ilt_f.2 (by omega)
    obtain ⟨i, hi⟩ : ∃ i : Nat, ipl - first = (i : Int) := ⟨(ipl - first).toNat, by omega⟩
    have i4 : isub .i64 ipl first = (i : Int) := by rw [isub64 (by omega)]; exact hi
    by_cases q4 : wt.length < i
    · have i5 : ilt (dlen wt) (i : Int) = true := ilt_iff.2 (by rw [dlen_def]; omega)
      simp only [i1, i2, i3, i4, i5, if_neg q1, if_neg q2, if_pos (show ipl < first ∨ (wt.length : Int) < ipl - first from .inr (by omega))]
      rfl
    have i5 : ilt (dlen wt) (i : Int) = false := ilt_f.2 (by rw [dlen_def]; omega)
    have ng : ¬ (ipl < first ∨ (wt.length : Int) < (i : Int)) := by omega
    cases q5 : wt[i]? with
    | none =>
      have hl : wt.length ≤ i := List.getElem?_eq_none_iff.1 q5
      have i6 : ieq (i : Int) (dlen wt) = true := ieq_iff.2 (by rw [dlen_def]; omega)
      simp only [i1, i2, i3, i4, i5, i6, if_neg q1, if_neg q2, if_neg ng, hi, Int.toNat_natCast, q5]
      rfl
    | some b =>
      have hl := getElem?_lt q5
      have i6 : ieq (i : Int) (dlen wt) = false := ieq_f.2 (by rw [dlen_def]; omega)
      have eb : dat wt (i : Int) = some b := by rw [dat_nat]; exact q5
      have ec := dsub_drop wt (k := i) (by omega)
      have ed : iadd .i64 ipl 1 = ipl + 1 := iadd64 (by omega)
      simp only [i1, i2, i3, i4, i5, i6, eb, ec, ed, if_neg q1, if_neg q2, if_neg ng, hi, Int.toNat_natCast, q5]
      rfl
theorem send_r (hfu : 2000 < fu) (hP : By P) (h0 : 0 ≤ sent) (h1 : sent ≤ 1099511627776) (hn : 0 ≤ now) (hn2 : now ≤ 1100000000000) (hl : fl.length ≤ 400) : s45 fu P now sent first fl wt oo ot oop opl od 0 olt ola old io it iop ipl id 0 jlt jla jld = some (tv P now (sendS P now sent fl oo ot oop opl od olt ola old).sent first (sendS P now sent fl oo ot oop opl od olt ola old).fl wt (sendS P now sent fl oo ot oop opl od olt ola old).o (sendS P now sent fl oo ot oop opl od olt ola old).t (sendS P now sent fl oo ot oop opl od olt ola old).op (sendS P now sent fl oo ot oop opl od olt ola old).pl (sendS P now sent fl oo ot oop opl od olt ola old).d 0 (sendS P now sent fl oo ot oop opl od olt ola old).lt (sendS P now sent fl oo ot oop opl od olt ola old).la (sendS P now sent fl oo ot oop opl od olt ola old).ld io it iop ipl id 0 jlt jla jld, ((sendS P now sent fl oo ot oop opl od olt ola old).ans, ())) := by
  have t16 : t45_16 fu = t45_2 fu := rfl
  have t23 : t45_23 fu = t45_9 fu := rfl
  unfold s45 sendS
  simp only [s70]
  cases oo with
  | false => rfl
  | true =>
    by_cases p1 : ot = olt
    · have o1 : ieq ot olt = true := ieq_iff.2 p1
      simp only [o1, if_pos p1]
      rfl
    have o1 : ieq ot olt = false := ieq_f.2 p1
    have o2 := s54_eq fu od
    cases p2 : frB od with
    | false =>
      rw [p2] at o2
      simp only [o1, o2, if_neg p1]
      rfl
    | true =>
      rw [p2] at o2
      have hs1 : iadd .i64 sent 1 = sent + 1 := iadd64 (by omega)
      have pa := patS_ok hP sent
      have al := arrL_ok pa.1 pa.2
      have o3 := s18_eq (fu := fu) (patS P sent)
      by_cases p4 : fl.length ≤ 398
      · have o8 : ilt 398 (dlen fl) = false := ilt_f.2 (by rw [dlen_def]; omega)
        have lp := fun x8 => loop45 (fu := fu) (P := P) (now := now) (sent := sent) (first := first) (fl := fl) (wt := wt) (ot := ot) (oop := oop) (opl := opl) (od := od) (olt := olt) (ola := ola) (old := old) (io := io) (it := it) (iop := iop) (ipl := ipl) (id := id) (jlt := jlt) (jla := jla) (jld := jld) (oo := true) hfu (arrL (patS P sent)) al.1 hl hn hn2 al.2 x8
        by_cases p3 : P = []
        · have o4 : ilt 0 (dlen P) = false := by rw [p3]; rfl
          have e0 : patS P sent = 0 := by unfold patS; rw [if_pos p3]
          have o3' := o3
          rw [e0] at o3'
          rw [e0] at lp
          simp only [o1, o2, o3', o4, o8, e0, lp, hs1, if_neg p1, if_pos p4]
          try rfl
        · have o4 : ilt 0 (dlen P) = true := ilt_iff.2 (by rw [dlen_def]; have := List.length_pos_iff.2 p3; omega)
          have o5 : ieq (dlen P) 0 = false := ieq_f.2 (by rw [dlen_def]; have := List.length_pos_iff.2 p3; omega)
          have o6 := pat_dat p3 (sent := sent) h0
          simp only [o1, o2, o3, o4, o5, o6, o8, t16, lp, hs1, if_neg p1, if_pos p4]
          try rfl
      · have o8 : ilt 398 (dlen fl) = true := ilt_iff.2 (by rw [dlen_def]; omega)
        have lp := fun x8 => loop45e (fu := fu) (P := P) (now := now) (sent := sent) (first := first) (fl := fl) (wt := wt) (ot := ot) (oop := oop) (opl := opl) (od := od) (olt := olt) (ola := ola) (old := old) (io := io) (it := it) (iop := iop) (ipl := ipl) (id := id) (jlt := jlt) (jla := jla) (jld := jld) (oo := true) hfu x8
        by_cases p3 : P = []
        · have o4 : ilt 0 (dlen P) = false := by rw [p3]; rfl
          have o3' := s18_eq (fu := fu) 0
          simp only [o1, o2, o3', o4, o8, lp, hs1, if_neg p1, if_neg p4]
          try rfl
        · have o4 : ilt 0 (dlen P) = true := ilt_iff.2 (by rw [dlen_def]; have := List.length_pos_iff.2 p3; omega)
          have o5 : ieq (dlen P) 0 = false := ieq_f.2 (by rw [dlen_def]; have := List.length_pos_iff.2 p3; omega)
          have o6 := pat_dat p3 (sent := sent) h0
          simp only [o1, o2, o3, o4, o5, o6, o8, t23, lp, hs1, if_neg p1, if_neg p4]
          try rfl
end
end Go.G
