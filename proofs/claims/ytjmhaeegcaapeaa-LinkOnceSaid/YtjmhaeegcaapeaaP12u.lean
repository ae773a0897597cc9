import Derived.Test.YtjmhaeegcaapeaaP12t
set_option linter.unusedVariables false
set_option linter.unusedSimpArgs false
namespace Go.G
set_option maxRecDepth 100000
set_option maxHeartbeats 4000000
structure Tk (fu : Nat) (P : List Int) (now : Int) (sent : Int) (first : Int) (fl : List Flight12) (wt : List (List Int)) (oo : Bool) (ot : Int) (oop : Int) (opl : Int) (od : List Int) (olt : Int) (ola : Int) (old : List Int) (io : Bool) (it : Int) (iop : Int) (ipl : Int) (id : List Int) (jlt : Int) (jla : Int) (jld : List Int) : Prop where
  fu_ : 1000000 < fu
  v : validB P now sent first fl wt oo ot oop opl od olt io it iop ipl id jlt = true
  m1 : now ≤ 1099511627712
  m2 : sent ≤ 1099511627712
  m3 : first ≤ 1099511627712
  p : By P
  sh : Sh od old id jld []
  ipl_ : ipl ≤ 9223372036854775807
theorem imx {a b c : Int} (h1 : a ≤ c) (h2 : b ≤ c) : imax a b ≤ c := by unfold imax; split <;> assumption
theorem t299' : t20_299 = t20_160 := rfl
theorem cA1 (a : Answer12) : dapp 40 ([] : List Answer12) (a :: []) = some [a] := dapp_ok (by simp) (by simp)
theorem cA2 (a b : Answer12) : dapp 40 [a] (b :: []) = some [a, b] := dapp_ok (by simp) (by simp)
theorem cI0 : dapp 1 ([] : List Int) [] = some [] := rfl
section
variable {fu : Nat} {P : List Int} {now sent first : Int} {fl : List Flight12} {wt : List (List Int)} {oo : Bool} {ot oop opl : Int} {od : List Int} {olt ola : Int} {old : List Int} {io : Bool} {it iop ipl : Int} {id : List Int} {jlt jla : Int} {jld : List Int} {W : List (List Int)}
theorem rcase (h0 : 0 ≤ first) (h1 : first ≤ 1099511627776) (hip : ipl ≤ 9223372036854775807) (w1 : W.length ≤ 64) (w2 : ∀ b ∈ W, frB b = true) :
    (io = false ∧ recvS first W false it iop ipl id jlt jla jld = ⟨first, W, false, it, iop, ipl, id, jlt, jla, jld, []⟩) ∨
    (io = true ∧ ieq it jlt = true ∧ recvS first W true it iop ipl id jlt jla jld = ⟨first, W, false, 0, 0, 0, [], jlt, jla, jld, [⟨jlt, jla, jld⟩]⟩) ∨
    (io = true ∧ ieq it jlt = false ∧ ilt 0 (dlen id) = true ∧ recvS first W true it iop ipl id jlt jla jld = ⟨first, W, false, 0, 0, 0, [], it, -1, [], [⟨it, -1, []⟩]⟩) ∨
    (io = true ∧ ieq it jlt = false ∧ ilt 0 (dlen id) = false ∧ ilt ipl first = true ∧ recvS first W true it iop ipl id jlt jla jld = ⟨first, W, false, 0, 0, 0, [], it, -2, [], [⟨it, -2, []⟩]⟩) ∨
    (∃ i : Nat, io = true ∧ ieq it jlt = false ∧ ilt 0 (dlen id) = false ∧ ilt ipl first = false ∧ isub .i64 ipl first = (i : Int) ∧ ilt (dlen W) (i : Int) = true ∧ recvS first W true it iop ipl id jlt jla jld = ⟨first, W, false, 0, 0, 0, [], it, -2, [], [⟨it, -2, []⟩]⟩) ∨
    (∃ i : Nat, io = true ∧ ieq it jlt = false ∧ ilt 0 (dlen id) = false ∧ ilt ipl first = false ∧ isub .i64 ipl first = (i : Int) ∧ ilt (dlen W) (i : Int) = false ∧ ilt (i : Int) (dlen W) = false ∧ recvS first W true it iop ipl id jlt jla jld = ⟨first, W, true, it, iop, ipl, id, jlt, jla, jld, []⟩) ∨
    (∃ (i : Nat) (b : List Int), io = true ∧ ieq it jlt = false ∧ ilt 0 (dlen id) = false ∧ ilt ipl first = false ∧ isub .i64 ipl first = (i : Int) ∧ ilt (dlen W) (i : Int) = false ∧ ilt (i : Int) (dlen W) = true ∧ ile 0 (i : Int) = true ∧ ile (i : Int) (dlen W) = true ∧ ile (dlen W) (dlen W) = true ∧ ilt 0 (osub (dlen W) (i : Int)) = true ∧ oadd (i : Int) 0 = (i : Int) ∧ dat W (i : Int) = some b ∧ dcut W (i : Int) (oadd (i : Int) (osub (dlen W) (i : Int))) = W.drop i ∧ iadd .i64 ipl 1 = ipl + 1 ∧ dapp 1 ([] : List Int) b = some b ∧ recvS first W true it iop ipl id jlt jla jld = ⟨ipl, W.drop i, false, 0, 0, 0, [], it, ipl + 1, b, [⟨it, ipl + 1, b⟩]⟩) := by
  cases io with
  | false => exact .inl ⟨rfl, rfl⟩
  | true =>
    refine .inr ?_
    by_cases q1 : it = jlt
    · exact .inl ⟨rfl, ieq_iff.2 q1, by unfold recvS; rw [if_neg (by decide), if_pos q1]⟩
    refine .inr ?_
    have i1 : ieq it jlt = false := ieq_f.2 q1
    by_cases q2 : id ≠ []
    · exact .inl ⟨rfl, i1, ilt_iff.2 (by rw [dlen_def]; have := List.length_pos_iff.2 q2; omega), by unfold recvS; rw [if_neg (by decide), if_neg q1, if_pos q2]⟩
    refine .inr ?_
    have i2 : ilt 0 (dlen id) = false := by rw [Classical.not_not.1 q2]; rfl
    by_cases q3 : ipl < first
    · exact .inl ⟨rfl, i1, i2, ilt_iff.2 q3, by unfold recvS; rw [if_neg (by decide), if_neg q1, if_neg q2, if_pos (.inl q3)]⟩
    refine .inr ?_
    have i3 : ilt ipl first = false := ilt_f.2 (by omega)
    obtain ⟨i, hi⟩ : ∃ i : Nat, ipl - first = (i : Int) := ⟨(ipl - first).toNat, by omega⟩
    have i4 : isub .i64 ipl first = (i : Int) := by rw [isub64 (by omega)]; exact hi
    by_cases q4 : W.length < i
    · exact .inl ⟨i, rfl, i1, i2, i3, i4, ilt_iff.2 (by rw [dlen_def]; omega), by unfold recvS; rw [if_neg (by decide), if_neg q1, if_neg q2, if_pos (.inr (by omega))]⟩
    refine .inr ?_
    have i5 : ilt (dlen W) (i : Int) = false := ilt_f.2 (by rw [dlen_def]; omega)
    cases q5 : W[i]? with
    | none =>
      have hl : W.length ≤ i := List.getElem?_eq_none_iff.1 q5
      exact .inl ⟨i, rfl, i1, i2, i3, i4, i5, ilt_f.2 (by rw [dlen_def]; omega), by unfold recvS; rw [if_neg (by decide), if_neg q1, if_neg q2, if_neg (by omega), hi, Int.toNat_natCast, q5]⟩
    | some b =>
      have hl := getElem?_lt q5
      have hbf : Fr b := frB_iff.1 (w2 b (List.mem_of_getElem? q5))
      exact .inr ⟨i, b, rfl, i1, i2, i3, i4, i5, ilt_iff.2 (by rw [dlen_def]; omega), ile_iff.2 (by omega), ile_iff.2 (by rw [dlen_def]; omega), ile_iff.2 (Int.le_refl _), ilt_iff.2 (by rw [dlen_def]; unfold osub; omega), by unfold oadd; omega, by rw [dat_nat]; exact q5, cutk W (k := i) (by omega), iadd64 (by omega), clone12 (by omega) (by have := hbf.2; omega), by unfold recvS; rw [if_neg (by decide), if_neg q1, if_neg q2, if_neg (by omega), hi, Int.toNat_natCast, q5]⟩
theorem pre20 (H : Tk fu P now sent first fl wt oo ot oop opl od olt ola old io it iop ipl id jlt jla jld) : (s25 fu P now sent first fl wt oo ot oop opl od olt ola old io it iop ipl id jlt jla jld = some (true, ())) ∧ (ilt 1099511627712 (imax (imax now sent) first) = false) ∧ (dapp 32 [] fl = some fl) ∧ (dapp 24 [] wt = some wt) ∧ (s67 fu oo ot oop opl od olt ola old = some ((oo, ot, oop, opl, od, olt, ola, old, ()), ())) ∧ (s67 fu io it iop ipl id jlt jla jld = some ((io, it, iop, ipl, id, jlt, jla, jld, ()), ())) ∧ (iadd .i64 now 1 = now + 1) ∧ (iadd .i64 sent 1 = sent + 1) ∧ (∀ (T : TT) (B : BB), B.2.1 = now + 1 → iter (t20_5 fu) fu ((), ((), (T, (wt, (fl, (B, ())))))) = some (.inl ((), ((), (T, ((arrS (now + 1) fl wt).2, ((arrS (now + 1) fl wt).1, (B, ())))))))) ∧ (dapp 1 [] jld = some jld) ∧ (dapp 1 [] old = some old) ∧ ((arrS (now + 1) fl wt).2.length ≤ 64) ∧ (∀ b ∈ (arrS (now + 1) fl wt).2, frB b = true) ∧ ((arrS (now + 1) fl wt).1.length ≤ 400) ∧ (∀ f ∈ (arrS (now + 1) fl wt).1, now < f.Due ∧ f.Due ≤ now + 8) ∧ (Sf (arrS (now + 1) fl wt).1) ∧ (0 ≤ now ∧ now ≤ 1099511627712) ∧ (0 ≤ sent) ∧ (0 ≤ first) ∧ (first ≤ 1099511627776) := by
  obtain ⟨hfu, hv, m1, m2, m3, hP, sh, hipl⟩ := H
  have hvp := valid_p (fu := fu) (P := P) (now := now) (sent := sent) (first := first) (fl := fl) (wt := wt) (oo := oo) (ot := ot) (oop := oop) (opl := opl) (od := od) (olt := olt) (ola := ola) (old := old) (io := io) (it := it) (iop := iop) (ipl := ipl) (id := id) (jlt := jlt) (jla := jla) (jld := jld) hfu
  rw [hv] at hvp
  unfold validB at hv
  simp only [Bool.and_eq_true, decide_eq_true_eq] at hv
  obtain ⟨v1, v2, v3, v4, v5, v6, v7, v8, v9, v10⟩ := hv
  unfold numB at v2 v3 v4
  simp only [Bool.and_eq_true, decide_eq_true_eq] at v2 v3 v4
  obtain ⟨f1, f2⟩ := fl_iff.1 v7
  obtain ⟨n, a1, _, _⟩ := arrS_fl (now + 1) fl wt
  obtain ⟨w1, w2⟩ := arrS_wt (now + 1) (fun b => frB b = true) fl wt (fun f h => (f1 f h).1) (List.all_eq_true.1 v8) v6
  refine ⟨hvp, ilt_f.2 (imx (imx m1 m2) m3), clone12 (by omega) (by omega), clone12 (by omega) (by omega), s67_ok sh.od sh.old, s67_ok sh.id sh.jld, iadd64 (by omega), iadd64 (by omega), fun T B hB => arr_p (F := fu) (t := now + 1) T B hB fl wt fu (by omega) v5 v6, clone12 (by omega) sh.jld, clone12 (by omega) sh.old, w1, w2, ?_, ?_, ?_, ⟨v2.1, m1⟩, v3.1, v4.1, v4.2⟩
  · rw [a1, List.length_drop]; omega
  · intro f h
    rw [a1] at h
    have := f1 f (List.mem_of_mem_drop h)
    exact ⟨this.2.1, this.2.2⟩
  · rw [a1]
    exact List.Pairwise.sublist (List.drop_sublist _ _) f2
theorem tick_o0 (H : Tk fu P now sent first fl wt false ot oop opl od olt ola old io it iop ipl id jlt jla jld) : s20 fu P now sent first fl wt false ot oop opl od olt ola old io it iop ipl id jlt jla jld = some (tu P (now + 1) (sendS P (now + 1) sent (arrS (now + 1) fl wt).1 false ot oop opl od olt ola old).sent (recvS first (arrS (now + 1) fl wt).2 io it iop ipl id jlt jla jld).first (sendS P (now + 1) sent (arrS (now + 1) fl wt).1 false ot oop opl od olt ola old).fl (recvS first (arrS (now + 1) fl wt).2 io it iop ipl id jlt jla jld).wt (sendS P (now + 1) sent (arrS (now + 1) fl wt).1 false ot oop opl od olt ola old).o (sendS P (now + 1) sent (arrS (now + 1) fl wt).1 false ot oop opl od olt ola old).t (sendS P (now + 1) sent (arrS (now + 1) fl wt).1 false ot oop opl od olt ola old).op (sendS P (now + 1) sent (arrS (now + 1) fl wt).1 false ot oop opl od olt ola old).pl (sendS P (now + 1) sent (arrS (now + 1) fl wt).1 false ot oop opl od olt ola old).d (sendS P (now + 1) sent (arrS (now + 1) fl wt).1 false ot oop opl od olt ola old).lt (sendS P (now + 1) sent (arrS (now + 1) fl wt).1 false ot oop opl od olt ola old).la (sendS P (now + 1) sent (arrS (now + 1) fl wt).1 false ot oop opl od olt ola old).ld (recvS first (arrS (now + 1) fl wt).2 io it iop ipl id jlt jla jld).o (recvS first (arrS (now + 1) fl wt).2 io it iop ipl id jlt jla jld).t (recvS first (arrS (now + 1) fl wt).2 io it iop ipl id jlt jla jld).op (recvS first (arrS (now + 1) fl wt).2 io it iop ipl id jlt jla jld).pl (recvS first (arrS (now + 1) fl wt).2 io it iop ipl id jlt jla jld).d (recvS first (arrS (now + 1) fl wt).2 io it iop ipl id jlt jla jld).lt (recvS first (arrS (now + 1) fl wt).2 io it iop ipl id jlt jla jld).la (recvS first (arrS (now + 1) fl wt).2 io it iop ipl id jlt jla jld).ld, ((sendS P (now + 1) sent (arrS (now + 1) fl wt).1 false ot oop opl od olt ola old).ans ++ (recvS first (arrS (now + 1) fl wt).2 io it iop ipl id jlt jla jld).ans, ())) := by
  have hfu := H.fu_
  have hP := H.p
  have sh := H.sh
  have hipl := H.ipl_
  obtain ⟨hvp, hm, hc1, hc2, k1, k2, hn1, hs1, ha, cj, co, w1, w2, g1, g2, g3, n0, s0, r0, r1⟩ := pre20 H
  clear H
  generalize (arrS (now + 1) fl wt).1 = FL at *
  generalize (arrS (now + 1) fl wt).2 = W at *
  have hso : sendS P (now + 1) sent FL false ot oop opl od olt ola old = ⟨sent, FL, false, ot, oop, opl, od, olt, ola, old, []⟩ := rfl
  rcases rcase (io := io) (it := it) (iop := iop) (ipl := ipl) (id := id) (jlt := jlt) (jla := jla) (jld := jld) r0 r1 hipl w1 w2 with ⟨rfl, hro⟩ | ⟨rfl, i1, hro⟩ | ⟨rfl, i1, i2, hro⟩ | ⟨rfl, i1, i2, i3, hro⟩ | ⟨i, rfl, i1, i2, i3, i4, i5, hro⟩ | ⟨i, rfl, i1, i2, i3, i4, i5, i6, hro⟩ | ⟨i, b, rfl, i1, i2, i3, i4, i5, i6, i7, i8, i9, i10, i11, i12, i13, i14, i15, hro⟩ <;> rw [hso, hro] <;> unfold s20
  · simp only [hvp, hm, hc1, hc2, k1, k2, hn1, ha, cI0, cA1, cA2, cj, co, List.nil_append]
    try rfl
  · simp only [hvp, hm, hc1, hc2, k1, k2, hn1, ha, cI0, cA1, cA2, cj, co, List.nil_append, i1]
    try rfl
  · simp only [hvp, hm, hc1, hc2, k1, k2, hn1, ha, cI0, cA1, cA2, cj, co, List.nil_append, i1, i2]
    try rfl
  · simp only [hvp, hm, hc1, hc2, k1, k2, hn1, ha, cI0, cA1, cA2, cj, co, List.nil_append, i1, i2, i3]
    try rfl
  · simp only [hvp, hm, hc1, hc2, k1, k2, hn1, ha, cI0, cA1, cA2, cj, co, List.nil_append, i1, i2, i3, i4, i5]
    try rfl
  · simp only [hvp, hm, hc1, hc2, k1, k2, hn1, ha, cI0, cA1, cA2, cj, co, List.nil_append, i1, i2, i3, i4, i5, i6]
    try rfl
  · simp only [hvp, hm, hc1, hc2, k1, k2, hn1, ha, cI0, cA1, cA2, cj, co, List.nil_append, i1, i2, i3, i4, i5, i6, i7, i8, i9, i10, i11, i12, i13, i14, i15, show ile 0 0 = true from rfl]
    try rfl

theorem tick_o1 (H : Tk fu P now sent first fl wt true ot oop opl od olt ola old io it iop ipl id jlt jla jld) (p1 : ot = olt) : s20 fu P now sent first fl wt true ot oop opl od olt ola old io it iop ipl id jlt jla jld = some (tu P (now + 1) (sendS P (now + 1) sent (arrS (now + 1) fl wt).1 true ot oop opl od olt ola old).sent (recvS first (arrS (now + 1) fl wt).2 io it iop ipl id jlt jla jld).first (sendS P (now + 1) sent (arrS (now + 1) fl wt).1 true ot oop opl od olt ola old).fl (recvS first (arrS (now + 1) fl wt).2 io it iop ipl id jlt jla jld).wt (sendS P (now + 1) sent (arrS (now + 1) fl wt).1 true ot oop opl od olt ola old).o (sendS P (now + 1) sent (arrS (now + 1) fl wt).1 true ot oop opl od olt ola old).t (sendS P (now + 1) sent (arrS (now + 1) fl wt).1 true ot oop opl od olt ola old).op (sendS P (now + 1) sent (arrS (now + 1) fl wt).1 true ot oop opl od olt ola old).pl (sendS P (now + 1) sent (arrS (now + 1) fl wt).1 true ot oop opl od olt ola old).d (sendS P (now + 1) sent (arrS (now + 1) fl wt).1 true ot oop opl od olt ola old).lt (sendS P (now + 1) sent (arrS (now + 1) fl wt).1 true ot oop opl od olt ola old).la (sendS P (now + 1) sent (arrS (now + 1) fl wt).1 true ot oop opl od olt ola old).ld (recvS first (arrS (now + 1) fl wt).2 io it iop ipl id jlt jla jld).o (recvS first (arrS (now + 1) fl wt).2 io it iop ipl id jlt jla jld).t (recvS first (arrS (now + 1) fl wt).2 io it iop ipl id jlt jla jld).op (recvS first (arrS (now + 1) fl wt).2 io it iop ipl id jlt jla jld).pl (recvS first (arrS (now + 1) fl wt).2 io it iop ipl id jlt jla jld).d (recvS first (arrS (now + 1) fl wt).2 io it iop ipl id jlt jla jld).lt (recvS first (arrS (now + 1) fl wt).2 io it iop ipl id jlt jla jld).la (recvS first (arrS (now + 1) fl wt).2 io it iop ipl id jlt jla jld).ld, ((sendS P (now + 1) sent (arrS (now + 1) fl wt).1 true ot oop opl od olt ola old).ans ++ (recvS first (arrS (now + 1) fl wt).2 io it iop ipl id jlt jla jld).ans, ())) := by
  have hfu := H.fu_
  have hP := H.p
  have sh := H.sh
  have hipl := H.ipl_
  obtain ⟨hvp, hm, hc1, hc2, k1, k2, hn1, hs1, ha, cj, co, w1, w2, g1, g2, g3, n0, s0, r0, r1⟩ := pre20 H
  clear H
  generalize (arrS (now + 1) fl wt).1 = FL at *
  generalize (arrS (now + 1) fl wt).2 = W at *
  have o1 : ieq ot olt = true := ieq_iff.2 p1
  have hso : sendS P (now + 1) sent FL true ot oop opl od olt ola old = ⟨sent, FL, false, 0, 0, 0, [], olt, ola, old, [⟨olt, ola, old⟩]⟩ := by unfold sendS; rw [if_neg (by decide), if_pos p1]
  rcases rcase (io := io) (it := it) (iop := iop) (ipl := ipl) (id := id) (jlt := jlt) (jla := jla) (jld := jld) r0 r1 hipl w1 w2 with ⟨rfl, hro⟩ | ⟨rfl, i1, hro⟩ | ⟨rfl, i1, i2, hro⟩ | ⟨rfl, i1, i2, i3, hro⟩ | ⟨i, rfl, i1, i2, i3, i4, i5, hro⟩ | ⟨i, rfl, i1, i2, i3, i4, i5, i6, hro⟩ | ⟨i, b, rfl, i1, i2, i3, i4, i5, i6, i7, i8, i9, i10, i11, i12, i13, i14, i15, hro⟩ <;> rw [hso, hro] <;> unfold s20
  · simp only [hvp, hm, hc1, hc2, k1, k2, hn1, ha, cI0, cA1, cA2, cj, co, o1, List.cons_append, List.nil_append, List.append_nil]
    try rfl
  · simp only [hvp, hm, hc1, hc2, k1, k2, hn1, ha, cI0, cA1, cA2, cj, co, o1, List.cons_append, List.nil_append, List.append_nil, i1]
    try rfl
  · simp only [hvp, hm, hc1, hc2, k1, k2, hn1, ha, cI0, cA1, cA2, cj, co, o1, List.cons_append, List.nil_append, List.append_nil, i1, i2]
    try rfl
  · simp only [hvp, hm, hc1, hc2, k1, k2, hn1, ha, cI0, cA1, cA2, cj, co, o1, List.cons_append, List.nil_append, List.append_nil, i1, i2, i3]
    try rfl
  · simp only [hvp, hm, hc1, hc2, k1, k2, hn1, ha, cI0, cA1, cA2, cj, co, o1, List.cons_append, List.nil_append, List.append_nil, i1, i2, i3, i4, i5]
    try rfl
  · simp only [hvp, hm, hc1, hc2, k1, k2, hn1, ha, cI0, cA1, cA2, cj, co, o1, List.cons_append, List.nil_append, List.append_nil, i1, i2, i3, i4, i5, i6]
    try rfl
  · simp only [hvp, hm, hc1, hc2, k1, k2, hn1, ha, cI0, cA1, cA2, cj, co, o1, List.cons_append, List.nil_append, List.append_nil, i1, i2, i3, i4, i5, i6, i7, i8, i9, i10, i11, i12, i13, i14, i15, show ile 0 0 = true from rfl]
    try rfl

theorem tick_o2 (H : Tk fu P now sent first fl wt true ot oop opl od olt ola old io it iop ipl id jlt jla jld) (p1 : ot ≠ olt) (p2 : frB od = false) : s20 fu P now sent first fl wt true ot oop opl od olt ola old io it iop ipl id jlt jla jld = some (tu P (now + 1) (sendS P (now + 1) sent (arrS (now + 1) fl wt).1 true ot oop opl od olt ola old).sent (recvS first (arrS (now + 1) fl wt).2 io it iop ipl id jlt jla jld).first (sendS P (now + 1) sent (arrS (now + 1) fl wt).1 true ot oop opl od olt ola old).fl (recvS first (arrS (now + 1) fl wt).2 io it iop ipl id jlt jla jld).wt (sendS P (now + 1) sent (arrS (now + 1) fl wt).1 true ot oop opl od olt ola old).o (sendS P (now + 1) sent (arrS (now + 1) fl wt).1 true ot oop opl od olt ola old).t (sendS P (now + 1) sent (arrS (now + 1) fl wt).1 true ot oop opl od olt ola old).op (sendS P (now + 1) sent (arrS (now + 1) fl wt).1 true ot oop opl od olt ola old).pl (sendS P (now + 1) sent (arrS (now + 1) fl wt).1 true ot oop opl od olt ola old).d (sendS P (now + 1) sent (arrS (now + 1) fl wt).1 true ot oop opl od olt ola old).lt (sendS P (now + 1) sent (arrS (now + 1) fl wt).1 true ot oop opl od olt ola old).la (sendS P (now + 1) sent (arrS (now + 1) fl wt).1 true ot oop opl od olt ola old).ld (recvS first (arrS (now + 1) fl wt).2 io it iop ipl id jlt jla jld).o (recvS first (arrS (now + 1) fl wt).2 io it iop ipl id jlt jla jld).t (recvS first (arrS (now + 1) fl wt).2 io it iop ipl id jlt jla jld).op (recvS first (arrS (now + 1) fl wt).2 io it iop ipl id jlt jla jld).pl (recvS first (arrS (now + 1) fl wt).2 io it iop ipl id jlt jla jld).d (recvS first (arrS (now + 1) fl wt).2 io it iop ipl id jlt jla jld).lt (recvS first (arrS (now + 1) fl wt).2 io it iop ipl id jlt jla jld).la (recvS first (arrS (now + 1) fl wt).2 io it iop ipl id jlt jla jld).ld, ((sendS P (now + 1) sent (arrS (now + 1) fl wt).1 true ot oop opl od olt ola old).ans ++ (recvS first (arrS (now + 1) fl wt).2 io it iop ipl id jlt jla jld).ans, ())) := by
  have hfu := H.fu_
  have hP := H.p
  have sh := H.sh
  have hipl := H.ipl_
  obtain ⟨hvp, hm, hc1, hc2, k1, k2, hn1, hs1, ha, cj, co, w1, w2, g1, g2, g3, n0, s0, r0, r1⟩ := pre20 H
  clear H
  generalize (arrS (now + 1) fl wt).1 = FL at *
  generalize (arrS (now + 1) fl wt).2 = W at *
  have o1 : ieq ot olt = false := ieq_f.2 p1
  have o2 := s48_eq fu od
  rw [p2] at o2
  have hso : sendS P (now + 1) sent FL true ot oop opl od olt ola old = ⟨sent, FL, false, 0, 0, 0, [], ot, -1, [], [⟨ot, -1, []⟩]⟩ := by unfold sendS; rw [if_neg (by decide), if_neg p1, if_pos p2]
  rcases rcase (io := io) (it := it) (iop := iop) (ipl := ipl) (id := id) (jlt := jlt) (jla := jla) (jld := jld) r0 r1 hipl w1 w2 with ⟨rfl, hro⟩ | ⟨rfl, i1, hro⟩ | ⟨rfl, i1, i2, hro⟩ | ⟨rfl, i1, i2, i3, hro⟩ | ⟨i, rfl, i1, i2, i3, i4, i5, hro⟩ | ⟨i, rfl, i1, i2, i3, i4, i5, i6, hro⟩ | ⟨i, b, rfl, i1, i2, i3, i4, i5, i6, i7, i8, i9, i10, i11, i12, i13, i14, i15, hro⟩ <;> rw [hso, hro] <;> unfold s20
  · simp only [hvp, hm, hc1, hc2, k1, k2, hn1, ha, cI0, cA1, cA2, cj, co, o1, o2, List.cons_append, List.nil_append, List.append_nil]
    try rfl
  · simp only [hvp, hm, hc1, hc2, k1, k2, hn1, ha, cI0, cA1, cA2, cj, co, o1, o2, List.cons_append, List.nil_append, List.append_nil, i1]
    try rfl
  · simp only [hvp, hm, hc1, hc2, k1, k2, hn1, ha, cI0, cA1, cA2, cj, co, o1, o2, List.cons_append, List.nil_append, List.append_nil, i1, i2]
    try rfl
  · simp only [hvp, hm, hc1, hc2, k1, k2, hn1, ha, cI0, cA1, cA2, cj, co, o1, o2, List.cons_append, List.nil_append, List.append_nil, i1, i2, i3]
    try rfl
  · simp only [hvp, hm, hc1, hc2, k1, k2, hn1, ha, cI0, cA1, cA2, cj, co, o1, o2, List.cons_append, List.nil_append, List.append_nil, i1, i2, i3, i4, i5]
    try rfl
  · simp only [hvp, hm, hc1, hc2, k1, k2, hn1, ha, cI0, cA1, cA2, cj, co, o1, o2, List.cons_append, List.nil_append, List.append_nil, i1, i2, i3, i4, i5, i6]
    try rfl
  · simp only [hvp, hm, hc1, hc2, k1, k2, hn1, ha, cI0, cA1, cA2, cj, co, o1, o2, List.cons_append, List.nil_append, List.append_nil, i1, i2, i3, i4, i5, i6, i7, i8, i9, i10, i11, i12, i13, i14, i15, show ile 0 0 = true from rfl]
    try rfl

theorem tick_o3 (H : Tk fu P now sent first fl wt true ot oop opl od olt ola old io it iop ipl id jlt jla jld) (p1 : ot ≠ olt) (p2 : frB od = true) (p3 : P = []) (p4 : (arrS (now + 1) fl wt).1.length ≤ 398) : s20 fu P now sent first fl wt true ot oop opl od olt ola old io it iop ipl id jlt jla jld = some (tu P (now + 1) (sendS P (now + 1) sent (arrS (now + 1) fl wt).1 true ot oop opl od olt ola old).sent (recvS first (arrS (now + 1) fl wt).2 io it iop ipl id jlt jla jld).first (sendS P (now + 1) sent (arrS (now + 1) fl wt).1 true ot oop opl od olt ola old).fl (recvS first (arrS (now + 1) fl wt).2 io it iop ipl id jlt jla jld).wt (sendS P (now + 1) sent (arrS (now + 1) fl wt).1 true ot oop opl od olt ola old).o (sendS P (now + 1) sent (arrS (now + 1) fl wt).1 true ot oop opl od olt ola old).t (sendS P (now + 1) sent (arrS (now + 1) fl wt).1 true ot oop opl od olt ola old).op (sendS P (now + 1) sent (arrS (now + 1) fl wt).1 true ot oop opl od olt ola old).pl (sendS P (now + 1) sent (arrS (now + 1) fl wt).1 true ot oop opl od olt ola old).d (sendS P (now + 1) sent (arrS (now + 1) fl wt).1 true ot oop opl od olt ola old).lt (sendS P (now + 1) sent (arrS (now + 1) fl wt).1 true ot oop opl od olt ola old).la (sendS P (now + 1) sent (arrS (now + 1) fl wt).1 true ot oop opl od olt ola old).ld (recvS first (arrS (now + 1) fl wt).2 io it iop ipl id jlt jla jld).o (recvS first (arrS (now + 1) fl wt).2 io it iop ipl id jlt jla jld).t (recvS first (arrS (now + 1) fl wt).2 io it iop ipl id jlt jla jld).op (recvS first (arrS (now + 1) fl wt).2 io it iop ipl id jlt jla jld).pl (recvS first (arrS (now + 1) fl wt).2 io it iop ipl id jlt jla jld).d (recvS first (arrS (now + 1) fl wt).2 io it iop ipl id jlt jla jld).lt (recvS first (arrS (now + 1) fl wt).2 io it iop ipl id jlt jla jld).la (recvS first (arrS (now + 1) fl wt).2 io it iop ipl id jlt jla jld).ld, ((sendS P (now + 1) sent (arrS (now + 1) fl wt).1 true ot oop opl od olt ola old).ans ++ (recvS first (arrS (now + 1) fl wt).2 io it iop ipl id jlt jla jld).ans, ())) := by
  have hfu := H.fu_
  have hP := H.p
  have sh := H.sh
  have hipl := H.ipl_
  obtain ⟨hvp, hm, hc1, hc2, k1, k2, hn1, hs1, ha, cj, co, w1, w2, g1, g2, g3, n0, s0, r0, r1⟩ := pre20 H
  clear H
  generalize (arrS (now + 1) fl wt).1 = FL at *
  generalize (arrS (now + 1) fl wt).2 = W at *
  have o1 : ieq ot olt = false := ieq_f.2 p1
  have o2 := s48_eq fu od
  rw [p2] at o2
  have pa := patS_ok hP sent
  have al := arrL_ok pa.1 pa.2
  have o3 := s17_eq fu (patS P sent)
  subst p3
  have o4 : ilt 0 (dlen ([] : List Int)) = false := rfl
  rw [show patS [] sent = 0 from rfl] at o3 al
  have o7 : ile (dlen FL) 398 = true := ile_iff.2 (by rw [dlen_def]; omega)
  have o8 : ilt 398 (dlen FL) = false := ilt_f.2 (by rw [dlen_def]; omega)
  have hs := send_p (fu := fu) (by omega) (now := now + 1) (fl := FL) (w := W) (data := od) (l := (arrL 0)) g1 al.1 sh.od (by omega) (by omega) (fun f h => by have := g2 f h; have := n0.1; omega) (fun d h => by have := al.2 d h; omega) g3
  have hso : sendS [] (now + 1) sent FL true ot oop opl od olt ola old = ⟨sent + 1, (insAll (now + 1) od (arrL 0) FL), false, 0, 0, 0, [], ot, 0, [], [⟨ot, 0, []⟩]⟩ := by
    unfold sendS
    rw [if_neg (by decide), if_neg p1, if_neg (by rw [p2]; decide), if_pos (by omega)]
    rfl
  rcases rcase (io := io) (it := it) (iop := iop) (ipl := ipl) (id := id) (jlt := jlt) (jla := jla) (jld := jld) r0 r1 hipl w1 w2 with ⟨rfl, hro⟩ | ⟨rfl, i1, hro⟩ | ⟨rfl, i1, i2, hro⟩ | ⟨rfl, i1, i2, i3, hro⟩ | ⟨i, rfl, i1, i2, i3, i4, i5, hro⟩ | ⟨i, rfl, i1, i2, i3, i4, i5, i6, hro⟩ | ⟨i, b, rfl, i1, i2, i3, i4, i5, i6, i7, i8, i9, i10, i11, i12, i13, i14, i15, hro⟩ <;> rw [hso, hro] <;> unfold s20
  · simp only [hvp, hm, hc1, hc2, k1, k2, hn1, ha, cI0, cA1, cA2, cj, co, o1, o2, o3, o4, hs1, List.cons_append, List.nil_append, List.append_nil, hs, t299', o7, o8]
    try rfl
  · simp only [hvp, hm, hc1, hc2, k1, k2, hn1, ha, cI0, cA1, cA2, cj, co, o1, o2, o3, o4, hs1, List.cons_append, List.nil_append, List.append_nil, hs, t299', o7, o8, i1]
    try rfl
  · simp only [hvp, hm, hc1, hc2, k1, k2, hn1, ha, cI0, cA1, cA2, cj, co, o1, o2, o3, o4, hs1, List.cons_append, List.nil_append, List.append_nil, hs, t299', o7, o8, i1, i2]
    try rfl
  · simp only [hvp, hm, hc1, hc2, k1, k2, hn1, ha, cI0, cA1, cA2, cj, co, o1, o2, o3, o4, hs1, List.cons_append, List.nil_append, List.append_nil, hs, t299', o7, o8, i1, i2, i3]
    try rfl
  · simp only [hvp, hm, hc1, hc2, k1, k2, hn1, ha, cI0, cA1, cA2, cj, co, o1, o2, o3, o4, hs1, List.cons_append, List.nil_append, List.append_nil, hs, t299', o7, o8, i1, i2, i3, i4, i5]
    try rfl
  · simp only [hvp, hm, hc1, hc2, k1, k2, hn1, ha, cI0, cA1, cA2, cj, co, o1, o2, o3, o4, hs1, List.cons_append, List.nil_append, List.append_nil, hs, t299', o7, o8, i1, i2, i3, i4, i5, i6]
    try rfl
  · simp only [hvp, hm, hc1, hc2, k1, k2, hn1, ha, cI0, cA1, cA2, cj, co, o1, o2, o3, o4, hs1, List.cons_append, List.nil_append, List.append_nil, hs, t299', o7, o8, i1, i2, i3, i4, i5, i6, i7, i8, i9, i10, i11, i12, i13, i14, i15, show ile 0 0 = true from rfl]
    try rfl

theorem tick_o4 (H : Tk fu P now sent first fl wt true ot oop opl od olt ola old io it iop ipl id jlt jla jld) (p1 : ot ≠ olt) (p2 : frB od = true) (p3 : P = []) (p4 : 398 < (arrS (now + 1) fl wt).1.length) : s20 fu P now sent first fl wt true ot oop opl od olt ola old io it iop ipl id jlt jla jld = some (tu P (now + 1) (sendS P (now + 1) sent (arrS (now + 1) fl wt).1 true ot oop opl od olt ola old).sent (recvS first (arrS (now + 1) fl wt).2 io it iop ipl id jlt jla jld).first (sendS P (now + 1) sent (arrS (now + 1) fl wt).1 true ot oop opl od olt ola old).fl (recvS first (arrS (now + 1) fl wt).2 io it iop ipl id jlt jla jld).wt (sendS P (now + 1) sent (arrS (now + 1) fl wt).1 true ot oop opl od olt ola old).o (sendS P (now + 1) sent (arrS (now + 1) fl wt).1 true ot oop opl od olt ola old).t (sendS P (now + 1) sent (arrS (now + 1) fl wt).1 true ot oop opl od olt ola old).op (sendS P (now + 1) sent (arrS (now + 1) fl wt).1 true ot oop opl od olt ola old).pl (sendS P (now + 1) sent (arrS (now + 1) fl wt).1 true ot oop opl od olt ola old).d (sendS P (now + 1) sent (arrS (now + 1) fl wt).1 true ot oop opl od olt ola old).lt (sendS P (now + 1) sent (arrS (now + 1) fl wt).1 true ot oop opl od olt ola old).la (sendS P (now + 1) sent (arrS (now + 1) fl wt).1 true ot oop opl od olt ola old).ld (recvS first (arrS (now + 1) fl wt).2 io it iop ipl id jlt jla jld).o (recvS first (arrS (now + 1) fl wt).2 io it iop ipl id jlt jla jld).t (recvS first (arrS (now + 1) fl wt).2 io it iop ipl id jlt jla jld).op (recvS first (arrS (now + 1) fl wt).2 io it iop ipl id jlt jla jld).pl (recvS first (arrS (now + 1) fl wt).2 io it iop ipl id jlt jla jld).d (recvS first (arrS (now + 1) fl wt).2 io it iop ipl id jlt jla jld).lt (recvS first (arrS (now + 1) fl wt).2 io it iop ipl id jlt jla jld).la (recvS first (arrS (now + 1) fl wt).2 io it iop ipl id jlt jla jld).ld, ((sendS P (now + 1) sent (arrS (now + 1) fl wt).1 true ot oop opl od olt ola old).ans ++ (recvS first (arrS (now + 1) fl wt).2 io it iop ipl id jlt jla jld).ans, ())) := by
  have hfu := H.fu_
  have hP := H.p
  have sh := H.sh
  have hipl := H.ipl_
  obtain ⟨hvp, hm, hc1, hc2, k1, k2, hn1, hs1, ha, cj, co, w1, w2, g1, g2, g3, n0, s0, r0, r1⟩ := pre20 H
  clear H
  generalize (arrS (now + 1) fl wt).1 = FL at *
  generalize (arrS (now + 1) fl wt).2 = W at *
  have o1 : ieq ot olt = false := ieq_f.2 p1
  have o2 := s48_eq fu od
  rw [p2] at o2
  have pa := patS_ok hP sent
  have al := arrL_ok pa.1 pa.2
  have o3 := s17_eq fu (patS P sent)
  subst p3
  have o4 : ilt 0 (dlen ([] : List Int)) = false := rfl
  rw [show patS [] sent = 0 from rfl] at o3 al
  have o7 : ile (dlen FL) 398 = false := ile_f.2 (by rw [dlen_def]; omega)
  have o8 : ilt 398 (dlen FL) = true := ilt_iff.2 (by rw [dlen_def]; omega)
  have hso : sendS [] (now + 1) sent FL true ot oop opl od olt ola old = ⟨sent + 1, FL, false, 0, 0, 0, [], ot, 0, [], [⟨ot, 0, []⟩]⟩ := by
    unfold sendS
    rw [if_neg (by decide), if_neg p1, if_neg (by rw [p2]; decide), if_neg (by omega)]
  rcases rcase (io := io) (it := it) (iop := iop) (ipl := ipl) (id := id) (jlt := jlt) (jla := jla) (jld := jld) r0 r1 hipl w1 w2 with ⟨rfl, hro⟩ | ⟨rfl, i1, hro⟩ | ⟨rfl, i1, i2, hro⟩ | ⟨rfl, i1, i2, i3, hro⟩ | ⟨i, rfl, i1, i2, i3, i4, i5, hro⟩ | ⟨i, rfl, i1, i2, i3, i4, i5, i6, hro⟩ | ⟨i, b, rfl, i1, i2, i3, i4, i5, i6, i7, i8, i9, i10, i11, i12, i13, i14, i15, hro⟩ <;> rw [hso, hro] <;> unfold s20
  · simp only [hvp, hm, hc1, hc2, k1, k2, hn1, ha, cI0, cA1, cA2, cj, co, o1, o2, o3, o4, hs1, List.cons_append, List.nil_append, List.append_nil, o7, o8]
    try rfl
  · simp only [hvp, hm, hc1, hc2, k1, k2, hn1, ha, cI0, cA1, cA2, cj, co, o1, o2, o3, o4, hs1, List.cons_append, List.nil_append, List.append_nil, o7, o8, i1]
    try rfl
  · simp only [hvp, hm, hc1, hc2, k1, k2, hn1, ha, cI0, cA1, cA2, cj, co, o1, o2, o3, o4, hs1, List.cons_append, List.nil_append, List.append_nil, o7, o8, i1, i2]
    try rfl
  · simp only [hvp, hm, hc1, hc2, k1, k2, hn1, ha, cI0, cA1, cA2, cj, co, o1, o2, o3, o4, hs1, List.cons_append, List.nil_append, List.append_nil, o7, o8, i1, i2, i3]
    try rfl
  · simp only [hvp, hm, hc1, hc2, k1, k2, hn1, ha, cI0, cA1, cA2, cj, co, o1, o2, o3, o4, hs1, List.cons_append, List.nil_append, List.append_nil, o7, o8, i1, i2, i3, i4, i5]
    try rfl
  · simp only [hvp, hm, hc1, hc2, k1, k2, hn1, ha, cI0, cA1, cA2, cj, co, o1, o2, o3, o4, hs1, List.cons_append, List.nil_append, List.append_nil, o7, o8, i1, i2, i3, i4, i5, i6]
    try rfl
  · simp only [hvp, hm, hc1, hc2, k1, k2, hn1, ha, cI0, cA1, cA2, cj, co, o1, o2, o3, o4, hs1, List.cons_append, List.nil_append, List.append_nil, o7, o8, i1, i2, i3, i4, i5, i6, i7, i8, i9, i10, i11, i12, i13, i14, i15, show ile 0 0 = true from rfl]
    try rfl

theorem tick_o5 (H : Tk fu P now sent first fl wt true ot oop opl od olt ola old io it iop ipl id jlt jla jld) (p1 : ot ≠ olt) (p2 : frB od = true) (p3 : P ≠ []) (p4 : (arrS (now + 1) fl wt).1.length ≤ 398) : s20 fu P now sent first fl wt true ot oop opl od olt ola old io it iop ipl id jlt jla jld = some (tu P (now + 1) (sendS P (now + 1) sent (arrS (now + 1) fl wt).1 true ot oop opl od olt ola old).sent (recvS first (arrS (now + 1) fl wt).2 io it iop ipl id jlt jla jld).first (sendS P (now + 1) sent (arrS (now + 1) fl wt).1 true ot oop opl od olt ola old).fl (recvS first (arrS (now + 1) fl wt).2 io it iop ipl id jlt jla jld).wt (sendS P (now + 1) sent (arrS (now + 1) fl wt).1 true ot oop opl od olt ola old).o (sendS P (now + 1) sent (arrS (now + 1) fl wt).1 true ot oop opl od olt ola old).t (sendS P (now + 1) sent (arrS (now + 1) fl wt).1 true ot oop opl od olt ola old).op (sendS P (now + 1) sent (arrS (now + 1) fl wt).1 true ot oop opl od olt ola old).pl (sendS P (now + 1) sent (arrS (now + 1) fl wt).1 true ot oop opl od olt ola old).d (sendS P (now + 1) sent (arrS (now + 1) fl wt).1 true ot oop opl od olt ola old).lt (sendS P (now + 1) sent (arrS (now + 1) fl wt).1 true ot oop opl od olt ola old).la (sendS P (now + 1) sent (arrS (now + 1) fl wt).1 true ot oop opl od olt ola old).ld (recvS first (arrS (now + 1) fl wt).2 io it iop ipl id jlt jla jld).o (recvS first (arrS (now + 1) fl wt).2 io it iop ipl id jlt jla jld).t (recvS first (arrS (now + 1) fl wt).2 io it iop ipl id jlt jla jld).op (recvS first (arrS (now + 1) fl wt).2 io it iop ipl id jlt jla jld).pl (recvS first (arrS (now + 1) fl wt).2 io it iop ipl id jlt jla jld).d (recvS first (arrS (now + 1) fl wt).2 io it iop ipl id jlt jla jld).lt (recvS first (arrS (now + 1) fl wt).2 io it iop ipl id jlt jla jld).la (recvS first (arrS (now + 1) fl wt).2 io it iop ipl id jlt jla jld).ld, ((sendS P (now + 1) sent (arrS (now + 1) fl wt).1 true ot oop opl od olt ola old).ans ++ (recvS first (arrS (now + 1) fl wt).2 io it iop ipl id jlt jla jld).ans, ())) := by
  have hfu := H.fu_
  have hP := H.p
  have sh := H.sh
  have hipl := H.ipl_
  obtain ⟨hvp, hm, hc1, hc2, k1, k2, hn1, hs1, ha, cj, co, w1, w2, g1, g2, g3, n0, s0, r0, r1⟩ := pre20 H
  clear H
  generalize (arrS (now + 1) fl wt).1 = FL at *
  generalize (arrS (now + 1) fl wt).2 = W at *
  have o1 : ieq ot olt = false := ieq_f.2 p1
  have o2 := s48_eq fu od
  rw [p2] at o2
  have pa := patS_ok hP sent
  have al := arrL_ok pa.1 pa.2
  have o3 := s17_eq fu (patS P sent)
  have o4 : ilt 0 (dlen P) = true := ilt_iff.2 (by rw [dlen_def]; have := List.length_pos_iff.2 p3; omega)
  have o5 : ieq (dlen P) 0 = false := ieq_f.2 (by rw [dlen_def]; have := List.length_pos_iff.2 p3; omega)
  have o6 := pat_dat p3 (sent := sent) s0
  have o7 : ile (dlen FL) 398 = true := ile_iff.2 (by rw [dlen_def]; omega)
  have o8 : ilt 398 (dlen FL) = false := ilt_f.2 (by rw [dlen_def]; omega)
  have hs := send_p (fu := fu) (by omega) (now := now + 1) (fl := FL) (w := W) (data := od) (l := (arrL (patS P sent))) g1 al.1 sh.od (by omega) (by omega) (fun f h => by have := g2 f h; have := n0.1; omega) (fun d h => by have := al.2 d h; omega) g3
  have hso : sendS P (now + 1) sent FL true ot oop opl od olt ola old = ⟨sent + 1, (insAll (now + 1) od (arrL (patS P sent)) FL), false, 0, 0, 0, [], ot, 0, [], [⟨ot, 0, []⟩]⟩ := by
    unfold sendS
    rw [if_neg (by decide), if_neg p1, if_neg (by rw [p2]; decide), if_pos (by omega)]
  rcases rcase (io := io) (it := it) (iop := iop) (ipl := ipl) (id := id) (jlt := jlt) (jla := jla) (jld := jld) r0 r1 hipl w1 w2 with ⟨rfl, hro⟩ | ⟨rfl, i1, hro⟩ | ⟨rfl, i1, i2, hro⟩ | ⟨rfl, i1, i2, i3, hro⟩ | ⟨i, rfl, i1, i2, i3, i4, i5, hro⟩ | ⟨i, rfl, i1, i2, i3, i4, i5, i6, hro⟩ | ⟨i, b, rfl, i1, i2, i3, i4, i5, i6, i7, i8, i9, i10, i11, i12, i13, i14, i15, hro⟩ <;> rw [hso, hro] <;> unfold s20
  · simp only [hvp, hm, hc1, hc2, k1, k2, hn1, ha, cI0, cA1, cA2, cj, co, o1, o2, o3, o4, o5, o6, hs1, List.cons_append, List.nil_append, List.append_nil, hs, t299', o7, o8]
    try rfl
  · simp only [hvp, hm, hc1, hc2, k1, k2, hn1, ha, cI0, cA1, cA2, cj, co, o1, o2, o3, o4, o5, o6, hs1, List.cons_append, List.nil_append, List.append_nil, hs, t299', o7, o8, i1]
    try rfl
  · simp only [hvp, hm, hc1, hc2, k1, k2, hn1, ha, cI0, cA1, cA2, cj, co, o1, o2, o3, o4, o5, o6, hs1, List.cons_append, List.nil_append, List.append_nil, hs, t299', o7, o8, i1, i2]
    try rfl
  · simp only [hvp, hm, hc1, hc2, k1, k2, hn1, ha, cI0, cA1, cA2, cj, co, o1, o2, o3, o4, o5, o6, hs1, List.cons_append, List.nil_append, List.append_nil, hs, t299', o7, o8, i1, i2, i3]
    try rfl
  · simp only [hvp, hm, hc1, hc2, k1, k2, hn1, ha, cI0, cA1, cA2, cj, co, o1, o2, o3, o4, o5, o6, hs1, List.cons_append, List.nil_append, List.append_nil, hs, t299', o7, o8, i1, i2, i3, i4, i5]
    try rfl
  · simp only [hvp, hm, hc1, hc2, k1, k2, hn1, ha, cI0, cA1, cA2, cj, co, o1, o2, o3, o4, o5, o6, hs1, List.cons_append, List.nil_append, List.append_nil, hs, t299', o7, o8, i1, i2, i3, i4, i5, i6]
    try rfl
  · simp only [hvp, hm, hc1, hc2, k1, k2, hn1, ha, cI0, cA1, cA2, cj, co, o1, o2, o3, o4, o5, o6, hs1, List.cons_append, List.nil_append, List.append_nil, hs, t299', o7, o8, i1, i2, i3, i4, i5, i6, i7, i8, i9, i10, i11, i12, i13, i14, i15, show ile 0 0 = true from rfl]
    try rfl

theorem tick_o6 (H : Tk fu P now sent first fl wt true ot oop opl od olt ola old io it iop ipl id jlt jla jld) (p1 : ot ≠ olt) (p2 : frB od = true) (p3 : P ≠ []) (p4 : 398 < (arrS (now + 1) fl wt).1.length) : s20 fu P now sent first fl wt true ot oop opl od olt ola old io it iop ipl id jlt jla jld = some (tu P (now + 1) (sendS P (now + 1) sent (arrS (now + 1) fl wt).1 true ot oop opl od olt ola old).sent (recvS first (arrS (now + 1) fl wt).2 io it iop ipl id jlt jla jld).first (sendS P (now + 1) sent (arrS (now + 1) fl wt).1 true ot oop opl od olt ola old).fl (recvS first (arrS (now + 1) fl wt).2 io it iop ipl id jlt jla jld).wt (sendS P (now + 1) sent (arrS (now + 1) fl wt).1 true ot oop opl od olt ola old).o (sendS P (now + 1) sent (arrS (now + 1) fl wt).1 true ot oop opl od olt ola old).t (sendS P (now + 1) sent (arrS (now + 1) fl wt).1 true ot oop opl od olt ola old).op (sendS P (now + 1) sent (arrS (now + 1) fl wt).1 true ot oop opl od olt ola old).pl (sendS P (now + 1) sent (arrS (now + 1) fl wt).1 true ot oop opl od olt ola old).d (sendS P (now + 1) sent (arrS (now + 1) fl wt).1 true ot oop opl od olt ola old).lt (sendS P (now + 1) sent (arrS (now + 1) fl wt).1 true ot oop opl od olt ola old).la (sendS P (now + 1) sent (arrS (now + 1) fl wt).1 true ot oop opl od olt ola old).ld (recvS first (arrS (now + 1) fl wt).2 io it iop ipl id jlt jla jld).o (recvS first (arrS (now + 1) fl wt).2 io it iop ipl id jlt jla jld).t (recvS first (arrS (now + 1) fl wt).2 io it iop ipl id jlt jla jld).op (recvS first (arrS (now + 1) fl wt).2 io it iop ipl id jlt jla jld).pl (recvS first (arrS (now + 1) fl wt).2 io it iop ipl id jlt jla jld).d (recvS first (arrS (now + 1) fl wt).2 io it iop ipl id jlt jla jld).lt (recvS first (arrS (now + 1) fl wt).2 io it iop ipl id jlt jla jld).la (recvS first (arrS (now + 1) fl wt).2 io it iop ipl id jlt jla jld).ld, ((sendS P (now + 1) sent (arrS (now + 1) fl wt).1 true ot oop opl od olt ola old).ans ++ (recvS first (arrS (now + 1) fl wt).2 io it iop ipl id jlt jla jld).ans, ())) := by
  have hfu := H.fu_
  have hP := H.p
  have sh := H.sh
  have hipl := H.ipl_
  obtain ⟨hvp, hm, hc1, hc2, k1, k2, hn1, hs1, ha, cj, co, w1, w2, g1, g2, g3, n0, s0, r0, r1⟩ := pre20 H
  clear H
  generalize (arrS (now + 1) fl wt).1 = FL at *
  generalize (arrS (now + 1) fl wt).2 = W at *
  have o1 : ieq ot olt = false := ieq_f.2 p1
  have o2 := s48_eq fu od
  rw [p2] at o2
  have pa := patS_ok hP sent
  have al := arrL_ok pa.1 pa.2
  have o3 := s17_eq fu (patS P sent)
  have o4 : ilt 0 (dlen P) = true := ilt_iff.2 (by rw [dlen_def]; have := List.length_pos_iff.2 p3; omega)
  have o5 : ieq (dlen P) 0 = false := ieq_f.2 (by rw [dlen_def]; have := List.length_pos_iff.2 p3; omega)
  have o6 := pat_dat p3 (sent := sent) s0
  have o7 : ile (dlen FL) 398 = false := ile_f.2 (by rw [dlen_def]; omega)
  have o8 : ilt 398 (dlen FL) = true := ilt_iff.2 (by rw [dlen_def]; omega)
  have hso : sendS P (now + 1) sent FL true ot oop opl od olt ola old = ⟨sent + 1, FL, false, 0, 0, 0, [], ot, 0, [], [⟨ot, 0, []⟩]⟩ := by
    unfold sendS
    rw [if_neg (by decide), if_neg p1, if_neg (by rw [p2]; decide), if_neg (by omega)]
  rcases rcase (io := io) (it := it) (iop := iop) (ipl := ipl) (id := id) (jlt := jlt) (jla := jla) (jld := jld) r0 r1 hipl w1 w2 with ⟨rfl, hro⟩ | ⟨rfl, i1, hro⟩ | ⟨rfl, i1, i2, hro⟩ | ⟨rfl, i1, i2, i3, hro⟩ | ⟨i, rfl, i1, i2, i3, i4, i5, hro⟩ | ⟨i, rfl, i1, i2, i3, i4, i5, i6, hro⟩ | ⟨i, b, rfl, i1, i2, i3, i4, i5, i6, i7, i8, i9, i10, i11, i12, i13, i14, i15, hro⟩ <;> rw [hso, hro] <;> unfold s20
  · simp only [hvp, hm, hc1, hc2, k1, k2, hn1, ha, cI0, cA1, cA2, cj, co, o1, o2, o3, o4, o5, o6, hs1, List.cons_append, List.nil_append, List.append_nil, o7, o8]
    try rfl
  · simp only [hvp, hm, hc1, hc2, k1, k2, hn1, ha, cI0, cA1, cA2, cj, co, o1, o2, o3, o4, o5, o6, hs1, List.cons_append, List.nil_append, List.append_nil, o7, o8, i1]
    try rfl
  · simp only [hvp, hm, hc1, hc2, k1, k2, hn1, ha, cI0, cA1, cA2, cj, co, o1, o2, o3, o4, o5, o6, hs1, List.cons_append, List.nil_append, List.append_nil, o7, o8, i1, i2]
    try rfl
  · simp only [hvp, hm, hc1, hc2, k1, k2, hn1, ha, cI0, cA1, cA2, cj, co, o1, o2, o3, o4, o5, o6, hs1, List.cons_append, List.nil_append, List.append_nil, o7, o8, i1, i2, i3]
    try rfl
  · simp only [hvp, hm, hc1, hc2, k1, k2, hn1, ha, cI0, cA1, cA2, cj, co, o1, o2, o3, o4, o5, o6, hs1, List.cons_append, List.nil_append, List.append_nil, o7, o8, i1, i2, i3, i4, i5]
    try rfl
  · simp only [hvp, hm, hc1, hc2, k1, k2, hn1, ha, cI0, cA1, cA2, cj, co, o1, o2, o3, o4, o5, o6, hs1, List.cons_append, List.nil_append, List.append_nil, o7, o8, i1, i2, i3, i4, i5, i6]
    try rfl
  · simp only [hvp, hm, hc1, hc2, k1, k2, hn1, ha, cI0, cA1, cA2, cj, co, o1, o2, o3, o4, o5, o6, hs1, List.cons_append, List.nil_append, List.append_nil, o7, o8, i1, i2, i3, i4, i5, i6, i7, i8, i9, i10, i11, i12, i13, i14, i15, show ile 0 0 = true from rfl]
    try rfl

end
end Go.G
