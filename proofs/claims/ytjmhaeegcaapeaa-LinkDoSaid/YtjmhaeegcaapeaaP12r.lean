import Derived.Test.YtjmhaeegcaapeaaP12q
import Derived.Test.YtjmhaeegcaapeaaOn12L9
set_option linter.unusedVariables false
set_option linter.unusedSimpArgs false
namespace Go.G
set_option maxRecDepth 100000
theorem by_nil : By [] := fun _ h => absurd h (List.not_mem_nil)
theorem wf_by {l : List Int} (h : WfD C12 (.sl U12.u8 l)) : By l ∧ l.length ≤ 9223372036854775807 := by
  obtain ⟨h1, h2⟩ := h.of_sl
  exact ⟨fun x hx => wfd_u8 (h2 x hx (.int .u8 x) (.head _)), h1⟩
theorem wf_fl {l : List Flight12} (h : WfD C12 (.sl U12.flight l)) : l.length * 32 ≤ 140737488351232 ∧ ∀ f ∈ l, By f.Data ∧ f.Data.length ≤ 9223372036854775807 := by
  refine ⟨h.room, fun f hf => ?_⟩
  exact wf_by (h.of_sl.2 f hf (.sl U12.u8 f.Data) (.tail _ (.head _)))
theorem wf_wt {l : List (List Int)} (h : WfD C12 (.sl U12.sl_u8 l)) : l.length * 24 ≤ 140737488351232 ∧ ∀ b ∈ l, By b ∧ b.length ≤ 9223372036854775807 := by
  refine ⟨h.room, fun b hb => ?_⟩
  exact wf_by (h.of_sl.2 b hb (.sl U12.u8 b) (.head _))
theorem take_valid {o : Bool} {t op pl : Int} {d : List Int} {lt xt xop xpl : Int} {xd : List Int} {ch : Int} (he : tkE o t lt xt = 0) (hp : prB xt ch = true) (hv : chB o t op pl d lt ch = true) : chB (tkC o t op pl d lt xt xop xpl xd).1 (tkC o t op pl d lt xt xop xpl xd).2.1 (tkC o t op pl d lt xt xop xpl xd).2.2.1 (tkC o t op pl d lt xt xop xpl xd).2.2.2.1 (tkC o t op pl d lt xt xop xpl xd).2.2.2.2 lt ch = true := by
  cases o with
  | true => exact hv
  | false =>
    have h1 : ¬ xt < lt := by
      intro h
      simp [tkE, h] at he
    unfold chB at hv ⊢
    rw [Bool.and_eq_true] at hv ⊢
    refine ⟨hv.1, ?_⟩
    unfold tkC
    by_cases h2 : xt = lt
    · subst h2; simp [hp]
    · simp [h2, hp]; omega
theorem take_by {o : Bool} {t op pl : Int} {d : List Int} {lt xt xop xpl : Int} {xd : List Int} (h1 : By d ∧ d.length ≤ 1000) (h2 : By xd ∧ xd.length ≤ 1000) : By (tkC o t op pl d lt xt xop xpl xd).2.2.2.2 ∧ (tkC o t op pl d lt xt xop xpl xd).2.2.2.2.length ≤ 1000 := by
  unfold tkC
  cases o with
  | true => exact h1
  | false =>
    by_cases h3 : xt = lt
    · simp only [if_pos h3]
      exact ⟨by_nil, Nat.zero_le _⟩
    · simp only [if_neg h3]
      exact h2
structure Fine (P : List Int) (fl : List Flight12) (wt : List (List Int)) (od old id jld : List Int) : Prop where
  by_ : BySt P fl wt od old id jld
  pn : P.length ≤ 1000
  fln : fl.length * 32 ≤ 140737488351232
  wtn : wt.length * 24 ≤ 140737488351232
  fd : ∀ f ∈ fl, f.Data.length ≤ 9223372036854775807
  wd : ∀ b ∈ wt, b.length ≤ 9223372036854775807
  odn : od.length ≤ 1000
  oldn : old.length ≤ 1000
  idn : id.length ≤ 1000
  jldn : jld.length ≤ 1000
theorem fine0 : Fine [] [] [] [] [] [] [] := ⟨⟨by_nil, fun _ h => absurd h List.not_mem_nil, fun _ h => absurd h List.not_mem_nil, by_nil, by_nil, by_nil, by_nil⟩, Nat.zero_le _, Nat.zero_le _, Nat.zero_le _, fun _ h => absurd h List.not_mem_nil, fun _ h => absurd h List.not_mem_nil, Nat.zero_le _, Nat.zero_le _, Nat.zero_le _, Nat.zero_le _⟩
section
variable {fu : Nat} {P P' : List Int} {now sent first now' sent' first' : Int} {fl fl' : List Flight12} {wt wt' : List (List Int)} {oo oo' : Bool} {ot oop opl ot' oop' opl' : Int} {od od' : List Int} {olt ola olt' ola' : Int} {old old' : List Int} {io io' : Bool} {it iop ipl it' iop' ipl' : Int} {id id' : List Int} {jlt jla jlt' jla' : Int} {jld jld' : List Int} {xt xop xpl e : Int} {xd : List Int}
theorem link_fin (hf : 9223372036854775807 < fu) (ha : s11 fu = some (true, ())) (h19 : s19 fu P now sent first fl wt oo ot oop opl od 0 olt ola old io it iop ipl id 0 jlt jla jld xt xop xpl xd = some (true, ())) (hS : Fine P fl wt od old id jld) (hA : Fine P' fl' wt' od' old' id' jld')
    (h26 : s26 fu P now sent first fl wt oo ot oop opl od olt ola old io it iop ipl id jlt jla jld xt xop xpl xd = some (tu P' now' sent' first' fl' wt' oo' ot' oop' opl' od' olt' ola' old' io' it' iop' ipl' id' jlt' jla' jld', (e, ()))) (h30 : s30 fu P now sent first fl wt oo ot oop opl od 0 olt ola old io it iop ipl id 0 jlt jla jld xt xop xpl xd = some (tv P' now' sent' first' fl' wt' oo' ot' oop' opl' od' 0 olt' ola' old' io' it' iop' ipl' id' 0 jlt' jla' jld', (e, ())))
    (hv : e = 0 → validB P' now' sent' first' fl' wt' oo' ot' oop' opl' od' olt' io' it' iop' ipl' id' jlt' = true) : s9 fu P now sent first fl wt oo ot oop opl od 0 olt ola old io it iop ipl id 0 jlt jla jld xt xop xpl xd = some (true, ()) := by
  have b1 := hS.fln
  have b2 := hS.wtn
  have b3 := hA.fln
  have b4 := hA.wtn
  have c1 := hS.odn
  have c2 := hS.oldn
  have c3 := hS.idn
  have c4 := hS.jldn
  have c5 := hS.pn
  have d1 := hA.odn
  have d2 := hA.oldn
  have d3 := hA.idn
  have d4 := hA.jldn
  have d5 := hA.pn
  have e1 := to_eq (fu := fu) (P := P) (now := now) (sent := sent) (first := first) (fl := fl) (wt := wt) (oo := oo) (ot := ot) (oop := oop) (opl := opl) (od := od) (ol := 0) (olt := olt) (ola := ola) (old := old) (io := io) (it := it) (iop := iop) (ipl := ipl) (id := id) (il := 0) (jlt := jlt) (jla := jla) (jld := jld) (by omega) b1
  have e2 := from_eq (fu := fu) (P := P') (now := now') (sent := sent') (first := first') (fl := fl') (wt := wt') (oo := oo') (ot := ot') (oop := oop') (opl := opl') (od := od') (olt := olt') (ola := ola') (old := old') (io := io') (it := it') (iop := iop') (ipl := ipl') (id := id') (jlt := jlt') (jla := jla') (jld := jld') (by omega) b3
  have e3 := equal_r (fu := fu) (P := P') (now := now') (sent := sent') (first := first') (fl := fl') (wt := wt') (oo := oo') (ot := ot') (oop := oop') (opl := opl') (od := od') (olt := olt') (ola := ola') (old := old') (io := io') (it := it') (iop := iop') (ipl := ipl') (id := id') (jlt := jlt') (jla := jla') (jld := jld') (P' := P') (now' := now') (sent' := sent') (first' := first') (fl' := fl') (wt' := wt') (oo' := oo') (ot' := ot') (oop' := oop') (opl' := opl') (od' := od') (olt' := olt') (ola' := ola') (old' := old') (io' := io') (it' := it') (iop' := iop') (ipl' := ipl') (id' := id') (jlt' := jlt') (jla' := jla') (jld' := jld') hf (by omega) (by omega) (by omega) hA.fd hA.wd (by omega) (by omega) (by omega) (by omega)
  have e4 := valid_p (fu := fu) (P := P) (now := now) (sent := sent) (first := first) (fl := fl) (wt := wt) (oo := oo) (ot := ot) (oop := oop) (opl := opl) (od := od) (olt := olt) (ola := ola) (old := old) (io := io) (it := it) (iop := iop) (ipl := ipl) (id := id) (jlt := jlt) (jla := jla) (jld := jld) (by omega)
  have e5 := valid_r (fu := fu) (P := P) (now := now) (sent := sent) (first := first) (fl := fl) (wt := wt) (oo := oo) (ot := ot) (oop := oop) (opl := opl) (od := od) (olt := olt) (ola := ola) (old := old) (io := io) (it := it) (iop := iop) (ipl := ipl) (id := id) (jlt := jlt) (jla := jla) (jld := jld) (by omega) (by omega) (by omega)
  have e6 := valid_p (fu := fu) (P := P') (now := now') (sent := sent') (first := first') (fl := fl') (wt := wt') (oo := oo') (ot := ot') (oop := oop') (opl := opl') (od := od') (olt := olt') (ola := ola') (old := old') (io := io') (it := it') (iop := iop') (ipl := ipl') (id := id') (jlt := jlt') (jla := jla') (jld := jld') (by omega)
  have e7 := equal_p (fu := fu) (P := P) (now := now) (sent := sent) (first := first) (fl := fl) (wt := wt) (oo := oo) (ot := ot) (oop := oop) (opl := opl) (od := od) (olt := olt) (ola := ola) (old := old) (io := io) (it := it) (iop := iop) (ipl := ipl) (id := id) (jlt := jlt) (jla := jla) (jld := jld) (P' := P') (now' := now') (sent' := sent') (first' := first') (fl' := fl') (wt' := wt') (oo' := oo') (ot' := ot') (oop' := oop') (opl' := opl') (od' := od') (olt' := olt') (ola' := ola') (old' := old') (io' := io') (it' := it') (iop' := iop') (ipl' := ipl') (id' := id') (jlt' := jlt') (jla' := jla') (jld' := jld') (by omega) (by omega) (by omega) (by omega) hS.by_ hA.by_
  have e8 := equal_r (fu := fu) (P := P) (now := now) (sent := sent) (first := first) (fl := fl) (wt := wt) (oo := oo) (ot := ot) (oop := oop) (opl := opl) (od := od) (olt := olt) (ola := ola) (old := old) (io := io) (it := it) (iop := iop) (ipl := ipl) (id := id) (jlt := jlt) (jla := jla) (jld := jld) (P' := P') (now' := now') (sent' := sent') (first' := first') (fl' := fl') (wt' := wt') (oo' := oo') (ot' := ot') (oop' := oop') (opl' := opl') (od' := od') (olt' := olt') (ola' := ola') (old' := old') (io' := io') (it' := it') (iop' := iop') (ipl' := ipl') (id' := id') (jlt' := jlt') (jla' := jla') (jld' := jld') hf (by omega) (by omega) (by omega) hS.fd hS.wd (by omega) (by omega) (by omega) (by omega)
  rw [eqS_iff.2 rfl] at e3
  have r1 : ∀ a : Int, ieq a a = true := fun a => ieq_iff.2 rfl
  have r2 : ∀ a : Bool, beqb a a = true := fun a => by cases a <;> rfl
  unfold s9
  simp only [ha, h19, e1, h26, h30, r1, e2, e3, e4, e5, r2]
  cases hz : ieq e 0 with
  | false => simp only [e7, e8, r2]
  | true =>
    rw [hv (ieq_iff.1 hz)] at e6
    simp only [e6, e7, e8, r2]
end
end Go.G
