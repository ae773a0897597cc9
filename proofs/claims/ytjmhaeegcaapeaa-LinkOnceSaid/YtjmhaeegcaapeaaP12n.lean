import Derived.Test.YtjmhaeegcaapeaaP12m
set_option linter.unusedVariables false
set_option linter.unusedSimpArgs false
namespace Go.G
set_option maxRecDepth 100000
section
variable {fu : Nat} {P : List Int} {now sent first : Int} {fl : List Flight12} {wt : List (List Int)} {oo : Bool} {ot oop opl : Int} {od : List Int} {olt ola : Int} {old : List Int} {io : Bool} {it iop ipl : Int} {id : List Int} {jlt jla : Int} {jld : List Int}
abbrev tu (P : List Int) (now sent first : Int) (fl : List Flight12) (wt : List (List Int)) (oo : Bool) (ot oop opl : Int) (od : List Int) (olt ola : Int) (old : List Int) (io : Bool) (it iop ipl : Int) (id : List Int) (jlt jla : Int) (jld : List Int) :=
  (P, now, sent, first, fl, wt, oo, ot, oop, opl, od, olt, ola, old, io, it, iop, ipl, id, jlt, jla, jld, ())
abbrev tv (P : List Int) (now sent first : Int) (fl : List Flight12) (wt : List (List Int)) (oo : Bool) (ot oop opl : Int) (od : List Int) (ol olt ola : Int) (old : List Int) (io : Bool) (it iop ipl : Int) (id : List Int) (il jlt jla : Int) (jld : List Int) :=
  (P, now, sent, first, fl, wt, oo, ot, oop, opl, od, ol, olt, ola, old, io, it, iop, ipl, id, il, jlt, jla, jld, ())
theorem le_nlt (a b : Int) : ile a b = !decide (b < a) := by
  rw [ile_d]
  by_cases h : b < a
  · simp [h]
  · simp [h, Int.not_lt.1 h]
theorem lt_nle (a b : Int) : ilt a b = !decide (b ≤ a) := by
  rw [ilt_d]
  by_cases h : b ≤ a
  · simp [h]
  · simp [h, Int.not_le.1 h]
theorem loopF (hf : 1000000 < fu) (hn : 0 ≤ now) (hn2 : now ≤ 1099511627776) (hl : fl.length ≤ 400) :
    (allI (okF fl now) fl 0 = true ∧ iter (t25_3 fu) fu ((), (fl, (dlen fl, (0, ((tu P now sent first fl wt oo ot oop opl od olt ola old io it iop ipl id jlt jla jld), ()))))) = some (.inl ((), ((tu P now sent first fl wt oo ot oop opl od olt ola old io it iop ipl id jlt jla jld), ())))) ∨ (allI (okF fl now) fl 0 = false ∧ iter (t25_3 fu) fu ((), (fl, (dlen fl, (0, ((tu P now sent first fl wt oo ot oop opl od olt ola old io it iop ipl id jlt jla jld), ()))))) = some (.inr (.inl (false, ((tu P now sent first fl wt oo ot oop opl od olt ola old io it iop ipl id jlt jla jld), ()))))) := by
  have w := iter_walk (step := t25_3 fu) (fu := fu) fl (fun i (_ : Unit) => ((), (fl, (dlen fl, ((i : Int), ((tu P now sent first fl wt oo ot oop opl od olt ola old io it iop ipl id jlt jla jld), ())))))) (fun i f (_ : Unit) => if okF fl now i f then .inl () else .inr (.inr (.inl (false, ((tu P now sent first fl wt oo ot oop opl od olt ola old io it iop ipl id jlt jla jld), ()))))) (fun _ _ => True) (fun _ => .inl ((), ((tu P now sent first fl wt oo ot oop opl od olt ola old io it iop ipl id jlt jla jld), ()))) () (by omega) trivial
    (fun i f _ hi _ => by
      have hj := getElem?_lt hi
      have g1 := le_nlt f.Due now
      have g2 : ilt (iadd .i64 now 8) f.Due = !decide (f.Due ≤ now + 8) := by rw [iadd64 (by omega), lt_nle]
      have g3 : iadd .i64 (i : Int) 1 = ((i + 1 : Nat) : Int) := iadd1 (by omega)
      by_cases h0 : 0 < i
      · have g4 : isub .i64 (i : Int) 1 = ((i - 1 : Nat) : Int) := by rw [isub64 (by omega)]; omega
        obtain ⟨f', hf'⟩ : ∃ f, fl[i - 1]? = some f := ⟨_, List.getElem?_eq_getElem (by omega)⟩
        have g5 := lt_nle f.Due f'.Due
        simp only [t25_3, dlen_def, ilt_len hj, dat_nat, hi, s48_eq, g1, g2, g3, ilt_iff.2 (show (0 : Int) < i by omega), g4, hf', g5, okF, h0, if_true]
        cases frB f.Data <;> cases decide (now < f.Due) <;> cases decide (f.Due ≤ now + 8) <;> cases decide (f'.Due ≤ f.Due) <;> first | exact ⟨rfl, trivial⟩ | rfl
      · simp only [t25_3, dlen_def, ilt_len hj, dat_nat, hi, s48_eq, g1, g2, g3, ilt_f.2 (show (i : Int) ≤ 0 by omega), okF, h0, if_false]
        cases frB f.Data <;> cases decide (now < f.Due) <;> cases decide (f.Due ≤ now + 8) <;> first | exact ⟨rfl, trivial⟩ | rfl)
    (fun _ _ => by simp only [t25_3, dlen_def, ilt_end])
  rw [show ((0 : Nat) : Int) = 0 from rfl] at w
  rcases walk_check (okF fl now) (fun _ _ => (.inr (.inl (false, ((tu P now sent first fl wt oo ot oop opl od olt ola old io it iop ipl id jlt jla jld), ()))) : _ ⊕ _ ⊕ Empty)) fl 0 with ⟨h1, h2⟩ | ⟨h1, _, _, h2⟩
  · rw [h2] at w
    exact .inl ⟨h1, w⟩
  · rw [h2] at w
    exact .inr ⟨h1, w⟩
theorem loopW (hf : 1000000 < fu) (hl : wt.length ≤ 64) :
    (wt.all frB = true ∧ iter (t25_9 fu) fu (wt, ((), (dlen wt, (0, ())))) = some (.inl ())) ∨ (wt.all frB = false ∧ ∃ i : Nat, iter (t25_9 fu) fu (wt, ((), (dlen wt, (0, ())))) = some (.inr (.inl ((i : Int), ())))) := by
  rcases iter_first (step := t25_9 fu) (fu := fu) wt (fun j => (wt, ((), (dlen wt, ((j : Int), ()))))) (fun b => !frB b) (fun j _ => .inr (.inl ((j : Int), ()))) (.inl ()) (by omega)
    (fun j b hb hq => by
      have hj := getElem?_lt hb
      simp only [t25_9, dlen_def, ilt_len hj, dat_nat, hb, s50_eq, hq, iadd1 (show j < 9223372036854775807 by omega)])
    (fun j b hb hq => by
      have hj := getElem?_lt hb
      simp only [t25_9, dlen_def, ilt_len hj, dat_nat, hb, s50_eq, hq])
    (by simp only [t25_9, dlen_def, ilt_end]) with ⟨i, x, h1, h2, _, h4⟩ | ⟨h1, h2⟩
  · refine .inr ⟨?_, i, h4⟩
    rw [List.all_eq_false]
    exact ⟨x, List.mem_of_getElem? h1, by simpa using h2⟩
  · refine .inl ⟨?_, h2⟩
    rw [List.all_eq_true]
    intro x hx
    simpa using h1 x hx
theorem dlen_le {α : Type} (n : Nat) (l : List α) : ilt (n : Int) (dlen l) = !decide (l.length ≤ n) := by
  rw [lt_nle, dlen_def]
  congr 1
  exact decide_eq_decide.2 (by omega)
theorem valid_p (hf : 1000000 < fu) : s25 fu P now sent first fl wt oo ot oop opl od olt ola old io it iop ipl id jlt jla jld = some (validB P now sent first fl wt oo ot oop opl od olt io it iop ipl id jlt, ()) := by
  unfold validB
  have e1 := dlen_le 200 P
  have e2 := dlen_le 400 fl
  have e3 := dlen_le 64 wt
  simp only [Int.cast_ofNat_Int] at e1 e2 e3
  unfold s25
  simp only [e1, e2, e3, s47_eq]
  cases c1 : decide (P.length ≤ 200) with
  | false => rfl
  | true =>
  cases c2 : numB now with
  | false => rfl
  | true =>
  cases c3 : numB sent with
  | false => rfl
  | true =>
  cases c4 : numB first with
  | false => rfl
  | true =>
  cases c5 : decide (fl.length ≤ 400) with
  | false => rfl
  | true =>
  cases c6 : decide (wt.length ≤ 64) with
  | false => rfl
  | true =>
  rw [decide_eq_true_eq] at c5 c6
  unfold numB at c2
  rw [Bool.and_eq_true, decide_eq_true_eq, decide_eq_true_eq] at c2
  rcases loopF (P := P) (sent := sent) (first := first) (wt := wt) (oo := oo) (ot := ot) (oop := oop) (opl := opl) (od := od) (olt := olt) (ola := ola) (old := old) (io := io) (it := it) (iop := iop) (ipl := ipl) (id := id) (jlt := jlt) (jla := jla) (jld := jld) hf c2.1 c2.2 c5 with ⟨h1, h2⟩ | ⟨h1, h2⟩
  · rw [h1]
    simp only [Bool.not_true, h2]
    rcases loopW hf c6 with ⟨k1, k2⟩ | ⟨k1, i, k2⟩
    · rw [k1]
      simp only [k2, show ile 0 (-1) = false from rfl, s51_eq fu _ _ _ _ _ _ _ _ (.inl rfl), s51_eq fu _ _ _ _ _ _ _ _ (.inr rfl)]
      cases chB oo ot oop opl od olt 0 <;> rfl
    · rw [k1]
      simp only [k2, ile_iff.2 (show (0 : Int) ≤ i by omega)]
      rfl
  · rw [h1]
    simp only [Bool.not_true, h2]
    rfl
end
end Go.G
