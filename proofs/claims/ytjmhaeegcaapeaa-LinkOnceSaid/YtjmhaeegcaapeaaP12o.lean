import Derived.Test.YtjmhaeegcaapeaaP12n
set_option linter.unusedVariables false
set_option linter.unusedSimpArgs false
namespace Go.G
set_option maxRecDepth 100000
theorem lp21 {fu : Nat} (fl : List Flight12) (x6 : ((List Int) × (Int × (Int × (Int × (Unit × ((List (List Int)) × (Bool × (Int × (Int × (Int × ((List Int) × (Int × (Int × ((List Int) × (Bool × (Int × (Int × (Int × ((List Int) × (Int × (Int × ((List Int) × Unit))))))))))))))))))))))) (x7 : (Unit × (Int × (Int × (Int × (Unit × (Unit × (Bool × (Int × (Int × (Int × (Unit × (Int × (Int × (Unit × (Bool × (Int × (Int × (Int × (Unit × (Int × (Int × (Unit × Unit))))))))))))))))))))))) (x8 : ((List Int) × (Int × (Int × (Int × ((List Flight12) × ((List (List Int)) × (Bool × (Int × (Int × (Int × ((List Int) × (Int × (Int × (Int × ((List Int) × (Bool × (Int × (Int × (Int × ((List Int) × (Int × (Int × (Int × ((List Int) × Unit))))))))))))))))))))))))) (hx : x8.2.2.2.2.1 = fl) (hf : fl.length < fu) (hl : fl.length * 32 ≤ 140737488351232) : iter (t21_2 fu) fu ((), ((), ((), (dlen fl, (0, ([], (x6, (x7, (x8, ()))))))))) = some (.inl ((), ((), (fl, (x6, (x7, (x8, ()))))))) := by
  subst hx
  have h := iter_run (step := t21_2 fu) (fu := fu) (fun j => ((), ((), ((), (dlen x8.2.2.2.2.1, ((j : Int), (x8.2.2.2.2.1.take j, (x6, (x7, (x8, ())))))))))) (e := .inl ((), ((), (x8.2.2.2.2.1, (x6, (x7, (x8, ()))))))) (n := x8.2.2.2.2.1.length)
    (fun j hj => by
      obtain ⟨f, hf⟩ : ∃ f, x8.2.2.2.2.1[j]? = some f := ⟨_, List.getElem?_eq_getElem hj⟩
      have hd : dapp 32 (x8.2.2.2.2.1.take j) [(⟨f.Due, f.Data⟩ : Flight12)] = some (x8.2.2.2.2.1.take (j + 1)) := by
        rw [dapp_ok (by rw [List.length_take, List.length_singleton]; omega) (by rw [List.length_take, List.length_singleton]; omega), List.take_add_one, hf]
        rfl
      simp only [t21_2, dlen_def, ilt_len hj, dat_nat, hf, hd, iadd1 (show j < 9223372036854775807 by omega)])
    (by simp only [t21_2, dlen_def, ilt_end, List.take_length]) (by omega)
  rw [show ((0 : Nat) : Int) = 0 from rfl, List.take_zero] at h
  exact h
section
variable {fu : Nat} {P : List Int} {now sent first : Int} {fl : List Flight12} {wt : List (List Int)} {oo : Bool} {ot oop opl : Int} {od : List Int} {ol olt ola : Int} {old : List Int} {io : Bool} {it iop ipl : Int} {id : List Int} {il jlt jla : Int} {jld : List Int}
theorem to_eq (hf : fl.length < fu) (hl : fl.length * 32 ≤ 140737488351232) : s21 fu P now sent first fl wt oo ot oop opl od ol olt ola old io it iop ipl id il jlt jla jld = some (tu P now sent first fl wt oo ot oop opl od olt ola old io it iop ipl id jlt jla jld, ()) := by
  unfold s21
  simp only [s43]
  rw [lp21 fl _ _ _ rfl hf hl]
theorem lp38 {fu : Nat} (x3 : ((List Int) × (Int × (Int × (Int × ((List Flight12) × ((List (List Int)) × (Bool × (Int × (Int × (Int × ((List Int) × (Int × (Int × (Int × ((List Int) × (Bool × (Int × (Int × (Int × ((List Int) × (Int × (Int × (Int × ((List Int) × Unit))))))))))))))))))))))))) (n : Int) (hf : x3.2.2.2.2.1.length < fu) (hl : x3.2.2.2.2.1.length ≤ 1000000000000000) : ∃ n', iter (t38_0 fu) fu ((), (n, (0, (x3, ())))) = some (.inl ((), (n', (x3, ())))) := by
  have h := iter_fold (step := t38_0 fu) (fu := fu) x3.2.2.2.2.1 (fun j (s : Int) => ((), (s, ((j : Int), (x3, ()))))) (fun f s => iadd .i64 s (iadd .i64 10 (dlen f.Data))) (fun _ _ => True) (fun s => .inl ((), (s, (x3, ())))) n hf trivial
    (fun j f s hj _ => by
      have h1 := getElem?_lt hj
      exact ⟨by simp only [t38_0, dlen_def, ilt_len h1, dat_nat, hj, iadd1 (show j < 9223372036854775807 by omega)], trivial⟩)
    (fun s _ => by simp only [t38_0, dlen_def, ilt_end])
  exact ⟨_, h⟩
theorem lp38' {fu : Nat} (x3 : ((List Int) × (Int × (Int × (Int × ((List Flight12) × ((List (List Int)) × (Bool × (Int × (Int × (Int × ((List Int) × (Int × (Int × (Int × ((List Int) × (Bool × (Int × (Int × (Int × ((List Int) × (Int × (Int × (Int × ((List Int) × Unit))))))))))))))))))))))))) (n : Int) (hf : x3.2.2.2.2.2.1.length < fu) (hl : x3.2.2.2.2.2.1.length ≤ 1000000000000000) : ∃ n', iter (t38_4 fu) fu ((), (n, (0, (x3, ())))) = some (.inl ((), (n', (x3, ())))) := by
  have h := iter_fold (step := t38_4 fu) (fu := fu) x3.2.2.2.2.2.1 (fun j (s : Int) => ((), (s, ((j : Int), (x3, ()))))) (fun f s => iadd .i64 s (iadd .i64 10 (dlen f))) (fun _ _ => True) (fun s => .inl ((), (s, (x3, ())))) n hf trivial
    (fun j f s hj _ => by
      have h1 := getElem?_lt hj
      exact ⟨by simp only [t38_4, dlen_def, ilt_len h1, dat_nat, hj, iadd1 (show j < 9223372036854775807 by omega)], trivial⟩)
    (fun s _ => by simp only [t38_4, dlen_def, ilt_end])
  exact ⟨_, h⟩
theorem ile_len {α : Type} (l : List α) (n : Nat) : ile (dlen l) (n : Int) = decide (l.length ≤ n) := by rw [ile_d, dlen_def]; exact decide_eq_decide.2 (by omega)
theorem s64_eq (fu : Nat) (o : Bool) (t op pl : Int) (d : List Int) (l lt la : Int) (ld : List Int) : s64 fu o t op pl d l lt la ld = some (decide (d.length ≤ 300) && decide (ld.length ≤ 300), ()) := by
  unfold s64
  have e1 := ile_len d 300
  have e2 := ile_len ld 300
  simp only [Int.cast_ofNat_Int] at e1 e2
  rw [e1, e2]
  cases decide (d.length ≤ 300) <;> rfl
theorem few12 (hf : fl.length < fu) (hl : fl.length ≤ 1000000000000000) (hf' : wt.length < fu) (hl' : wt.length ≤ 1000000000000000) (ct co cp : Int) (cd : List Int) : ∃ b, s19 fu P now sent first fl wt oo ot oop opl od ol olt ola old io it iop ipl id il jlt jla jld ct co cp cd = some (b, ()) ∧ (b = true → P.length ≤ 300 ∧ od.length ≤ 300 ∧ old.length ≤ 300 ∧ id.length ≤ 300 ∧ jld.length ≤ 300 ∧ cd.length ≤ 300 ∧ ol = 0 ∧ il = 0) := by
  obtain ⟨n1, h1⟩ := lp38 (fu := fu) (tv P now sent first fl wt oo ot oop opl od ol olt ola old io it iop ipl id il jlt jla jld) 0 hf hl
  obtain ⟨n2, h2⟩ := lp38' (fu := fu) (tv P now sent first fl wt oo ot oop opl od ol olt ola old io it iop ipl id il jlt jla jld) n1 hf' hl'
  have e1 := ile_len P 300
  have e2 := ile_len cd 300
  simp only [Int.cast_ofNat_Int] at e1 e2
  have h38 : s38 fu P now sent first fl wt oo ot oop opl od ol olt ola old io it iop ipl id il jlt jla jld = some (ile n2 20000 && (decide (P.length ≤ 300) && ((decide (od.length ≤ 300) && decide (old.length ≤ 300)) && (decide (id.length ≤ 300) && decide (jld.length ≤ 300)))), ()) := by
    unfold s38
    rw [h1]
    simp only
    rw [h2]
    simp only [e1, s64_eq]
    cases ile n2 20000 <;> cases decide (P.length ≤ 300) <;> cases (decide (od.length ≤ 300) && decide (old.length ≤ 300)) <;> rfl
  refine ⟨(ile n2 20000 && (decide (P.length ≤ 300) && ((decide (od.length ≤ 300) && decide (old.length ≤ 300)) && (decide (id.length ≤ 300) && decide (jld.length ≤ 300))))) && (decide (cd.length ≤ 300) && (decide (ol = 0) && decide (il = 0))), ?_, ?_⟩
  · unfold s19
    rw [h38, e2, ieq_d, ieq_d]
    cases (ile n2 20000 && (decide (P.length ≤ 300) && ((decide (od.length ≤ 300) && decide (old.length ≤ 300)) && (decide (id.length ≤ 300) && decide (jld.length ≤ 300))))) <;> cases decide (cd.length ≤ 300) <;> cases decide (ol = 0) <;> rfl
  · intro h
    simp only [Bool.and_eq_true, decide_eq_true_eq] at h
    obtain ⟨⟨_, a, ⟨b, c⟩, d, e⟩, f, g, i⟩ := h
    exact ⟨a, b, c, d, e, f, g, i⟩
end
end Go.G
