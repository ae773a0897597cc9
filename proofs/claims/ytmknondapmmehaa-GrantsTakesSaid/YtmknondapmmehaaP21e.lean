import Derived.Test.YtmknondapmmehaaP21d
import Derived.Test.YtmknondapmmehaaGE5
set_option linter.unusedVariables false
set_option linter.unusedSimpArgs false
namespace Go.G
set_option maxRecDepth 100000
set_option maxHeartbeats 2000000
theorem Sup.mono {t u : List Grant21} (h : ∀ y ∈ t, y ∈ u) {x : Grant21} (hs : Sup t x) : Sup u x := by
  induction hs with
  | base hm hp => exact .base (h _ hm) hp
  | step hm _ h3 ih => exact .step (h _ hm) ih h3
theorem ky_same (a x : Grant21) : kyG x.Grantee x.Frame a = same ltG a x := (same_key a x).symm
theorem ky_any (t : List Grant21) (x : Grant21) : t.any (kyG x.Grantee x.Frame) = t.any (fun a => same ltG a x) := by
  congr 1
  funext a
  exact ky_same a x
theorem sup1_iff {y x : Grant21} : sup1 y x = true ↔ y.Frame = x.Frame ∧ y.Grantee = x.Owner ∧ incB y.Rights x.Rights = true := by
  unfold sup1
  rw [Bool.and_eq_true, Bool.and_eq_true, ieq_iff, ieq_iff]
theorem isP_iff {x : Grant21} : isP x = true ↔ x.Owner = 4 := ieq_iff
theorem put_sub {t : List Grant21} {x : Grant21} (hn : t.any (fun a => same ltG a x) = false) : ∀ y ∈ t, y ∈ putS ltG x t := fun y hy => by
  have := List.any_eq_false.1 hn y hy
  exact mem_putS.2 (.inr ⟨hy, by simpa using this⟩)
theorem sup_put {t : List Grant21} {x : Grant21} (hv : validB t = true) (hp : propB x = true) (hn : t.any (fun a => same ltG a x) = false) : supB (putS ltG x t) x = (isP x || hasB t x.Owner x.Frame x.Rights) := by
  obtain ⟨v1, v2, v3, v4⟩ := valid_iff.1 hv
  have hpx := propB_iff.1 hp
  rw [Bool.eq_iff_iff, supB_iff, Bool.or_eq_true, hasB_iff]
  constructor
  · intro h
    cases h with
    | base _ h2 => exact .inl h2
    | step hm h2 h3 =>
      rename_i y
      obtain ⟨s1, s2, s3⟩ := sup1_iff.1 h3
      rcases mem_putS.1 h2.mem with rfl | hy
      · exact absurd s2.symm hpx.2.2.1
      · exact .inr ⟨by omega, y, hy.1, s2, s1, s3⟩
  · rintro (h | ⟨_, y, hy, h1, h2, h3⟩)
    · exact .base (mem_putS.2 (.inl rfl)) h
    · exact .step (mem_putS.2 (.inl rfl)) ((v4 y hy).mono (put_sub hn)) (sup1_iff.2 ⟨h2, h1, h3⟩)
noncomputable def giveF (t : List Grant21) (x : Grant21) : List Grant21 × Int × Unit :=
  bif !validB t then ([], 1, ()) else bif !propB x then ([], 2, ()) else bif t.any (fun a => same ltG a x) then ([], 9, ()) else
  bif !(isP x || hasB t x.Owner x.Frame x.Rights) then ([], 10, ()) else bif ile 200 (dlen t) then ([], 6, ()) else (putS ltG x t, 0, ())
theorem search21 (fu : Nat) (l : List Grant21) (x : Grant21) (hv : Srt ltG l) (hf : l.length + 3 < fu) (hl : l.length < 1000000000) :
    iter (t12_2 fu) fu (l, ((), ((), ((dlen l), (0, ((dlen l), ((x.Owner, (x.Grantee, (x.Frame, (x.Rights, ())))), ()))))))) = some (.inl (l, ((), ((), ((dlen l), (((posB ltG l x : Nat) : Int), ((x.Owner, (x.Grantee, (x.Frame, (x.Rights, ())))), ()))))))) := by
  have := iter_bin (step := t12_2 fu) (fu := fu) ordG hv x (fun lo hi => (l, ((), ((), ((dlen l), ((lo : Int), ((hi : Int), ((x.Owner, (x.Grantee, (x.Frame, (x.Rights, ())))), ()))))))))
    (fun p => .inl (l, ((), ((), ((dlen l), ((p : Int), ((x.Owner, (x.Grantee, (x.Frame, (x.Rights, ())))), ())))))))
    (fun lo hi a h1 h2 h3 => by
      have hnn : ilt 1 0 = false := rfl
      simp only [t12_2, ilt_len h1, hnn, mid64 (show lo < 1000000000000 by omega) (show hi < 1000000000000 by omega), dat_nat, h3, ord21 fu (by omega), ord_lt]
      cases ltG a x with
      | true => simp only [cond_true, iadd1 (show (lo + hi) / 2 < 9223372036854775807 by omega)]
      | false => rfl)
    (fun lo _ => by simp only [t12_2, ilt_end]) (by omega)
  rw [dlen_def] at this ⊢
  exact this
theorem put_rg {t : List Grant21} {x : Grant21} (h1 : ∀ y ∈ t, propB y = true) (hp : propB x = true) : ∀ y ∈ putS ltG x t, rg y.Rights := fun y hy => by
  rcases mem_putS.1 hy with rfl | hy
  · exact prop_rg hp
  · exact prop_rg (h1 y hy.1)
theorem give21 (fu : Nat) (l : List Grant21) (x : Grant21) (hf : 2 * l.length + 5 < fu) (hl : l.length < 100000000) : s12 fu l x.Owner x.Grantee x.Frame x.Rights = some (giveF l x) := by
  unfold s12 giveF
  rw [valid21 fu l (by omega) (by omega), prop21]
  cases hv : validB l with
  | false => rfl
  | true =>
    obtain ⟨v1, v2, v3, v4⟩ := valid_iff.1 hv
    cases hp : propB x with
    | false => rfl
    | true =>
      simp only [Bool.not_true, cond_false]
      have hs := search21 fu l x v2 (by omega) (by omega)
      have hda : dapp 32 [] l = some l := dapp_nil (by omega) (by omega)
      have ho := fun a => ord21 fu (by omega) a x
      have hx : (⟨x.Owner, x.Grantee, x.Frame, x.Rights⟩ : Grant21) = x := rfl
      have hple := posB_le (lt := ltG) l x
      have hins : dins 32 l ((posB ltG l x : Nat) : Int) x = some (l.take (posB ltG l x) ++ x :: l.drop (posB ltG l x)) := dins_ok hple (by omega) (by omega)
      simp only [hs, hda, ho, hx, hins]
      have hany := any_same ordG v2 x
      cases hk : l.any (fun a => same ltG a x) with
      | true =>
        rw [hk] at hany
        cases hq : l[posB ltG l x]? with
        | none => rw [hq] at hany; cases hany
        | some a =>
          rw [hq] at hany
          have hlt := getElem?_lt hq
          simp only [dlen_def l, ilt_len hlt, dat_nat, hq, ho, ord_eq, ← hany, cond_true]
      | false =>
        rw [hk] at hany
        have hput := putS_new hk
        have hplen : (putS ltG x l).length = l.length + 1 := by rw [putS_len, noS_none hk]
        have hsup := sup34 fu (putS ltG x l) (put_rg v1 hp) (by omega) (by omega)
        have hat : ((putS ltG x l).map (supB (putS ltG x l)))[posB ltG l x]? = some (isP x || hasB l x.Owner x.Frame x.Rights) := by
          rw [List.getElem?_map, ← sup_put hv hp hk]
          have : (putS ltG x l)[posB ltG l x]? = some x := by
            rw [hput, List.getElem?_append_right (by rw [List.length_take]; omega), List.length_take, show posB ltG l x - min (posB ltG l x) l.length = 0 by omega]
            rfl
          rw [this]
          rfl
        have h200 : ieq (l.length : Int) 200 = ile 200 (l.length : Int) := by rw [Bool.eq_iff_iff, ieq_iff, ile_iff]; omega
        rw [← hput] at *
        by_cases hlt : posB ltG l x < l.length
        · have q2 : l[posB ltG l x]? = some l[posB ltG l x] := List.getElem?_eq_getElem hlt
          rw [q2] at hany
          simp only [dlen_def l, ilt_len hlt, dat_nat, q2, ho, ord_eq, ← hany, hsup, hat, h200, cond_false]
          cases (isP x || hasB l x.Owner x.Frame x.Rights) <;> cases ile 200 (l.length : Int) <;> rfl
        · simp only [dlen_def l, show ilt ((posB ltG l x : Nat) : Int) (l.length : Int) = false from ilt_f.2 (by omega), dat_nat, hsup, hat, h200, cond_false]
          cases (isP x || hasB l x.Owner x.Frame x.Rights) <;> cases ile 200 (l.length : Int) <;> rfl
theorem while14 (fu : Nat) (l : List Grant21) (x : Grant21) (hf : l.length < fu) (hl : l.length < 1000000000) :
    iter (t14_3 fu) fu (l, ((), (0, ((x.Owner, (x.Grantee, (x.Frame, (x.Rights, ())))), ())))) = some (.inl (l, ((), (((posB ltG l x : Nat) : Int), ((x.Owner, (x.Grantee, (x.Frame, (x.Rights, ())))), ()))))) := by
  have := iter_while (step := t14_3 fu) (fu := fu) (lt := ltG) (l := l) (x := x) (fun j => (l, ((), ((j : Int), ((x.Owner, (x.Grantee, (x.Frame, (x.Rights, ())))), ()))))) (fun p => .inl (l, ((), ((p : Int), ((x.Owner, (x.Grantee, (x.Frame, (x.Rights, ())))), ())))))
    (fun i a hi => by
      have h1 := getElem?_lt hi
      simp only [t14_3, dlen_def, dat_nat, hi, ilt_len h1, bef21, iadd1 (show i < 9223372036854775807 by omega)]
      cases ltG a x <;> rfl)
    (by simp only [t14_3, dlen_def, ilt_end]) hf
  exact this
theorem same14 : t14_15 = t14_3 := rfl
theorem giveR21 (fu : Nat) (l : List Grant21) (x : Grant21) (hf : 2 * l.length + 5 < fu) (hl : l.length < 100000000) : s14 fu l x.Owner x.Grantee x.Frame x.Rights = some (giveF l x) := by
  unfold s14 giveF
  rw [validR21 fu l (by omega) (by omega), propR21, find21 fu l _ _ (by omega) (by omega), hasR21 fu l _ _ _ (by omega) (by omega), ky_any, same14]
  cases hv : validB l with
  | false => rfl
  | true =>
    obtain ⟨v1, v2, v3, v4⟩ := valid_iff.1 hv
    cases hp : propB x with
    | false => rfl
    | true =>
      cases hk : l.any (fun a => same ltG a x) with
      | true => rfl
      | false =>
        have hw := while14 fu l x (by omega) (by omega)
        have hput := putS_new hk
        have pf := put_facts (bytes := 32) (x := x) (posB_le (lt := ltG) l x) (by omega) (by omega)
        have hx : (⟨x.Owner, x.Grantee, x.Frame, x.Rights⟩ : Grant21) = x := rfl
        have hP : ieq x.Owner 4 = isP x := rfl
        have a3 := pf.a3
        rw [← hput] at a3
        simp only [hP, hw, pf.s1, pf.a1, hx, pf.a2, pf.s2, a3]
        cases isP x <;> cases hasB l x.Owner x.Frame x.Rights <;> cases ile 200 (dlen l) <;> rfl
end Go.G
