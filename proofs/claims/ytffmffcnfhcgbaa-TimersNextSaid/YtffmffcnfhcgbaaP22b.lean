import Derived.Test.YtffmffcnfhcgbaaP22a
import Derived.Test.YtffmffcnfhcgbaaGE5
set_option linter.unusedVariables false
set_option linter.unusedSimpArgs false
namespace Go.G
set_option maxRecDepth 100000
set_option maxHeartbeats 1000000
def newT (now own tag ticks : Int) : Timer22 := ⟨own, tag, iadd .i64 now (imax 1 ticks)⟩
def badT (now own ticks : Int) : Bool := !compB own || (ilt now 0 || (ilt 1099511627776 now || ilt 1099511627776 ticks))
def setF (t : List Timer22) (now own tag ticks : Int) : List Timer22 × Int × Unit :=
  bif !validB t then ([], 1, ()) else bif badT now own ticks then ([], 2, ()) else
  bif ilt ticks 0 then (noS ltT (newT now own tag ticks) t, 0, ()) else bif ilt 100 (dlen (putS ltT (newT now own tag ticks) t)) then ([], 6, ()) else (putS ltT (newT now own tag ticks) t, 0, ())
theorem search22 (fu : Nat) (l : List Timer22) (x : Timer22) (hv : Srt ltT l) (hf : l.length + 3 < fu) (hl : l.length < 1000000000) :
    iter (t24_2 fu) fu (l, ((), ((), ((dlen l), (0, ((dlen l), ((x.Owner, (x.Tag, (x.Due, ()))), ()))))))) = some (.inl (l, ((), ((), ((dlen l), (((posB ltT l x : Nat) : Int), ((x.Owner, (x.Tag, (x.Due, ()))), ()))))))) := by
  have := iter_bin (step := t24_2 fu) (fu := fu) ordT hv x (fun lo hi => (l, ((), ((), ((dlen l), ((lo : Int), ((hi : Int), ((x.Owner, (x.Tag, (x.Due, ()))), ()))))))))
    (fun p => .inl (l, ((), ((), ((dlen l), ((p : Int), ((x.Owner, (x.Tag, (x.Due, ()))), ())))))))
    (fun lo hi a h1 h2 h3 => by
      have hnn : ilt 1 0 = false := rfl
      simp only [t24_2, ilt_len h1, hnn, mid64 (show lo < 1000000000000 by omega) (show hi < 1000000000000 by omega), dat_nat, h3, ord22 fu (by omega), ord_lt]
      cases ltT a x with
      | true => simp only [cond_true, iadd1 (show (lo + hi) / 2 < 9223372036854775807 by omega)]
      | false => rfl)
    (fun lo _ => by simp only [t24_2, ilt_end]) (by omega)
  rw [dlen_def] at this ⊢
  exact this
theorem noS_drop {l : List Timer22} {x : Timer22} (h : l.any (fun a => same ltT a x) = true) (hs : Srt ltT l) : noS ltT x l = l.take (posB ltT l x) ++ l.drop (posB ltT l x + 1) ∧ ∃ a, l[posB ltT l x]? = some a ∧ same ltT a x = true := by
  have hak := any_same ordT hs x
  rw [h] at hak
  cases hx : l[posB ltT l x]? with
  | none => rw [hx] at hak; cases hak
  | some a =>
    rw [hx] at hak
    exact ⟨noS_out ordT hs hx hak.symm, a, rfl, hak.symm⟩
theorem set22 (fu : Nat) (l : List Timer22) (now own tag ticks : Int) (hf : l.length + 3 < fu) (hl : l.length < 1000000000) : s24 fu l now own tag ticks = some (setF l now own tag ticks) := by
  unfold s24 setF
  rw [valid22 fu l hf hl, comp22]
  cases hv : validB l with
  | false => rfl
  | true =>
    obtain ⟨hok, hS, hlen⟩ := valid_iff.1 hv
    simp only [Bool.not_true, cond_false]
    unfold badT
    cases h1 : compB own with
    | false => rfl
    | true =>
      cases h2 : ilt now 0 with
      | true => rfl
      | false =>
        cases h3 : ilt 1099511627776 now with
        | true => rfl
        | false =>
          cases h4 : ilt 1099511627776 ticks with
          | true => rfl
          | false =>
            simp only [Bool.not_true, Bool.or_false, cond_false]
            have hs := search22 fu l (newT now own tag ticks) hS hf hl
            have hda : dapp 24 [] l = some l := dapp_nil (by omega) (by omega)
            have e0 : (newT now own tag ticks).Owner = own := rfl
            have e1 : (newT now own tag ticks).Tag = tag := rfl
            have e2 : (newT now own tag ticks).Due = iadd .i64 now (imax 1 ticks) := rfl
            have e3 : (⟨own, tag, iadd .i64 now (imax 1 ticks)⟩ : Timer22) = newT now own tag ticks := rfl
            have ho := fun a => ord22 fu (by omega) a (newT now own tag ticks)
            rw [e0, e1, e2] at hs
            simp only [e0, e1, e2] at ho
            simp only [hs, e3, ho, hda]
            generalize newT now own tag ticks = x at *
            have hple := posB_le (lt := ltT) l x
            cases hk : l.any (fun a => same ltT a x) with
            | true =>
              obtain ⟨q1, a, q2, q3⟩ := noS_drop hk hS
              obtain ⟨r1, r2⟩ := putS_old ordT hS hk
              have hlt := getElem?_lt q2
              have hput : ilt 100 (dlen (putS ltT x l)) = false := ilt_f.2 (by rw [r1, dlen_def, List.length_set]; omega)
              rw [hput, r1, q1]
              generalize posB ltT l x = p at *
              have d := del_facts hlt hl (⟨0, 0, 0⟩ : Timer22)
              simp only [dlen_def l, ilt_len hlt, dat_nat, q2, ho, ord_eq, q3, d.c1, d.c2, d.c3, d.c4, d.c5, d.c6, d.c7, d.c8, d.c9, d.c10, d.c11, d.c12, d.c13, d.c14, d.c15, d.c16, d.k1, d.k2, d.k3, d.k4, d.k5]
              cases ilt ticks 0 with
              | true => rfl
              | false => simp [dset]
            | false =>
              have hak := any_same ordT hS x
              rw [hk] at hak
              have hplen : (putS ltT x l).length = l.length + 1 := by rw [putS_len, noS_none hk]
              have hput : ilt 100 (dlen (putS ltT x l)) = ieq (l.length : Int) 100 := by
                rw [Bool.eq_iff_iff, ilt_iff, ieq_iff, dlen_def, hplen]; omega
              rw [noS_none hk, hput, putS_new hk]
              generalize posB ltT l x = p at *
              have hins : dins 24 l (p : Int) x = some (l.take p ++ x :: l.drop p) := dins_ok hple (by omega) (by omega)
              by_cases hlt : p < l.length
              · have q2 : l[p]? = some l[p] := List.getElem?_eq_getElem hlt
                rw [q2] at hak
                simp only [dlen_def l, ilt_len hlt, dat_nat, q2, ho, ord_eq, ← hak, hins]
                cases ilt ticks 0 <;> cases ieq (l.length : Int) 100 <;> rfl
              · simp only [dlen_def l, show ilt (p : Int) (l.length : Int) = false from ilt_f.2 (by omega), hins]
                cases ilt ticks 0 <;> cases ieq (l.length : Int) 100 <;> rfl
end Go.G
