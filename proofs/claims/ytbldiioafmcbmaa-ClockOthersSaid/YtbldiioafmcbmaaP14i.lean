import Derived.Test.YtbldiioafmcbmaaP14h
set_option linter.unusedVariables false
set_option linter.unusedSimpArgs false
namespace Go.G
set_option maxRecDepth 100000
theorem tick14 (fu : Nat) (n : Int) (l : List Alarm14) (hf : l.length < fu) (hl : l.length < 1000000000) : s10 fu n l = some (tickF n l) := by
  unfold s10 tickF
  rw [valid14 fu n l hf (by omega)]
  cases hv : validB n l with
  | false => rfl
  | true =>
    obtain ⟨hV, e1, e2, hlen⟩ := (valid_iff n l).1 hv
    simp only [Bool.not_true, Bool.false_or]
    cases hm : ieq n 1099511627776 with
    | true => rfl
    | false =>
      simp only [cond_false]
      rw [iadd64 (by omega)]
      have hda : dapp 16 [] l = some l := by
        have := dapp_ok (bytes := 16) (l := ([] : List Alarm14)) (ys := l) (by simp; omega) (by simp; omega)
        simpa using this
      simp only [hda]
      rcases iter_first (step := t10_2 fu) (fu := fu) l (fun j => ((), ((), (dlen l, ((j : Int), ([], (((), ()), ((n + 1, (l, ())), (l, ()))))))))) (due (n + 1)) (fun j x => .inr (.inl ((j : Int), ([x.ID], (((), ()), ((n + 1, (l, ())), (l, ()))))))) (.inl ([], (((), ()), ((n + 1, (l, ())), (l, ()))))) hf
        (fun i x hi hq => by
          have h1 := getElem?_lt hi
          have hdu : ieq x.At (n + 1) = due (n + 1) x := rfl
          simp only [t10_2, dlen_def, ilt_len h1, dat_nat, hi, hdu, hq, iadd1 (show i < 9223372036854775807 by omega)])
        (fun i x hi hq => by
          have h1 := getElem?_lt hi
          have hdu : ieq x.At (n + 1) = due (n + 1) x := rfl
          have d1 : dapp 8 ([] : List Int) [x.ID] = some [x.ID] := dapp_ok (by simp) (by simp)
          simp only [t10_2, dlen_def, ilt_len h1, dat_nat, hi, hdu, hq, d1])
        (by simp only [t10_2, dlen_def, ilt_end]) with ⟨i, x, h1, h2, h3, h4⟩ | ⟨h1, h2⟩
      · rw [show ((0 : Nat) : Int) = 0 from rfl] at h4
        obtain ⟨k, c, q1, q2, q3, q4⟩ := tick_rest fu (n + 1) l i x h1 h2 h3 hf hl
        have hi' := getElem?_lt h1
        rw [h4]
        simp only [show ieq (i : Int) (-1) = false from ieq_f.2 (by omega), iadd1 (show i < 9223372036854775807 by omega), q4]
        have c1 : ile 0 (k : Int) = true := ile_iff.2 (by omega)
        have c2 : ile (k : Int) (dlen c) = true := ile_iff.2 (by rw [dlen_def]; omega)
        have c3 : ile (dlen c) (dlen c) = true := ile_iff.2 (by omega)
        have c4 : ile 0 (osub (dlen c) (k : Int)) = true := ile_iff.2 (by rw [dlen_def]; unfold osub; omega)
        have c5 : ile 0 0 = true := rfl
        have hput : dput c (k : Int) (drep (osub (dlen c) (k : Int)) (⟨0, 0⟩ : Alarm14)) = some (c.take k ++ List.replicate (c.length - k) ⟨0, 0⟩) := by
          unfold dput drep osub
          rw [dlen_def, show ((c.length : Int) - (k : Int)).toNat = c.length - k by omega, if_pos ⟨by omega, by rw [List.length_replicate]; omega⟩, List.length_replicate]
          simp
          omega
        have c6 : ile (k : Int) (dlen (c.take k ++ List.replicate (c.length - k) (⟨0, 0⟩ : Alarm14))) = true := ile_iff.2 (by rw [dlen_def]; simp; omega)
        have hcut : dcut (c.take k ++ List.replicate (c.length - k) (⟨0, 0⟩ : Alarm14)) 0 (oadd 0 (osub (k : Int) 0)) = rest (n + 1) l := by
          rw [← q3]
          unfold dcut oadd osub
          rw [show ((0 : Int) + ((k : Int) - 0)).toNat = (c.take k).length by rw [List.length_take]; omega]
          simp
        simp only [c1, c2, c3, c4, c5, hput, c6, hcut, stT]
      · rw [show ((0 : Nat) : Int) = 0 from rfl] at h2
        rw [h2]
        have r1 : rest (n + 1) l = l := by
          unfold rest
          rw [List.filter_eq_self]
          intro b hb
          simp [h1 b hb]
        have r2 : dueIDs (n + 1) l = [] := by
          unfold dueIDs
          rw [List.filter_eq_nil_iff.2 (fun b hb => by simp [h1 b hb])]
          rfl
        rw [r1, r2]
        rfl
end Go.G
