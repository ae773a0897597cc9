import Derived.Test.YtmhleddbamfheaaP18k
import Derived.Test.YtmhleddbamfheaaP18boot
set_option linter.unusedVariables false
set_option linter.unusedSimpArgs false
namespace Go.G
set_option maxRecDepth 100000
theorem law4_at (fu : Nat) (hf : 1000 < fu) (ha : s12 fu = some (true, ())) (n : Int) (l : List Cap18) (o t p c : Int) : s4 fu n l o t p c = some (true, ()) := by
  unfold s4
  rw [ha]
  simp only [dlen_def]
  by_cases h : 300 < l.length
  · rw [show ilt 300 (l.length : Int) = true from ilt_iff.2 (by omega)]
  · rw [show ilt 300 (l.length : Int) = false from ilt_f.2 (by omega)]
    have loop := iter_any (step := t4_1 fu) (fu := fu) l (fun j => (o, ((), ((), ((l.length : Int), ((j : Int), ((t, (p, (c, ()))), ((n, (l, ())), ())))))))) (fun x => ieq x.Owner o)
      (.inr (.inl (true, ((t, (p, (c, ()))), ((n, (l, ())), ()))))) (.inl (o, ((), ((), ((t, (p, (c, ()))), ((n, (l, ())), ())))))) (by omega)
      (fun i x hi hq => by
        have h1 := getElem?_lt hi
        simp only [t4_1, dlen_def, dat_nat, hi, ilt_len h1, iadd1 (show i < 9223372036854775807 by omega), hq])
      (fun i x hi hq => by
        have h1 := getElem?_lt hi
        simp only [t4_1, dlen_def, dat_nat, hi, ilt_len h1, hq])
      (by simp only [t4_1, ilt_end])
    simp only [Int.natCast_zero] at loop
    rw [loop]
    cases hown : l.any (fun x => ieq x.Owner o) with
    | true => simp
    | false =>
      simp only [Bool.false_eq_true, if_false, to_caps fu n l (by omega) (by omega), enter_caps fu n l o (by omega) (by omega)]
      rcases enterS_cases n l o with ⟨e1, e2⟩ | ⟨hv, h1, h2, h3, h4, h5, e⟩
      · rw [e2, show ieq (enterS n l o).2.1 0 = false from ieq_f.2 e1]
        rfl
      · have hva := enter_valid hv ⟨h1, h2⟩ h3 h4 h5
        obtain ⟨v1, v2, v3, v4⟩ := validB_iff.1 hv
        rw [e]
        simp only [show ieq 0 0 = true from rfl]
        generalize hr : l.filter isRoot = r at h3 h4 h5 hva ⊢
        have hal : (l ++ addR o n r).length ≤ 400 := (validB_iff.1 hva).2.1
        simp only [leave_caps fu (n + r.length) (l ++ addR o n r) o (by omega) (by omega)]
        have hleave : leaveS (n + r.length) (l ++ addR o n r) o = ((n + r.length, (l, ())), (0, ())) := by
          unfold leaveS
          rw [hva, show ieq o 0 = false from ieq_f.2 (by omega)]
          simp only [Bool.not_true, cond_false]
          rw [specW_append]
          have hg := specW_none (fun x => ieq x.Owner o) l fun x hx => by simpa using List.any_eq_false.1 hown x hx
          rw [hg.1, specW_all (fun x => ieq x.Owner o) (addR o n r) _ fun x hx => ieq_iff.2 (addR_owner o r n x hx), List.append_nil]
        rw [hleave]
        have hhas : (l ++ addR o n r).any (isHas o t p c) = (ieq t 1 && (ieq c 1 && l.any (isHas 0 t p c))) := by
          rw [List.any_append, addR_any, ← hr, roots_has v1]
          have : l.any (isHas o t p c) = false := by
            rw [List.any_eq_false]
            intro x hx
            have := List.any_eq_false.1 hown x hx
            simp only [Bool.not_eq_true] at this
            simp [isHas, this]
          rw [this, Bool.false_or]
        simp only [show ieq 0 0 = true from rfl, from_caps fu (n + r.length) l (by omega) (by omega), same_ref fu l l (by omega) (by omega), decide_true, has_caps fu (n + r.length) (l ++ addR o n r) _ _ _ _ (by omega) (by omega), has_ref fu n l _ _ _ _ (by omega) (by omega), hhas]
        cases ieq t 1 <;> cases ieq c 1 <;> cases l.any (isHas 0 t p c) <;> rfl
theorem law4 (a0_Next : Int) (a0_Caps : List Cap18) (a1 : Int) (a2_Type_ : Int) (a2_Peer : Int) (a2_Code : Int) (_ : WfA A4 ((a0_Next, a0_Caps, ()), a1, (a2_Type_, a2_Peer, a2_Code, ()), ())) : s4 FU a0_Next a0_Caps a1 a2_Type_ a2_Peer a2_Code = some (true, ()) :=
  law4_at FU (by decide) aw18 _ _ _ _ _ _
end Go.G
