import Derived.Test.YtmbblacaodapcaaP10i
set_option linter.unusedVariables false
set_option linter.unusedSimpArgs false
namespace Go.G
theorem law6_at (fu : Nat) (hf : 1000 < fu) (ha : s9 fu = some (true, ())) (l : List Window10) (v w : Window10) : s6 fu l v.Device v.Tag v.Frame v.Write w.Device w.Tag w.Frame w.Write = some (true, ()) := by
  unfold s6
  rw [ha]
  simp only
  cases h : ilt 40 (dlen l) with
  | true => rfl
  | false =>
    rw [ilt_f, dlen_def] at h
    have hl1 := openF_len l v
    have hl2 := openF_len (openF l v).1 w
    have hl3 := openF_len l w
    have hl4 := openF_len (openF l w).1 v
    have b1 : ile 0 0 = true := rfl
    have b2 : ilt 0 2 = true := rfl
    have b3 : ile 0 1 = true := rfl
    have b4 : ilt 1 2 = true := rfl
    simp only [b1, b2, b3, b4]
    rw [to10 fu l (by omega) (by omega)]
    simp only
    rw [open10 fu hf l v (by omega) (by omega)]
    simp only
    rw [open10 fu hf (openF l v).1 w (by omega) (by omega)]
    simp only
    cases he : ieq (openF l v).2.1 0 with
    | false => rfl
    | true =>
      simp only
      cases hg : ieq (openF (openF l v).1 w).2.1 0 with
      | false => rfl
      | true =>
        simp only
        rw [open10 fu hf l w (by omega) (by omega)]
        simp only
        rw [open10 fu hf (openF l w).1 v (by omega) (by omega)]
        rw [ieq_iff] at he hg
        rcases openF_cases l v with ⟨q, _⟩ | ⟨hV, hp, hk, hc, hq⟩
        · exact absurd he q
        rcases openF_cases (openF l v).1 w with ⟨q, _⟩ | ⟨hV2, hp2, hk2, hc2, hq2⟩
        · exact absurd hg q
        have hqa : openF l v = (insW l v, 0, ()) := hq
        have hA : (openF l v).1 = insW l v := by rw [hqa]
        rw [hA] at hV2 hk2 hc2 hq2 hl2
        have hqb : openF (insW l v) w = (insW (insW l v) w, 0, ()) := hq2
        rw [ins_any, Bool.or_eq_false_iff] at hk2 hc2
        have hqc := openF_ok hV hp2 hk2.2 hc2.2
        have hVc : Val (insW l w) := val_insert hV hp2 hk2.2 hc2.2
        have hqd := openF_ok (l := insW l w) (w := v) hVc hp (by rw [ins_any, hk, Bool.or_false, key_symm]; exact hk2.1) (by rw [ins_any, hc, Bool.or_false, cfl_symm]; exact hc2.1)
        have hB : (openF (openF l v).1 w) = (insW (insW l v) w, 0, ()) := by rw [hA]; exact hqb
        have hD : (openF (openF l w).1 v) = (insW (insW l w) v, 0, ()) := by rw [hqc]; exact hqd
        have hVb : Val (insW (insW l v) w) := val_insert hV2 hp2 (by rw [ins_any, Bool.or_eq_false_iff]; exact hk2) (by rw [ins_any, Bool.or_eq_false_iff]; exact hc2)
        have hVd : Val (insW (insW l w) v) := val_insert hVc hp (by rw [ins_any, hk, Bool.or_false, key_symm]; exact hk2.1) (by rw [ins_any, hc, Bool.or_false, cfl_symm]; exact hc2.1)
        have heq : insW (insW l v) w = insW (insW l w) v := sorted_ext _ _ (hVb.2.imp fun h => h.1) (hVd.2.imp fun h => h.1) fun x => by
          simp only [ins_mem]
          constructor
          · rintro (h | h | h) <;> simp [h]
          · rintro (h | h | h) <;> simp [h]
        have n1 := ins_len (insW l v) w
        have n2 := ins_len l v
        have n3 := ins_len (insW l w) v
        have n4 := ins_len l w
        rw [hB, hD, hqc]
        simp only [ieq_iff.2 rfl]
        rw [from10 fu _ (by omega) (by omega), from10 fu _ (by omega) (by omega)]
        simp only
        rw [same10 fu _ _ (by omega) (by omega), heq]
        simp
/-- IommuOrder is true. -/
theorem law6 (a0 : List Window10) (a1_f0_Device : Int) (a1_f0_Tag : Int) (a1_f0_Frame : Int) (a1_f0_Write : Bool) (a1_f1_Device : Int) (a1_f1_Tag : Int) (a1_f1_Frame : Int) (a1_f1_Write : Bool) (_ : WfA A6 (a0, (a1_f0_Device, a1_f0_Tag, a1_f0_Frame, a1_f0_Write, a1_f1_Device, a1_f1_Tag, a1_f1_Frame, a1_f1_Write, ()), ())) : s6 FU a0 a1_f0_Device a1_f0_Tag a1_f0_Frame a1_f0_Write a1_f1_Device a1_f1_Tag a1_f1_Frame a1_f1_Write = some (true, ()) :=
  law6_at FU (by decide) aw10 a0 ⟨a1_f0_Device, a1_f0_Tag, a1_f0_Frame, a1_f0_Write⟩ ⟨a1_f1_Device, a1_f1_Tag, a1_f1_Frame, a1_f1_Write⟩
end Go.G
