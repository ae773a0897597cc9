import Derived.Test.YtiifmafolmmelaaP20f
import Derived.Test.YtiifmafolmmelaaOn20L5
set_option linter.unusedVariables false
set_option linter.unusedSimpArgs false
namespace Go.G
set_option maxRecDepth 100000
theorem law5_at (fu : Nat) (hf : 10000000000000000000 < fu) (ha : s9 fu = some (true, ())) (m : Msg20) :
    s5 fu m.Src m.Dst m.Kind m.Seq m.Args_0 m.Args_1 m.Args_2 m.Args_3 m.Data = some (true, ()) := by
  unfold s5
  rw [ha]
  simp only
  rw [prop20']
  cases hp : propB m with
  | false => rfl
  | true =>
    simp only
    cases h0 : ieq (dlen m.Data) 0 with
    | true => rfl
    | false =>
      simp only
      have hpp := hp
      unfold propB at hpp
      simp only [Bool.and_eq_true] at hpp
      obtain ⟨p1, p2, p3⟩ := hpp
      have hdl := prop_data hp
      obtain ⟨b, hb⟩ : ∃ b, m.Data[0]? = some b := by
        cases hd : m.Data with
        | nil => rw [ieq_f, dlen_def, hd] at h0; exact absurd rfl h0
        | cons b r => exact ⟨b, rfl⟩
      have hd0 : dat m.Data 0 = some b := by
        have := dat_nat m.Data 0
        rw [show ((0 : Nat) : Int) = 0 from rfl] at this
        rw [this, hb]
      obtain ⟨k, rfl⟩ : ∃ k, fu = k + 4 := ⟨fu - 4, by omega⟩
      have hl : lastP [] m.Src m.Dst = 0 := rfl
      have hla : s22 (k + 4) [] [] m.Src m.Dst = some (0, ()) := last20 (k + 4) [] [] m.Src m.Dst (by simp) (by simp)
      have hva : s26 (k + 4) [] [] = some (true, ()) := valid20 (k + 4) [] [] (by simp) (by simp) (by simp) (by simp)
      simp only [clone1 hdl, hva, task20, p1, p2, p3, hla]
      have n1 : ieq 0 400 = false := rfl
      have n2 : ilt 1099511627776 (iadd .i64 0 1) = false := rfl
      have n3 : iter (t5_28 (k + 4)) (k + 4) ((), ((), ((), (0, (0, ([], ())))))) = some (.inl ((), ([], ()))) := rfl
      have n4 : dapp 24 ([] : List Pair20) [] = some [] := rfl
      have n5 : ∀ x : Msg20, dapp 88 [] [x] = some [x] := fun x => rfl
      simp only [n1, n2, n3, n4, n5]
      have n6 : iter (t5_33 (k + 4)) (k + 4) ((), ((), ((), (dlen ([] : List Pair20), (0, (dlen ([] : List Pair20), ((m.Src, (m.Dst, (0, ()))), ([], ())))))))) = some (.inl ((), ((), ((), (0, (0, ((m.Src, (m.Dst, (0, ()))), ([], ())))))))) := rfl
      have hdd : ieq m.Dst m.Dst = true := ieq_iff.2 rfl
      have n7 : iter (t5_46 (k + 4)) (k + 4) ((), ((), (dlen [nmsg [] m], (0, ((m.Dst, ()), ([nmsg [] m], ())))))) = some (.inr (.inl (0, ((m.Dst, ()), ([nmsg [] m], ()))))) := by
        have e1 : ilt 0 (dlen [nmsg [] m]) = true := rfl
        have e2 : dat [nmsg [] m] 0 = some (nmsg [] m) := rfl
        have e3 : (nmsg [] m).Dst = m.Dst := rfl
        simp only [iter, t5_46, e1, e2, e3, hdd]
      have n8 : ilt 0 0 = false := rfl
      have n9 : dins 24 ([] : List Pair20) 0 ⟨m.Src, m.Dst, 0⟩ = some [⟨m.Src, m.Dst, 0⟩] := rfl
      have n10 : dat [(⟨m.Src, m.Dst, 0⟩ : Pair20)] 0 = some ⟨m.Src, m.Dst, 0⟩ := rfl
      have n11 : dat [nmsg [] m] 0 = some (nmsg [] m) := rfl
      have hdm : (nmsg [] m).Data = m.Data := rfl
      have n12 : dset [(⟨m.Src, m.Dst, 0⟩ : Pair20)] 0 ⟨m.Src, m.Dst, iadd .i64 0 1⟩ = putS ltP (npr [] m) [] := rfl
      have hv0 : validB [] [] = true := rfl
      have hsv : validB [nmsg [] m] (putS ltP (npr [] m) []) = true := sent_valid (q := []) (p := []) hv0 hp (by decide) (by rw [hl]; decide)
      have htk : takeF [nmsg [] m] (putS ltP (npr [] m) []) m.Dst = (stT [] (putS ltP (npr [] m) []), mT (nmsg [] m), 0, ()) := by
        unfold takeF
        have hq : isD m.Dst (nmsg [] m) = true := hdd
        rw [hsv]
        simp only [List.find?_cons, hq, List.eraseP_cons_of_pos]
        rfl
      have n13 := take20 (k + 4) [nmsg [] m] (putS ltP (npr [] m) []) m.Dst (by show 1 + 3 < k + 4; omega) (by show (1 : Nat) < 1000000000; decide) (by simp) (by simp)
      rw [htk] at n13
      have hbb : ieq b b = true := ieq_iff.2 rfl
      have hll : ieq (dlen m.Data) (dlen m.Data) = true := ieq_iff.2 rfl
      have hz : ieq 0 0 = true := rfl
      have hnm : (⟨m.Src, m.Dst, m.Kind, iadd .i64 0 1, m.Args_0, m.Args_1, m.Args_2, m.Args_3, m.Data⟩ : Msg20) = nmsg [] m := rfl
      simp only [n6, n8, n9, n10, hd0, hnm, n7, n11, hdm, clone1 hdl, hz, hll, hbb, n12, n13]
/-- PortsValues is true. -/
theorem law5 (a0_Src : Int) (a0_Dst : Int) (a0_Kind : Int) (a0_Seq : Int) (a0_Args_0 : Int) (a0_Args_1 : Int) (a0_Args_2 : Int) (a0_Args_3 : Int) (a0_Data : List Int) (_ : WfA A5 ((a0_Src, a0_Dst, a0_Kind, a0_Seq, a0_Args_0, a0_Args_1, a0_Args_2, a0_Args_3, a0_Data, ()), ())) : s5 FU a0_Src a0_Dst a0_Kind a0_Seq a0_Args_0 a0_Args_1 a0_Args_2 a0_Args_3 a0_Data = some (true, ()) :=
  law5_at FU (by decide) aw20 ⟨a0_Src, a0_Dst, a0_Kind, a0_Seq, a0_Args_0, a0_Args_1, a0_Args_2, a0_Args_3, a0_Data⟩
end Go.G
