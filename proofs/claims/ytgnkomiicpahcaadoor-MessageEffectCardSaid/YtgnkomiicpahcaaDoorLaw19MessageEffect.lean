import Derived.Test.YtgnkomiicpahcaaDoorP19f
import Derived.Test.YtgnkomiicpahcaaDoorGE5
import Derived.Test.YtgnkomiicpahcaaDoorOn19L8
set_option linter.unusedVariables false
set_option linter.unusedSimpArgs false
namespace Go.G
set_option maxRecDepth 100000
theorem rights (fu : Nat) (kind a0 a1 a2 a3 ms md mk mq m0 m1 m2 m3 : Int) (mm d : List Int) : ∃ L : List Right19, L.length ≤ 2 ∧ s19 fu kind a0 a1 a2 a3 ms md mk mq m0 m1 m2 m3 mm d = some (L, ()) := by
  have e1 : dapp 24 ((⟨2, 0, kind⟩ : Right19) :: []) ((⟨1, md, mk⟩ : Right19) :: []) = some [⟨2, 0, kind⟩, ⟨1, md, mk⟩] := dapp_ok (by simp) (by simp)
  have e2 : dapp 24 ((⟨2, 0, kind⟩ : Right19) :: []) ((⟨3, 0, a0⟩ : Right19) :: []) = some [⟨2, 0, kind⟩, ⟨3, 0, a0⟩] := dapp_ok (by simp) (by simp)
  unfold s19
  rw [e1, e2]
  cases ieq kind 1 with
  | true => exact ⟨_, by simp, rfl⟩
  | false =>
    cases ieq kind 3 with
    | true => exact ⟨_, by simp, rfl⟩
    | false => exact ⟨_, by simp, rfl⟩
theorem lp8 {fu : Nat} {L : List Right19} (hf : 2 < fu) (hL : L.length ≤ 2) (task : Int) (B : Int × Int × Int × Int × Int × Int × Int × Int × Int × Int × Int × Int × Int × List Int × List Int × Unit) :
    iter (t8_3 fu) fu (task, ((), (L, (L, ((dlen L), (0, (B, ()))))))) = some (.inl (task, ((), (B, ())))) :=
  iter_run (step := t8_3 fu) (fu := fu) (fun j => (task, ((), (L, (L, ((dlen L), ((j : Int), (B, ())))))))) (e := .inl (task, ((), (B, ())))) (n := L.length)
    (fun j hj => by
      obtain ⟨x, hx⟩ : ∃ x, L[j]? = some x := ⟨_, List.getElem?_eq_getElem hj⟩
      have e1 : ieq x.Type_ x.Type_ = true := ieq_iff.2 rfl
      have e2 : ieq x.Peer x.Peer = true := ieq_iff.2 rfl
      have e3 : ieq x.Code x.Code = true := ieq_iff.2 rfl
      simp only [t8_3, dlen_def, ilt_len hj, dat_nat, hx, e1, e2, e3, cond_true, cond_false, iadd1 (show j < 9223372036854775807 by omega)])
    (by simp only [t8_3, dlen_def, ilt_end, cond_false]) (by omega)
theorem same22 (fu : Nat) (a b c e p q r s : Int) (d : List Int) : s22 fu a b c e p q r s d a b c e p q r s d = some (true, ()) := by
  have i : ∀ x : Int, ieq x x = true := fun x => ieq_iff.2 rfl
  have j : seqb (dstr d) (dstr d) = true := by simp [seqb]
  simp only [s22, s43, i, j, cond_true]
theorem law8 (a0 : Int) (a1_Kind : Int) (a1_Args_0 : Int) (a1_Args_1 : Int) (a1_Args_2 : Int) (a1_Args_3 : Int) (a1_Msg_Src : Int) (a1_Msg_Dst : Int) (a1_Msg_Kind : Int) (a1_Msg_Seq : Int) (a1_Msg_Args_0 : Int) (a1_Msg_Args_1 : Int) (a1_Msg_Args_2 : Int) (a1_Msg_Args_3 : Int) (a1_Msg_Data : List Int) (a1_Data : List Int) (h : WfA A8 (a0, (a1_Kind, a1_Args_0, a1_Args_1, a1_Args_2, a1_Args_3, a1_Msg_Src, a1_Msg_Dst, a1_Msg_Kind, a1_Msg_Seq, a1_Msg_Args_0, a1_Msg_Args_1, a1_Msg_Args_2, a1_Msg_Args_3, a1_Msg_Data, a1_Data, ()), ())) : s8 FU a0 a1_Kind a1_Args_0 a1_Args_1 a1_Args_2 a1_Args_3 a1_Msg_Src a1_Msg_Dst a1_Msg_Kind a1_Msg_Seq a1_Msg_Args_0 a1_Msg_Args_1 a1_Msg_Args_2 a1_Msg_Args_3 a1_Msg_Data a1_Data = some (true, ()) := by
  have _ := h
  unfold s8
  rw [aw19]
  cases hl : ilt 2000 (dlen a1_Data) with
  | true => rfl
  | false =>
    cases hm : ilt 2000 (dlen a1_Msg_Data) with
    | true => rfl
    | false =>
      have hlen : a1_Msg_Data.length ≤ 2000 := by have := ilt_f.1 hm; rw [dlen_def] at this; omega
      have hd : dapp 1 [] a1_Msg_Data = some a1_Msg_Data := dapp_nil (by omega) (by omega)
      obtain ⟨L, l1, l2⟩ := rights FU a1_Kind a1_Args_0 a1_Args_1 a1_Args_2 a1_Args_3 a1_Msg_Src a1_Msg_Dst a1_Msg_Kind a1_Msg_Seq a1_Msg_Args_0 a1_Msg_Args_1 a1_Msg_Args_2 a1_Msg_Args_3 a1_Msg_Data a1_Data
      obtain ⟨b, h1, h2⟩ := eff_all FU a1_Kind a0 a1_Args_0 a1_Args_1 a1_Args_2 a1_Args_3 a1_Msg_Src a1_Msg_Dst a1_Msg_Kind a1_Msg_Seq a1_Msg_Args_0 a1_Msg_Args_1 a1_Msg_Args_2 a1_Msg_Args_3 a1_Msg_Data a1_Data hd
      have lp := lp8 (fu := FU) (L := L) (by unfold FU; omega) l1 a0 (a1_Kind, a1_Args_0, a1_Args_1, a1_Args_2, a1_Args_3, a1_Msg_Src, a1_Msg_Dst, a1_Msg_Kind, a1_Msg_Seq, a1_Msg_Args_0, a1_Msg_Args_1, a1_Msg_Args_2, a1_Msg_Args_3, a1_Msg_Data, a1_Data, ())
      have e1 : ieq (dlen L) (dlen L) = true := ieq_iff.2 rfl
      have e2 : beqb b b = true := by cases b <;> rfl
      simp only [l2, s20_eq, e1, lp, h1, h2, e2, s24_eq, s23, hd, same22, cond_true, cond_false]
end Go.G
