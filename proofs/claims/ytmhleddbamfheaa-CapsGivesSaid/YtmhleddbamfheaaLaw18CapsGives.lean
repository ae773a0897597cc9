import Derived.Test.YtmhleddbamfheaaP18j
import Derived.Test.YtmhleddbamfheaaP18boot
set_option linter.unusedVariables false
set_option linter.unusedSimpArgs false
namespace Go.G
set_option maxRecDepth 100000
theorem law8_at (fu : Nat) (hf : 1000 < fu) (ha : s12 fu = some (true, ())) (n : Int) (l : List Cap18) (k o qo qt qp qc : Int) : s8 fu n l k o qo qt qp qc = some (true, ()) := by
  unfold s8
  rw [ha]
  simp only [dlen_def]
  by_cases h : 300 < l.length
  · rw [show ilt 300 (l.length : Int) = true from ilt_iff.2 (by omega)]
  · rw [show ilt 300 (l.length : Int) = false from ilt_f.2 (by omega)]
    have hlen := deriveS_len n l k o
    have hval := deriveS_valid n l k o
    simp only [show ile 0 0 = true from rfl, show ilt 0 2 = true from rfl, show ile 0 1 = true from rfl, show ilt 1 2 = true from rfl, to_caps fu n l (by omega) (by omega), derive_caps fu n l k o (by omega) (by omega)]
    rcases deriveS_cases n l k o with ⟨e1, e2, e3⟩ | ⟨hv, x, hx, hfx, hk, h1, h2, h3, h4, h5, e⟩
    · rw [show ieq (deriveS n l k o).2.2.1 0 = false from ieq_f.2 e1, e3]
      rfl
    · rw [e] at hlen hval ⊢
      simp only [show ieq 0 0 = true from rfl] at hlen hval ⊢
      have hval := hval trivial
      have pw := valid_pw (validB_iff.1 hv).1
      generalize hnew : (⟨n, k, o, x.Right_Type, x.Right_Peer, x.Right_Code⟩ : Cap18) = new at hlen hval ⊢
      have loop := iter_fold (step := t8_3 fu) (fu := fu) l (fun j (s : Int × Int × Int) => ((), ((), ((), ((), ((), ((l.length : Int), ((j : Int), ((s.1, (s.2.1, (s.2.2, ()))), ((n + 1, (l ++ [new], ())), ((qo, (qt, (qp, (qc, ())))), ((k, (o, ())), ((n, (l, ())), ())))))))))))))
        (fun y s => bif ieq y.ID k then (y.Right_Type, y.Right_Peer, y.Right_Code) else s) (fun _ _ => True) (fun s => .inl ((), ((), ((), ((), ((), ((s.1, (s.2.1, (s.2.2, ()))), ((n + 1, (l ++ [new], ())), ((qo, (qt, (qp, (qc, ())))), ((k, (o, ())), ((n, (l, ())), ()))))))))))) (0, 0, 0) (by omega) trivial
        (fun i y s hi _ => by
          have h1 := getElem?_lt hi
          refine ⟨?_, trivial⟩
          simp only [t8_3, dlen_def, dat_nat, hi, ilt_len h1, iadd1 (show i < 9223372036854775807 by omega), show ile 0 0 = true from rfl, show ilt 0 2 = true from rfl]
          cases ieq y.ID k <;> rfl)
        (fun s _ => by simp only [t8_3, ilt_end])
      simp only [Int.natCast_zero] at loop
      rw [loop]
      rw [last_match k (fun y : Cap18 => (y.Right_Type, y.Right_Peer, y.Right_Code)) l (0, 0, 0) pw x hx hk]
      simp only [revoke_caps fu (n + 1) (l ++ [new]) k (by omega) (by omega)]
      have hrev : revokeS (n + 1) (l ++ [new]) k = ((n + 1, (specW (fun _ => false) (l ++ [new]) (fun j => ieq j k), ())), (0, ())) := by
        unfold revokeS
        rw [hval, List.find?_append, hfx]
        rfl
      rw [hrev]
      have hb : specW (fun _ => false) (l ++ [new]) (fun j => ieq j k) = specW (fun _ => false) l (fun j => ieq j k) := by
        rw [specW_append]
        have : mk (fun _ => false) l (fun j => ieq j k) new.Parent = true := mk_mono _ l _ _ (by subst hnew; exact ieq_iff.2 rfl)
        simp only [specW, this, Bool.true_or, cond_true, List.append_nil]
      rw [hb]
      have hbl := (specW_sub (fun _ => false) l (fun j => ieq j k)).length_le
      have hno : (specW (fun _ => false) l (fun j => ieq j k)).any (isHas o x.Right_Type x.Right_Peer x.Right_Code) = false := by
        rw [List.any_eq_false]
        intro y hy
        exact List.any_eq_false.1 h3 y ((specW_sub _ l _).subset hy)
      have hyes : (l ++ [new]).any (isHas o x.Right_Type x.Right_Peer x.Right_Code) = true := by
        subst hnew
        simp [isHas, ieq]
      simp only [show ieq 0 0 = true from rfl, show ile 0 1 = true from rfl, show ilt 1 2 = true from rfl, has_caps fu (n + 1) (l ++ [new]) _ _ _ _ (by omega) (by omega), hyes,
        has_caps fu (n + 1) (specW (fun _ => false) l (fun j => ieq j k)) _ _ _ _ (by omega) (by omega), hno, has_ref fu n l _ _ _ _ (by omega) (by omega)]
      have hq : (l ++ [new]).any (isHas qo qt qp qc) = (l.any (isHas qo qt qp qc) || (ieq qo o && (ieq qt x.Right_Type && (ieq qp x.Right_Peer && ieq qc x.Right_Code)))) := by
        subst hnew
        simp only [List.any_append, List.any_cons, List.any_nil, Bool.or_false, isHas]
        rw [ieq_comm o, ieq_comm x.Right_Type, ieq_comm x.Right_Peer, ieq_comm x.Right_Code]
      rw [hq]
      cases ieq qo o <;> cases ieq qt x.Right_Type <;> cases ieq qp x.Right_Peer <;> cases ieq qc x.Right_Code <;> simp [beqb]
theorem law8 (a0_Next : Int) (a0_Caps : List Cap18) (a1_f0 : Int) (a1_f1 : Int) (a2_Owner : Int) (a2_Right_Type : Int) (a2_Right_Peer : Int) (a2_Right_Code : Int)
    (_ : WfA A8 ((a0_Next, a0_Caps, ()), (a1_f0, a1_f1, ()), (a2_Owner, a2_Right_Type, a2_Right_Peer, a2_Right_Code, ()), ())) : s8 FU a0_Next a0_Caps a1_f0 a1_f1 a2_Owner a2_Right_Type a2_Right_Peer a2_Right_Code = some (true, ()) :=
  law8_at FU (by decide) aw18 _ _ _ _ _ _ _ _
end Go.G
