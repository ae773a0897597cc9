import Derived.Test.YtmhleddbamfheaaP18l
import Derived.Test.YtmhleddbamfheaaP18boot
set_option linter.unusedVariables false
set_option linter.unusedSimpArgs false
namespace Go.G
set_option maxRecDepth 100000
theorem law9_at (fu : Nat) (hf : 1000 < fu) (ha : s12 fu = some (true, ())) (n : Int) (l : List Cap18) (k o : Int) (hk : 0 ≤ k ∧ k ≤ 255) (ho : 0 ≤ o ∧ o ≤ 255) : s9 fu n l k o = some (true, ()) := by
  unfold s9
  rw [ha]
  simp only [dlen_def]
  by_cases h : 60 < l.length
  · rw [show ilt 60 (l.length : Int) = true from ilt_iff.2 (by omega)]
  · rw [show ilt 60 (l.length : Int) = false from ilt_f.2 (by omega)]
    simp only [valid_ref fu n l (by omega) (by omega)]
    cases hv : validB n l with
    | false => rfl
    | true =>
      simp only
      cases hn : ile 1099511627776 n with
      | true => rfl
      | false =>
        rw [ile_f] at hn
        obtain ⟨v1, v2, v3, v4⟩ := validB_iff.1 hv
        simp only [to_caps fu n l (by omega) (by omega)]
        have loop := iter_fold (step := t9_3 fu) (fu := fu) l (fun j (s : List Cap18 × List Cap18) => (k, (o, ((), ((), ((), ((l.length : Int), ((j : Int), (s.1, ((n, (s.2, ())), ((n, (l, ())), ()))))))))))) 
          rootStep (fun i s => RootInv n l i s ∧ s.1.length ≤ i) (fun s => .inl (k, (o, ((), ((), (s.1, ((n, (s.2, ())), ((n, (l, ())), ())))))))) ([], l) (by omega) ⟨⟨by simp, hv, List.Sublist.refl _, rfl, by simp⟩, by simp⟩
          (fun i y s hi hI => by
            have h1 := getElem?_lt hi
            have hsl := hI.1.sub.length_le
            refine ⟨?_, hI.1.step hv hi, by unfold rootStep; cases ieq y.Parent 0 <;> simp <;> omega⟩
            simp only [t9_3, dlen_def, dat_nat, hi, ilt_len h1, iadd1 (show i < 9223372036854775807 by omega), rootStep]
            rw [dapp_ok (by simp; omega) (by simp; omega)]
            cases hr : ieq y.Parent 0 with
            | false => rfl
            | true =>
              simp only [cond_true, revoke_caps fu n s.2 y.ID (by omega) (by omega), revokeS_ok hI.1.val (hI.1.mem hi hr)]
              rfl)
          (fun s _ => by simp only [t9_3, ilt_end])
        have inv := foldI rootStep (RootInv n l) l (fun i a s hi hI => hI.step hv hi) l 0 ([], l) rfl (Nat.zero_le _) ⟨by simp, hv, List.Sublist.refl _, rfl, by simp⟩
        have fin := inv.fin
        simp only [Int.natCast_zero] at loop
        rw [loop]
        generalize hS : l.foldl (fun s a => rootStep a s) ([], l) = S at fin inv ⊢
        obtain ⟨S1, S2⟩ := S
        simp only at fin
        obtain ⟨f1, f2⟩ := fin
        have hfl : (l.filter root0).length ≤ l.length := List.length_filter_le _ _
        subst f1
        subst f2
        have hva := inv.val
        simp only at hva
        simp only [from_caps fu n (l.filter root0) (by omega) (by omega), same_ref fu (l.filter root0) (l.filter root0) (by omega) (by omega), decide_true]
        have hmem : ∀ x ∈ l.filter root0, x.Owner = 0 := fun x hx => by
          rw [List.mem_filter] at hx
          obtain ⟨_, _, _, hok⟩ := valid_okAt l [] v1 x hx.1
          rcases parOK_inv (okAt_parOK hok) with ⟨_, h2⟩ | ⟨h1, _⟩
          · exact h2
          · exact absurd (ieq_iff.1 hx.2) h1
        generalize hR : l.filter root0 = R at hfl hva hmem ⊢
        by_cases hz : R.length = 0
        · rw [show ieq (R.length : Int) 0 = true from ieq_iff.2 (by omega)]
        · rw [show ieq (R.length : Int) 0 = false from ieq_f.2 (by omega)]
          simp only
          have w1 : iwrap .i64 k = k := wrap64 (by omega)
          have w2 : iwrap .i64 o = o := wrap64 (by omega)
          rw [w1, w2]
          have hj : irem .i64 k (R.length : Int) = ((k.toNat % R.length : Nat) : Int) := by
            unfold irem
            obtain ⟨k', rfl⟩ := Int.eq_ofNat_of_zero_le hk.1
            exact (Int.ofNat_tmod k' R.length).symm
          have ho31 : irem .i64 o 31 = ((o.toNat % 31 : Nat) : Int) := by
            unfold irem
            obtain ⟨o', rfl⟩ := Int.eq_ofNat_of_zero_le ho.1
            exact (Int.ofNat_tmod o' 31).symm
          rw [hj, ho31]
          have hlt : k.toNat % R.length < R.length := Nat.mod_lt _ (by omega)
          have ht : o.toNat % 31 < 31 := Nat.mod_lt _ (by omega)
          rw [dat_nat, List.getElem?_eq_getElem hlt, iadd64 (by omega)]
          simp only [show ieq 31 0 = false from rfl]
          have hx : R[k.toNat % R.length] ∈ R := List.getElem_mem hlt
          generalize R[k.toNat % R.length] = x at hx ⊢
          have hno : R.any (isHas (1 + ((o.toNat % 31 : Nat) : Int)) x.Right_Type x.Right_Peer x.Right_Code) = false := by
            rw [List.any_eq_false]
            intro y hy
            simp only [isHas, hmem y hy, show ieq 0 (1 + ((o.toNat % 31 : Nat) : Int)) = false from ieq_f.2 (by omega)]
            simp
          have hd := deriveS_ok hva hx (o := 1 + ((o.toNat % 31 : Nat) : Int)) (by omega) hno (by omega) (by omega)
          simp only [derive_caps fu n R _ _ (by omega) (by omega), hd, show ieq 0 0 = true from rfl, has_caps fu n R _ _ _ _ (by omega) (by omega), hno, has_caps fu (n + 1) (R ++ [(⟨n, x.ID, 1 + ((o.toNat % 31 : Nat) : Int), x.Right_Type, x.Right_Peer, x.Right_Code⟩ : Cap18)]) _ _ _ _ (by simp; omega) (by simp; omega)]
          simp [isHas, ieq]
theorem law9 (a0_Next : Int) (a0_Caps : List Cap18) (a1 : Int) (a2 : Int) (h : WfA A9 ((a0_Next, a0_Caps, ()), a1, a2, ())) : s9 FU a0_Next a0_Caps a1 a2 = some (true, ()) := by
  have h1 : WfD C18 (.int .u8 a1) := h (.one (.d (.int .u8 a1))) (by simp [embPs, embP, embC])
  have h2 : WfD C18 (.int .u8 a2) := h (.one (.d (.int .u8 a2))) (by simp [embPs, embP, embC])
  have b1 : 0 ≤ a1 ∧ a1 ≤ 255 := by cases h1 with | int _ _ h => simpa [Lit.wf, IntKind.min, IntKind.max, IntKind.signed, IntKind.bits] using h
  have b2 : 0 ≤ a2 ∧ a2 ≤ 255 := by cases h2 with | int _ _ h => simpa [Lit.wf, IntKind.min, IntKind.max, IntKind.signed, IntKind.bits] using h
  exact law9_at FU (by decide) aw18 _ _ _ _ b1 b2
end Go.G
