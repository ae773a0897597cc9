import Derived.Test.YtmhleddbamfheaaP18m
set_option linter.unusedVariables false
set_option linter.unusedSimpArgs false
namespace Go.G
set_option maxRecDepth 100000
theorem chain_mem {n k : Nat} (h : k < n) : chainE k ∈ bootL ++ chainL n := List.mem_append_right _ (List.mem_map.2 ⟨k, List.mem_range.2 h, rfl⟩)
theorem chain_len (n : Nat) : (bootL ++ chainL n).length = 167 + n := by rw [List.length_append, boot_len2]; simp [chainL]

theorem law10_loop1 (fu : Nat) (hf : 1000 < fu) (a b : Int) : iter (t10_2 fu) fu (a, (b, ((), ((), (0, ((dlen bootL), (0, ((168, (bootL, ())), ((2, (0, (4, ()))), ())))))))))  =
    some (.inl (a, (b, ((), ((), (123, ((168, (bootL, ())), ((2, (0, (4, ()))), ())))))))) := by
  have hb := boot_len2
  have := iter_fold (step := t10_2 fu) (fu := fu) bootL (fun j (s : Int) => (a, (b, ((), ((), (s, ((dlen bootL), ((j : Int), ((168, (bootL, ())), ((2, (0, (4, ()))), ()))))))))))
    (fun (y : Cap18) (s : Int) => bif ieq y.Right_Type 2 && (ieq y.Right_Peer 0 && ieq y.Right_Code 4) then (bif ieq y.Parent 0 then y.ID else s) else s) (fun _ _ => True)
    (fun s => .inl (a, (b, ((), ((), (s, ((168, (bootL, ())), ((2, (0, (4, ()))), ())))))))) 0 (by omega) trivial
    (fun i y s hi _ => by
      have h1 := getElem?_lt hi
      refine ⟨?_, trivial⟩
      simp only [t10_2, dlen_def, dat_nat, hi, ilt_len h1, iadd1 (show i < 9223372036854775807 by omega)]
      cases ieq y.Right_Type 2 <;> cases ieq y.Right_Peer 0 <;> cases ieq y.Right_Code 4 <;> cases ieq y.Parent 0 <;> rfl)
    (fun s _ => by simp only [t10_2, dlen_def, ilt_end])
  simp only [Int.natCast_zero] at this
  rw [this, chain_root]

theorem law10_loop2 (fu : Nat) (hf : 1000 < fu) (b : Int) (L : Nat) (hL : L ≤ 10) : iter (t10_8 fu) fu (b, ((), ((), (123, ((L : Int), ((), ((L : Int), (0, ([], ((168, (bootL, ())), ((2, (0, (4, ()))), ()))))))))))) =
    some (.inl (b, ((), ((), ((L : Int), ((), ((List.range L).map (fun (j : Nat) => 168 + (j : Int)), ((168 + (L : Int), (bootL ++ chainL L, ())), ((2, (0, (4, ()))), ()))))))))) := by
  have := iter_fold (step := t10_8 fu) (fu := fu) (List.range L) (fun j (_ : Unit) => (b, ((), ((), (idc j, ((L : Int), ((), ((L : Int), ((j : Int), ((List.range j).map (fun (j : Nat) => 168 + (j : Int)), ((168 + (j : Int), (bootL ++ chainL j, ())), ((2, (0, (4, ()))), ()))))))))))))
    (fun _ s => s) (fun _ _ => True) (fun _ => .inl (b, ((), ((), ((L : Int), ((), ((List.range L).map (fun (j : Nat) => 168 + (j : Int)), ((168 + (L : Int), (bootL ++ chainL L, ())), ((2, (0, (4, ()))), ()))))))))) () (by simp; omega) trivial
    (fun i y s hi _ => by
      have h1 := getElem?_lt hi
      rw [List.length_range] at h1
      have hlen := chain_len i
      refine ⟨?_, trivial⟩
      have hstep := derive_caps fu (168 + (i : Int)) (bootL ++ chainL i) (idc i) (17 + (i : Int)) (by omega) (by omega)
      rw [chain_ok i (by omega)] at hstep
      have ha : iadd .i64 17 (i : Int) = 17 + (i : Int) := iadd64 (by omega)
      simp only [t10_8, ilt_len h1, ha, hstep, iadd1 (show i < 9223372036854775807 by omega), show ieq 0 0 = true from rfl]
      rw [dapp_ok (by simp; omega) (by simp; omega)]
      simp only [List.range_succ, List.map_append, List.map_cons, List.map_nil]
      rfl)
    (fun s _ => by simp only [t10_8, List.length_range, ilt_end])
  simp only [Int.natCast_zero] at this
  have e0 : bootL ++ chainL 0 = bootL := by simp [chainL]
  rw [e0] at this
  exact this

theorem law10_loop3 (fu : Nat) (hf : 1000 < fu) (L k : Nat) (hL : L ≤ 10) (hk : k < L) (n1 n2 : Int) : iter (t10_16 fu) fu ((), ((), ((k : Int), ((), ((L : Int), (0, ((n1, (bootL ++ chainL (k + 1), ())), ((n2, (bootL ++ chainL L, ())), ((2, (0, (4, ()))), ()))))))))) =
    some (.inl ((), ((), ((n1, (bootL ++ chainL (k + 1), ())), ((n2, (bootL ++ chainL L, ())), ((2, (0, (4, ()))), ())))))) := by
  have := iter_fold (step := t10_16 fu) (fu := fu) (List.range L) (fun j (_ : Unit) => ((), ((), ((k : Int), ((), ((L : Int), ((j : Int), ((n1, (bootL ++ chainL (k + 1), ())), ((n2, (bootL ++ chainL L, ())), ((2, (0, (4, ()))), ()))))))))))
    (fun _ s => s) (fun _ _ => True) (fun _ => .inl ((), ((), ((n1, (bootL ++ chainL (k + 1), ())), ((n2, (bootL ++ chainL L, ())), ((2, (0, (4, ()))), ())))))) () (by simp; omega) trivial
    (fun i y s hi _ => by
      have h1 := getElem?_lt hi
      rw [List.length_range] at h1
      have hlen := chain_len L
      have hlen2 := chain_len (k + 1)
      refine ⟨?_, trivial⟩
      have ha : iadd .i64 17 (i : Int) = 17 + (i : Int) := iadd64 (by omega)
      have hle : ile (i : Int) (k : Int) = decide (i < k + 1) := by simp only [ile]; congr 1; simp only [eq_iff_iff]; omega
      simp only [t10_16, ilt_len h1, ha, iadd1 (show i < 9223372036854775807 by omega), has_caps fu n2 (bootL ++ chainL L) _ _ _ _ (by omega) (by omega), has_caps fu n1 (bootL ++ chainL (k + 1)) _ _ _ _ (by omega) (by omega), chain_has L (by omega) i (by omega), chain_has (k + 1) (by omega) i (by omega), decide_eq_true h1, hle, beqb, BEq.rfl])
    (fun s _ => by simp only [t10_16, List.length_range, ilt_end])
  simp only [Int.natCast_zero] at this
  exact this

theorem law10_loop4 (fu : Nat) (hf : 1000 < fu) (k : Nat) (hk : k < 10) (n1 : Int) : iter (t10_21 fu) fu ((), ((), (1, ((n1, (bootL ++ chainL (k + 1), ())), ((2, (0, (4, ()))), ()))))) =
    some (.inl ((n1, (bootL ++ chainL (k + 1), ())), ((2, (0, (4, ()))), ()))) := by
  have := iter_fold (step := t10_21 fu) (fu := fu) (List.range 10) (fun j (_ : Unit) => ((), ((), (((j + 1 : Nat) : Int), ((n1, (bootL ++ chainL (k + 1), ())), ((2, (0, (4, ()))), ()))))))
    (fun _ s => s) (fun _ _ => True) (fun _ => .inl ((n1, (bootL ++ chainL (k + 1), ())), ((2, (0, (4, ()))), ()))) () (by simp; omega) trivial
    (fun i y s hi _ => by
      have h1 := getElem?_lt hi
      rw [List.length_range] at h1
      have hlen2 := chain_len (k + 1)
      refine ⟨?_, trivial⟩
      have hany : (bootL ++ chainL (k + 1)).any (isHas ((i + 1 : Nat) : Int) 2 0 4) = true := by
        rw [List.any_append, chain_comp (i + 1) (by omega) (by omega)]; rfl
      simp only [t10_21, show ile ((i + 1 : Nat) : Int) 10 = true from ile_iff.2 (by omega), has_caps fu n1 (bootL ++ chainL (k + 1)) _ _ _ _ (by omega) (by omega), hany, iadd1 (show i + 1 < 9223372036854775807 by omega)])
    (fun s _ => by simp only [t10_21, List.length_range]; rfl)
  exact this

theorem law10_at (fu : Nat) (hf : 1000 < fu) (hs : s11 fu = some ((168, (bootL, ())), ())) (ha : s12 fu = some (true, ())) (n b : Int) (hn : 0 ≤ n ∧ n ≤ 255) (hb : 0 ≤ b ∧ b ≤ 255) : s10 fu n b = some (true, ()) := by
  unfold s10
  rw [ha, hs]
  simp only
  rw [law10_loop1 fu hf]
  simp only [show ieq 10 0 = false from rfl]
  obtain ⟨n', rfl⟩ := Int.eq_ofNat_of_zero_le hn.1
  obtain ⟨b', rfl⟩ := Int.eq_ofNat_of_zero_le hb.1
  have e1 : irem .u8 (n' : Int) 10 = ((n' % 10 : Nat) : Int) := (Int.ofNat_tmod n' 10).symm
  have hm : n' % 10 < 10 := Nat.mod_lt _ (by omega)
  have e2 : iadd .i64 1 (iwrap .i64 (irem .u8 (n' : Int) 10)) = ((n' % 10 + 1 : Nat) : Int) := by
    rw [e1, show iwrap .i64 ((n' % 10 : Nat) : Int) = ((n' % 10 : Nat) : Int) from wrap64 (by omega), iadd64 (by omega)]
    omega
  rw [e2]
  generalize hL : n' % 10 + 1 = L
  have hL1 : 1 ≤ L ∧ L ≤ 10 := by omega
  rw [law10_loop2 fu hf _ L hL1.2]
  simp only [show ieq (L : Int) 0 = false from ieq_f.2 (by omega)]
  have e3 : irem .i64 (iwrap .i64 (b' : Int)) (L : Int) = ((b' % L : Nat) : Int) := by
    rw [show iwrap .i64 (b' : Int) = (b' : Int) from wrap64 (by omega)]
    exact (Int.ofNat_tmod b' L).symm
  rw [e3]
  generalize hk : b' % L = k
  have hkL : k < L := by rw [← hk]; exact Nat.mod_lt _ (by omega)
  have hget : ((List.range L).map (fun (j : Nat) => 168 + (j : Int)))[k]? = some (168 + (k : Int)) := by
    rw [List.getElem?_map, List.getElem?_range hkL]; rfl
  have hlen := chain_len L
  have hlen2 := chain_len (k + 1)
  have hrev : revokeS (168 + (L : Int)) (bootL ++ chainL L) (168 + (k : Int)) = ((168 + (L : Int), (bootL ++ chainL (k + 1), ())), (0, ())) := by
    have := revokeS_ok (chain_val L (by omega)) (chain_mem hkL)
    simp only [chainE] at this
    rw [this, chain_spec L (by omega) k hkL]
  simp only [dat_nat, hget, revoke_caps fu (168 + (L : Int)) (bootL ++ chainL L) _ (by omega) (by omega), hrev, show ieq 0 0 = true from rfl, dlen_def, hlen, hlen2]
  rw [isub64 (a := (L : Int)) (by omega), isub64 (a := (L : Int) - 1) (by omega), isub64 (by omega), show ieq ((167 + (k + 1) : Nat) : Int) (((167 + L : Nat) : Int) - ((L : Int) - 1 - (k : Int))) = true from ieq_iff.2 (by omega)]
  simp only
  rw [law10_loop3 fu hf L k hL1.2 hkL]
  simp only
  rw [law10_loop4 fu hf k (by omega)]
theorem law10 (a0 : Int) (a1 : Int) (h : WfA A10 (a0, a1, ())) : s10 FU a0 a1 = some (true, ()) := by
  have h1 : WfD C18 (.int .u8 a0) := h (.one (.d (.int .u8 a0))) (by simp [embPs, embP, embC])
  have h2 : WfD C18 (.int .u8 a1) := h (.one (.d (.int .u8 a1))) (by simp [embPs, embP, embC])
  have b1 : 0 ≤ a0 ∧ a0 ≤ 255 := by cases h1 with | int _ _ h => simpa [Lit.wf, IntKind.min, IntKind.max, IntKind.signed, IntKind.bits] using h
  have b2 : 0 ≤ a1 ∧ a1 ≤ 255 := by cases h2 with | int _ _ h => simpa [Lit.wf, IntKind.min, IntKind.max, IntKind.signed, IntKind.bits] using h
  exact law10_at FU (by decide) boot_caps aw18 _ _ b1 b2
end Go.G
