import Derived.Test.YtmhleddbamfheaaP18k
import Derived.Test.YtmhleddbamfheaaP18boot
set_option linter.unusedVariables false
set_option linter.unusedSimpArgs false
namespace Go.G
set_option maxRecDepth 100000
theorem law5_at (fu : Nat) (hf : 1000 < fu) (ha : s12 fu = some (true, ())) (n : Int) (l : List Cap18) (k : Int) : s5 fu n l k = some (true, ()) := by
  unfold s5
  rw [ha]
  simp only [dlen_def]
  by_cases h : 300 < l.length
  · rw [show ilt 300 (l.length : Int) = true from ilt_iff.2 (by omega)]
  · rw [show ilt 300 (l.length : Int) = false from ilt_f.2 (by omega)]
    simp only [to_caps fu n l (by omega) (by omega), revoke_caps fu n l k (by omega) (by omega)]
    rcases revokeS_cases n l k with ⟨e1, e2⟩ | ⟨hv, x, hfx, hx, hxk, e⟩
    · rw [e2, show ieq (revokeS n l k).2.1 0 = false from ieq_f.2 e1]
      rfl
    · rw [e]
      obtain ⟨v1, v2, v3, v4⟩ := validB_iff.1 hv
      have hid := validL_mem l [] v1 (by simp [lastID]) x hx
      have spec := mk_spec l (fun j => ieq j k) (valid_pw v1) (valid_parent_lt v1)
      simp only [show ieq 0 0 = true from rfl]
      generalize hM : mk gF l (fun j => ieq j k) = M at spec
      generalize hW : specW (fun _ => false) l (fun j => ieq j k) = W
      have hW' : W = l.filter (fun x => !M x.Parent) := by rw [← hW]; exact spec.1
      have hWl : W.length ≤ l.length := by rw [hW']; exact List.length_filter_le _ _
      have loop := iter_fold (step := t5_3 fu) (fu := fu) l (fun j (s : List Cap18) => (k, ((), ((), ((), ((l.length : Int), ((j : Int), (s, ((n, (W, ())), ((n, (l, ())), ()))))))))))
        (fun y s => bif M y.Parent then s else s ++ [y]) (fun i s => s.length ≤ i) (fun s => .inl ((), ((), (s, ((n, (W, ())), ((n, (l, ())), ())))))) [] (by omega) (by simp)
        (fun i y s hi hI => by
          have h1 := getElem?_lt hi
          refine ⟨?_, by cases M y.Parent <;> simp <;> omega⟩
          have hd := derived_ref fu n l k y (by omega) (by omega) v1 (by omega) (List.mem_of_getElem? hi)
          rw [hM] at hd
          simp only [t5_3, dlen_def, dat_nat, hi, ilt_len h1, iadd1 (show i < 9223372036854775807 by omega), hd]
          rw [dapp_ok (by simp; omega) (by simp; omega)]
          cases M y.Parent <;> rfl)
        (fun s hI => by simp only [t5_3, ilt_end])
      simp only [Int.natCast_zero] at loop
      rw [loop]
      have efold : ∀ (l acc : List Cap18), l.foldl (fun s y => bif M y.Parent then s else s ++ [y]) acc = acc ++ l.filter (fun x => !M x.Parent) := by
        intro l
        induction l with
        | nil => simp
        | cons x l ih =>
          intro acc
          rw [List.foldl_cons, ih]
          cases hx : M x.Parent <;> simp [hx]
      rw [efold, List.nil_append, ← hW']
      simp only [from_caps fu n W (by omega) (by omega), same_ref fu W W (by omega) (by omega), decide_true]
theorem law5 (a0_Next : Int) (a0_Caps : List Cap18) (a1 : Int) (_ : WfA A5 ((a0_Next, a0_Caps, ()), a1, ())) : s5 FU a0_Next a0_Caps a1 = some (true, ()) := law5_at FU (by decide) aw18 _ _ _
end Go.G
