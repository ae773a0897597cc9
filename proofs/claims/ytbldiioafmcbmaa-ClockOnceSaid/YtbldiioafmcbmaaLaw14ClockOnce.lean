import Derived.Test.YtbldiioafmcbmaaP14k
import Derived.Test.YtbldiioafmcbmaaGPlain3
set_option linter.unusedVariables false
set_option linter.unusedSimpArgs false
namespace Go.G
set_option maxRecDepth 100000
def anyID (id : Int) (m : List Int) : Bool := m.foldl (fun acc x => acc || ieq x id) false
theorem foldl_or {α : Type} (p : α → Bool) : ∀ (m : List α) (b : Bool), m.foldl (fun acc x => acc || p x) b = (b || m.any p)
  | [], b => by simp
  | x :: m, b => by rw [List.foldl_cons, foldl_or p m, List.any_cons, Bool.or_assoc]
theorem once_in (fu : Nat) (id k i : Int) (m : List Int) (n : Int) (l : List Alarm14) (n0 : Int) (l0 : List Alarm14) (hf : m.length < fu) (hl : m.length < 1000000000) :
    iter (t4_5 fu) fu (id, ((), (k, ((), (i, (m, (false, ((dlen m), (0, ((n, (l, ())), ((n0, (l0, ())), ()))))))))))) = some (.inl (id, ((), (k, ((), (i, (m.any (fun x => ieq x id), ((n, (l, ())), ((n0, (l0, ())), ()))))))))) := by
  have := iter_fold (step := t4_5 fu) (fu := fu) m (fun j acc => (id, ((), (k, ((), (i, (m, (acc, ((dlen m), ((j : Int), ((n, (l, ())), ((n0, (l0, ())), ()))))))))))))
    (fun x acc => acc || ieq x id) (fun _ _ => True) (fun acc => .inl (id, ((), (k, ((), (i, (acc, ((n, (l, ())), ((n0, (l0, ())), ()))))))))) false hf trivial
    (fun j x acc hi _ => by
      have h1 := getElem?_lt hi
      simp only [t4_5, dlen_def, dat_nat, hi, ilt_len h1, iadd1 (show j < 9223372036854775807 by omega)]
      cases acc <;> exact ⟨rfl, trivial⟩)
    (fun acc _ => by simp only [t4_5, dlen_def, ilt_end])
  rw [show ((0 : Nat) : Int) = 0 from rfl] at this
  rw [this, foldl_or]
  simp
theorem rem60 (a : Int) (h : 0 ≤ a) : ∃ k : Nat, iadd .i64 1 (iwrap .i64 (irem .u8 a 60)) = (k : Int) ∧ 1 ≤ k ∧ k ≤ 60 := by
  have h1 : irem .u8 a 60 = a % 60 := by unfold irem; exact Int.tmod_eq_emod_of_nonneg h
  have h2 : iwrap .i64 (a % 60) = a % 60 := wrap64 (by omega)
  refine ⟨(1 + a % 60).toNat, ?_, by omega, by omega⟩
  rw [h1, h2, iadd64 (by omega)]
  omega
theorem law4_at (fu : Nat) (hf : 1000 < fu) (ha : s9 fu = some (true, ())) (n : Int) (l : List Alarm14) (id b : Int) (hb : 0 ≤ b) : s4 fu n l id b = some (true, ()) := by
  unfold s4
  rw [ha]
  simp only
  cases h : ilt 50 (dlen l) with
  | true => rfl
  | false =>
    rw [ilt_f, dlen_def] at h
    cases h9 : ilt 549755813888 n with
    | true => rfl
    | false =>
      rw [ilt_f] at h9
      simp only [show ieq 60 0 = false from rfl]
      rw [to14 fu n l (by omega) (by omega)]
      simp only
      obtain ⟨k, hk, k1, k2⟩ := rem60 b hb
      rw [hk, set14 fu n l id _ (by omega) (by omega)]
      simp only
      cases hv : validB n l with
      | false => simp [setF, hv, stT, ieq]
      | true =>
        obtain ⟨hV, v1, v2, v3⟩ := (valid_iff n l).1 hv
        rw [iadd64 (by omega)]
        cases hs : ieq (setF n l id (n + (k : Int))).2.1 0 with
        | false => rfl
        | true =>
          have hsv := setF_valid n l id (n + (k : Int))
          have hsl := setF_len n l id (n + (k : Int))
          have he : (setF n l id (n + (k : Int))).1.1 = n ∧ (setF n l id (n + (k : Int))).1.2.1 = setL l id (n + (k : Int)) := by
            unfold setF at hs ⊢
            rw [hv] at hs ⊢
            simp only [Bool.not_true, cond_false] at hs ⊢
            cases h1 : (ilt id 0 || (ile (n + (k : Int)) n || ilt 1099511627776 (n + (k : Int)))) with
            | true => rw [h1] at hs; cases hs
            | false =>
              rw [h1] at hs
              simp only [cond_false] at hs ⊢
              cases h2 : ile 32 (dlen (noK id l)) with
              | true => rw [h2] at hs; cases hs
              | false => exact ⟨rfl, rfl⟩
          rw [he.1, he.2] at hsv
          rw [he.2] at hsl
          simp only [he.1, he.2]
          obtain ⟨e, q1, q2⟩ := iter_meas (step := t4_3 fu) (fun s => ∃ (i : Nat) (m : List Alarm14), s = (id, ((), ((k : Int), ((), (((i + 1 : Nat) : Int), ((n + (i : Int), (m, ())), ((n, (l, ())), ()))))))) ∧ i ≤ 64 ∧ m.length ≤ 100 ∧ validB (n + (i : Int)) m = true ∧
              (∀ x ∈ m, x.ID = id → x.At = n + (k : Int)) ∧ (i < k → ∃ x ∈ m, x.ID = id))
            (fun s => (65 - s.2.2.2.2.1).toNat) (fun e => ∃ a, e = .inl a)
            (fun s ⟨i, m, hs, hi, hlen, hmv, hm1, hm2⟩ => by
              subst hs
              cases c1 : ile ((i + 1 : Nat) : Int) 64 with
              | false => right; exact ⟨.inl ((n + (i : Int), (m, ())), ((n, (l, ())), ())), by simp only [t4_3, c1], ⟨_, rfl⟩⟩
              | true =>
                left
                rw [ile_iff] at c1
                have hr : (rest (n + (i : Int) + 1) m).length ≤ m.length := List.length_filter_le _ _
                have hd : (dueIDs (n + (i : Int) + 1) m).length ≤ m.length := by unfold dueIDs; rw [List.length_map]; exact List.length_filter_le _ _
                have htv := tickF_valid (n + (i : Int)) m
                have htk := tick_ok hmv (by omega)
                rw [htk] at htv
                have hany : (dueIDs (n + (i : Int) + 1) m).any (fun x => ieq x id) = ieq ((i + 1 : Nat) : Int) (k : Int) := by
                  rw [Bool.eq_iff_iff, List.any_eq_true, ieq_iff]
                  constructor
                  · rintro ⟨y, hy, h2⟩
                    obtain ⟨x, x1, x2, x3⟩ := mem_due.1 hy
                    have := hm1 x x1 (by rw [x3]; exact ieq_iff.1 h2)
                    omega
                  · intro h2
                    obtain ⟨x, x1, x2⟩ := hm2 (by omega)
                    have := hm1 x x1 x2
                    exact ⟨x.ID, mem_due.2 ⟨x, x1, by omega, rfl⟩, ieq_iff.2 x2⟩
                refine ⟨(id, ((), ((k : Int), ((), (((i + 1 + 1 : Nat) : Int), ((n + (i : Int) + 1, (rest (n + (i : Int) + 1) m, ())), ((n, (l, ())), ()))))))), ?_, ⟨i + 1, rest (n + (i : Int) + 1) m, ?_, by omega, by omega, ?_, ?_, ?_⟩, ?_⟩
                · have hb : ∀ x : Bool, beqb x x = true := by intro x; cases x <;> rfl
                  have hadd : iadd .i64 n ((i + 1 : Nat) : Int) = n + (i : Int) + 1 := by rw [iadd64 (by omega)]; omega
                  simp only [t4_3, ile_iff.2 c1, tick14 fu (n + (i : Int)) m (by omega) (by omega), htk, stT, once_in fu id (k : Int) _ _ _ _ n l (show (dueIDs (n + (i : Int) + 1) m).length < fu by omega) (by omega), hany, hb, hadd, ieq_iff.2 rfl, iadd1 (show i + 1 < 9223372036854775807 by omega)]
                · rw [show n + ((i + 1 : Nat) : Int) = n + (i : Int) + 1 by omega]
                · rw [show n + ((i + 1 : Nat) : Int) = n + (i : Int) + 1 by omega]; exact htv
                · intro x hx h2; exact hm1 x (mem_rest.1 hx).1 h2
                · intro h2
                  obtain ⟨x, x1, x2⟩ := hm2 (by omega)
                  have := hm1 x x1 x2
                  exact ⟨x, mem_rest.2 ⟨x1, by omega⟩, x2⟩
                · simp only; omega) fu (id, ((), ((k : Int), ((), (1, ((n, (setL l id (n + (k : Int)), ())), ((n, (l, ())), ()))))))) ⟨0, setL l id (n + (k : Int)), by simp, by omega, by omega, by simpa using hsv, fun x hx h2 => by
                rcases mem_setL.1 hx with rfl | hx
                · rfl
                · exact absurd h2 hx.2, fun _ => ⟨_, mem_setL.2 (.inl rfl), rfl⟩⟩ (by simp only; omega)
          obtain ⟨a, rfl⟩ := q2
          rw [q1]
/-- ClockOnce is true. -/
theorem law4 (a0_Now : Int) (a0_Alarms : List Alarm14) (a1 : Int) (a2 : Int) (h : WfA A4 ((a0_Now, a0_Alarms, ()), a1, a2, ())) : s4 FU a0_Now a0_Alarms a1 a2 = some (true, ()) := law4_at FU (by decide) aw14 _ _ _ _ (wfd_u8 (T := C14) (h (.one (.d (.int .u8 a2))) (.tail _ (.tail _ (.head _))))).1
end Go.G
