import Derived.Test.YtbldiioafmcbmaaP14j
import Derived.Test.YtbldiioafmcbmaaP14aw
set_option linter.unusedVariables false
set_option linter.unusedSimpArgs false
namespace Go.G
set_option maxRecDepth 100000
theorem mem_noK {id : Int} {l : List Alarm14} {x : Alarm14} : x ∈ noK id l ↔ x ∈ l ∧ x.ID ≠ id := by
  unfold noK keyB
  rw [List.mem_filter]
  simp [ieq]
theorem mem_setL {l : List Alarm14} {id at_ : Int} {x : Alarm14} : x ∈ setL l id at_ ↔ x = ⟨id, at_⟩ ∨ (x ∈ l ∧ x.ID ≠ id) := by
  unfold setL
  rw [List.mem_append, List.mem_cons, ← mem_noK]
  constructor
  · rintro (h | h | h)
    · exact .inr (List.mem_of_mem_take h)
    · exact .inl h
    · exact .inr (List.mem_of_mem_drop h)
  · rintro (h | h)
    · exact .inr (.inl h)
    · rw [← List.take_append_drop (pos l id) (noK id l), List.mem_append] at h
      rcases h with h | h
      · exact .inl h
      · exact .inr (.inr h)
theorem noK_setL (l : List Alarm14) (id at_ : Int) : noK id (setL l id at_) = noK id l := by
  have h1 : ∀ m : List Alarm14, (∀ x ∈ m, x ∈ noK id l) → m.filter (fun x => !keyB id x) = m := fun m hm => by
    rw [List.filter_eq_self]
    intro x hx
    have := (mem_noK.1 (hm x hx)).2
    simp [keyB, ieq, this]
  have hk : keyB id (⟨id, at_⟩ : Alarm14) = true := ieq_iff.2 rfl
  unfold setL
  conv => lhs; unfold noK
  rw [List.filter_append, List.filter_cons]
  have e1 : ((l.filter (fun x => !keyB id x)).take (pos l id)).filter (fun x => !keyB id x) = (noK id l).take (pos l id) := h1 _ (fun x hx => List.mem_of_mem_take hx)
  have e2 : ((l.filter (fun x => !keyB id x)).drop (pos l id)).filter (fun x => !keyB id x) = (noK id l).drop (pos l id) := h1 _ (fun x hx => List.mem_of_mem_drop hx)
  rw [e1, e2]
  simp [hk]
def hasB (l : List Alarm14) (id at_ : Int) : Bool := l.any (fun y => decide (y = ⟨id, at_⟩))
theorem hasB_iff {l : List Alarm14} {id at_ : Int} : hasB l id at_ = true ↔ (⟨id, at_⟩ : Alarm14) ∈ l := by
  unfold hasB
  rw [List.any_eq_true]
  constructor
  · rintro ⟨x, hx, h⟩
    rw [decide_eq_true_eq] at h
    exact h ▸ hx
  · intro h; exact ⟨_, h, by simp⟩
theorem has14 (fu : Nat) (n : Int) (l : List Alarm14) (id at_ : Int) (hf : l.length < fu) (hl : l.length < 1000000000) : s25 fu n l id at_ = some (hasB l id at_, ()) := by
  unfold s25
  have := iter_any (step := t25_0 fu) (fu := fu) l (fun j => ((), ((), ((dlen l), ((j : Int), ((id, (at_, ())), ((n, (l, ())), ()))))))) (fun y => decide (y = ⟨id, at_⟩))
    (.inr (.inl (true, ((id, (at_, ())), ((n, (l, ())), ()))))) (.inl ((id, (at_, ())), ((n, (l, ())), ()))) hf
    (fun i x hi hx => by
      have h1 := getElem?_lt hi
      rw [← al_eq] at hx
      simp only [t25_0, dlen_def, dat_nat, hi, ilt_len h1, iadd1 (show i < 9223372036854775807 by omega)]
      cases e1 : ieq x.ID id <;> cases e2 : ieq x.At at_ <;> simp_all)
    (fun i x hi hx => by
      have h1 := getElem?_lt hi
      rw [← al_eq] at hx
      simp only [t25_0, dlen_def, dat_nat, hi, ilt_len h1]
      cases e1 : ieq x.ID id <;> cases e2 : ieq x.At at_ <;> simp_all)
    (by simp only [t25_0, dlen_def, ilt_end])
  rw [show ((0 : Nat) : Int) = 0 from rfl] at this
  rw [this]
  unfold hasB
  cases l.any (fun y => decide (y = ⟨id, at_⟩)) <;> rfl
theorem fold_min (r : List Alarm14) : ∀ m : Int, (r.foldl (fun m y => bif ilt y.At m then y.At else m) m ≤ m ∧ ∀ y ∈ r, r.foldl (fun m y => bif ilt y.At m then y.At else m) m ≤ y.At) ∧
    (r.foldl (fun m y => bif ilt y.At m then y.At else m) m = m ∨ ∃ y ∈ r, y.At = r.foldl (fun m y => bif ilt y.At m then y.At else m) m) := by
  induction r with
  | nil => intro m; simp
  | cons x r ih =>
    intro m
    simp only [List.foldl_cons]
    obtain ⟨⟨h1, h2⟩, h3⟩ := ih (bif ilt x.At m then x.At else m)
    cases hx : ilt x.At m with
    | true =>
      rw [hx] at h1 h2 h3
      have hx' := ilt_iff.1 hx
      simp only [cond_true] at *
      refine ⟨⟨by omega, fun y hy => ?_⟩, ?_⟩
      · rcases List.mem_cons.1 hy with rfl | hy
        · exact h1
        · exact h2 y hy
      · rcases h3 with h3 | ⟨y, hy, h3⟩
        · exact .inr ⟨x, by simp, h3.symm⟩
        · exact .inr ⟨y, by simp [hy], h3⟩
    | false =>
      rw [hx] at h1 h2 h3
      have hx' := ilt_f.1 hx
      simp only [cond_false] at *
      refine ⟨⟨by omega, fun y hy => ?_⟩, ?_⟩
      · rcases List.mem_cons.1 hy with rfl | hy
        · omega
        · exact h2 y hy
      · rcases h3 with h3 | ⟨y, hy, h3⟩
        · exact .inl h3
        · exact .inr ⟨y, by simp [hy], h3⟩
theorem next_spec {l : List Alarm14} (h : l ≠ []) : (nextF l).2.1 = true ∧ (∀ x ∈ l, (nextF l).1 ≤ x.At) ∧ ∃ x ∈ l, x.At = (nextF l).1 := by
  cases l with
  | nil => exact absurd rfl h
  | cons x r =>
    obtain ⟨⟨h1, h2⟩, h3⟩ := fold_min r x.At
    refine ⟨rfl, fun y hy => ?_, ?_⟩
    · rcases List.mem_cons.1 hy with rfl | hy
      · exact h1
      · exact h2 y hy
    · rcases h3 with h3 | ⟨y, hy, h3⟩
      · exact ⟨x, by simp, h3.symm⟩
      · exact ⟨y, by simp [hy], h3⟩
theorem tick_ok {n : Int} {l : List Alarm14} (h : validB n l = true) (hn : n < 1099511627776) : tickF n l = (stT (n + 1) (rest (n + 1) l), dueIDs (n + 1) l, ()) := by
  unfold tickF
  rw [h, show ieq n 1099511627776 = false from ieq_f.2 (by omega)]
  rfl
theorem mem_rest {n : Int} {l : List Alarm14} {x : Alarm14} : x ∈ rest n l ↔ x ∈ l ∧ x.At ≠ n := by
  unfold rest due
  rw [List.mem_filter]
  simp [ieq]
theorem mem_due {n : Int} {l : List Alarm14} {i : Int} : i ∈ dueIDs n l ↔ ∃ x ∈ l, x.At = n ∧ x.ID = i := by
  unfold dueIDs due
  rw [List.mem_map]
  constructor
  · rintro ⟨x, hx, rfl⟩
    rw [List.mem_filter] at hx
    exact ⟨x, hx.1, ieq_iff.1 hx.2, rfl⟩
  · rintro ⟨x, hx, h1, h2⟩
    exact ⟨x, List.mem_filter.2 ⟨hx, ieq_iff.2 h1⟩, h2⟩
end Go.G
