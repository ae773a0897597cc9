import Derived.Test.YtmhleddbamfheaaP18i
set_option linter.unusedVariables false
set_option linter.unusedSimpArgs false
namespace Go.G
set_option maxRecDepth 100000
/-- The marks behind a walk. -/
def mk (g : Cap18 → Bool) : List Cap18 → (Int → Bool) → Int → Bool
  | [], m => m
  | x :: r, m => bif m x.Parent || g x then mk g r (fun k => ieq k x.ID || m k) else mk g r m
theorem specW_append (g : Cap18 → Bool) : ∀ (l s : List Cap18) (m : Int → Bool), specW g (l ++ s) m = specW g l m ++ specW g s (mk g l m)
  | [], _, _ => rfl
  | x :: l, s, m => by
    simp only [List.cons_append, specW, mk]
    cases m x.Parent || g x with
    | true => simp only [cond_true, specW_append g l s]
    | false => simp only [cond_false, specW_append g l s, List.cons_append]
theorem mk_mono (g : Cap18 → Bool) : ∀ (l : List Cap18) (m : Int → Bool) (j : Int), m j = true → mk g l m j = true
  | [], _, _, h => h
  | x :: l, m, j, h => by
    simp only [mk]
    cases m x.Parent || g x with
    | true => exact mk_mono g l _ j (by simp [h])
    | false => exact mk_mono g l m j h
theorem specW_none (g : Cap18 → Bool) : ∀ (l : List Cap18), (∀ x ∈ l, g x = false) → specW g l (fun _ => false) = l ∧ mk g l (fun _ => false) = fun _ => false
  | [], _ => ⟨rfl, rfl⟩
  | x :: l, h => by
    have ih := specW_none g l fun y hy => h y (by simp [hy])
    simp only [specW, mk, h x (by simp), Bool.or_false, cond_false, ih]
    exact ⟨trivial, trivial⟩
theorem specW_all (g : Cap18 → Bool) : ∀ (l : List Cap18) (m : Int → Bool), (∀ x ∈ l, g x = true) → specW g l m = []
  | [], _, _ => rfl
  | x :: l, m, h => by
    simp only [specW, h x (by simp), Bool.or_true, cond_true]
    exact specW_all g l _ fun y hy => h y (by simp [hy])

theorem last_match {α : Type} (k : Int) (f : Cap18 → α) : ∀ (l : List Cap18) (s : α), l.Pairwise Ahead → ∀ x ∈ l, x.ID = k → l.foldl (fun s y => bif ieq y.ID k then f y else s) s = f x
  | a :: l, s, h, x, hx, hk => by
    rw [List.pairwise_cons] at h
    rw [List.foldl_cons]
    have stay : ∀ (r : List Cap18) (s : α), (∀ y ∈ r, y.ID ≠ k) → r.foldl (fun s y => bif ieq y.ID k then f y else s) s = s := by
      intro r
      induction r with
      | nil => intro s _; rfl
      | cons b r ih =>
        intro s hr
        rw [List.foldl_cons, show ieq b.ID k = false from ieq_f.2 (hr b (by simp))]
        exact ih s fun y hy => hr y (by simp [hy])
    rcases List.mem_cons.1 hx with rfl | hx
    · rw [show ieq x.ID k = true from ieq_iff.2 hk]
      exact stay l _ fun y hy => by have := (h.1 y hy).1; omega
    · exact last_match k f l _ h.2 x hx hk
end Go.G
