import Derived.Test.YtmknondapmmehaaGLoopDef
import Derived.IntWalk
set_option linter.unusedVariables false
set_option linter.unusedSimpArgs false
namespace Go.G
theorem ieq_iff {a b : Int} : ieq a b = true ↔ a = b := by simp [ieq]
theorem ilt_iff {a b : Int} : ilt a b = true ↔ a < b := by simp [ilt]
theorem ile_iff {a b : Int} : ile a b = true ↔ a ≤ b := by simp [ile]

section
variable {α ε : Type} {step : α → Option (α ⊕ ε)}
/-- A loop by the states at its head. -/
theorem iter_steps (st : Nat → α) {e : ε} : ∀ (n k fu : Nat), (∀ j, k ≤ j → j < k + n → step (st j) = some (.inl (st (j + 1)))) → step (st (k + n)) = some (.inr e) → n < fu → iter step fu (st k) = some e
  | 0, k, fu + 1, _, he, _ => by simp only [iter, Nat.add_zero] at he ⊢; rw [he]
  | n + 1, k, fu + 1, h, he, hf => by
    simp only [iter]
    rw [h k (Nat.le_refl _) (by omega)]
    exact iter_steps st n (k + 1) fu (fun j h1 h2 => h j (by omega) (by omega)) (by rw [show k + 1 + n = k + (n + 1) by omega]; exact he) (by omega)
  | _, _, 0, _, _, hf => absurd hf (by omega)

theorem iter_run (st : Nat → α) {e : ε} {n fu : Nat} (h : ∀ j, j < n → step (st j) = some (.inl (st (j + 1)))) (he : step (st n) = some (.inr e)) (hf : n < fu) : iter step fu (st 0) = some e :=
  iter_steps st n 0 fu (fun j _ h2 => h j (by omega)) (by simpa using he) hf
end
theorem dat_nat {α : Type} (l : List α) (k : Nat) : dat l (k : Int) = l[k]? := by simp [dat]
theorem dlen_def {α : Type} (l : List α) : dlen l = (l.length : Int) := rfl
theorem iadd1 {k : Nat} (h : k < 9223372036854775807) : iadd .i64 (k : Int) 1 = ((k + 1 : Nat) : Int) := by
  unfold iadd
  have : ((k : Int) + 1) = ((k + 1 : Nat) : Int) := by omega
  rw [this]
  rw [Go.IntWalk.i64_left]
  exact Go.IntWalk.wrap64_in _ (by omega)

/-- A loop that looks for the first place. -/
theorem iter_search {α ε : Type} {step : α → Option (α ⊕ ε)} (st : Nat → α) (q : Nat → Bool) (f : Nat → ε) {e : ε} {n fu : Nat}
    (hin : ∀ j, j < n → q j = false → step (st j) = some (.inl (st (j + 1)))) (hout : ∀ j, j < n → q j = true → step (st j) = some (.inr (f j))) (hend : step (st n) = some (.inr e)) (hf : n < fu) :
    (∃ j, j < n ∧ q j = true ∧ (∀ i, i < j → q i = false) ∧ iter step fu (st 0) = some (f j)) ∨ ((∀ j, j < n → q j = false) ∧ iter step fu (st 0) = some e) := by
  have key : ∀ m, m ≤ n → (∃ j, j < m ∧ q j = true ∧ ∀ i, i < j → q i = false) ∨ ∀ j, j < m → q j = false := by
    intro m
    induction m with
    | zero => exact fun _ => .inr fun j hj => absurd hj (by omega)
    | succ m ih =>
      intro hm
      rcases ih (by omega) with ⟨j, h1, h2⟩ | h
      · exact .inl ⟨j, by omega, h2⟩
      · cases hq : q m with
        | true => exact .inl ⟨m, by omega, hq, h⟩
        | false =>
          refine .inr fun j hj => ?_
          rcases Nat.lt_or_ge j m with h' | h'
          · exact h j h'
          · rw [show j = m by omega]; exact hq
  rcases key n (Nat.le_refl _) with ⟨j, h1, h2, h3⟩ | h
  · exact .inl ⟨j, h1, h2, h3, iter_run st (fun i hi => hin i (by omega) (h3 i hi)) (hout j h1 h2) (by omega)⟩
  · exact .inr ⟨h, iter_run st (fun i hi => hin i hi (h i hi)) hend hf⟩
end Go.G
