import Derived.Test.YtmbblacaodapcaaP10h
set_option linter.unusedVariables false
set_option linter.unusedSimpArgs false
namespace Go.G
def insW (l : List Window10) (w : Window10) : List Window10 := l.take (pos l w) ++ w :: l.drop (pos l w)
theorem ins_any (l : List Window10) (w : Window10) (c : Window10 → Bool) : (insW l w).any c = (c w || l.any c) := by
  have h : l.any c = ((l.take (pos l w)).any c || (l.drop (pos l w)).any c) := by
    conv => lhs; rw [← List.take_append_drop (pos l w) l]
    rw [List.any_append]
  unfold insW
  rw [h, List.any_append, List.any_cons]
  cases c w <;> simp
theorem ins_filter (l : List Window10) (w : Window10) (c : Window10 → Bool) (hw : c w = false) (hl : ∀ x ∈ l, c x = true) : (insW l w).filter c = l := by
  unfold insW
  rw [List.filter_append, List.filter_cons, hw]
  simp only [Bool.false_eq_true, if_false]
  rw [← List.filter_append, List.take_append_drop, List.filter_eq_self]
  exact hl
theorem ins_mem {l : List Window10} {w x : Window10} : x ∈ insW l w ↔ x = w ∨ x ∈ l := by
  unfold insW
  have h : x ∈ l ↔ x ∈ l.take (pos l w) ∨ x ∈ l.drop (pos l w) := by
    rw [← List.mem_append, List.take_append_drop]
  rw [h, List.mem_append, List.mem_cons]
  constructor
  · rintro (h | h | h) <;> simp [h]
  · rintro (h | h | h) <;> simp [h]
theorem ins_len (l : List Window10) (w : Window10) : (insW l w).length = l.length + 1 := by
  unfold insW
  have := pos_le l w
  simp
  omega

theorem key_self (w : Window10) : keyB w.Device w.Tag w = true := keyB_iff.2 ⟨rfl, rfl⟩
theorem key_symm (w x : Window10) : keyB w.Device w.Tag x = keyB x.Device x.Tag w := by
  unfold keyB
  rw [ieq_comm x.Device, ieq_comm x.Tag]

theorem sorted_ext : ∀ (l m : List Window10), l.Pairwise (fun a b => befW a b = true) → m.Pairwise (fun a b => befW a b = true) → (∀ x, x ∈ l ↔ x ∈ m) → l = m
  | [], [], _, _, _ => rfl
  | [], b :: m, _, _, h => by have := (h b).2 (by simp); cases this
  | a :: l, [], _, _, h => by have := (h a).1 (by simp); cases this
  | a :: l, b :: m, hl, hm, h => by
    obtain ⟨l1, l2⟩ := List.pairwise_cons.1 hl
    obtain ⟨m1, m2⟩ := List.pairwise_cons.1 hm
    have hab : a = b := by
      rcases List.mem_cons.1 ((h a).1 (by simp)) with h1 | h1
      · exact h1
      · rcases List.mem_cons.1 ((h b).2 (by simp)) with h2 | h2
        · exact h2.symm
        · have := befW_trans (m1 a h1) (l1 b h2)
          rw [befW_irr] at this
          cases this
    subst hab
    congr 1
    refine sorted_ext l m l2 m2 fun x => ⟨fun hx => ?_, fun hx => ?_⟩
    · rcases List.mem_cons.1 ((h x).1 (by simp [hx])) with h1 | h1
      · subst h1
        have := l1 x hx
        rw [befW_irr] at this
        cases this
      · exact h1
    · rcases List.mem_cons.1 ((h x).2 (by simp [hx])) with h1 | h1
      · subst h1
        have := m1 x hx
        rw [befW_irr] at this
        cases this
      · exact h1
theorem openF_ok {l : List Window10} {w : Window10} (hV : Val l) (hp : prpW w = true) (hk : l.any (keyB w.Device w.Tag) = false) (hc : l.any (cfl w) = false) : openF l w = (insW l w, 0, ()) := by
  unfold openF
  rw [(valid_iff l).2 hV, hp, hk, hc]
  rfl
end Go.G
