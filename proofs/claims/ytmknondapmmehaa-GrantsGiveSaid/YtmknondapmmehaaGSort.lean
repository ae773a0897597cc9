import Derived.Test.YtmknondapmmehaaGPlain3
import Derived.Test.YtmknondapmmehaaGIns3
set_option linter.unusedVariables false
set_option linter.unusedSimpArgs false
namespace Go.G
set_option maxRecDepth 100000
theorem iter_meas {α ε : Type} {step : α → Option (α ⊕ ε)} (inv : α → Prop) (m : α → Nat) (post : ε → Prop)
    (h : ∀ s, inv s → (∃ s', step s = some (.inl s') ∧ inv s' ∧ m s' < m s) ∨ ∃ e, step s = some (.inr e) ∧ post e) : ∀ (fu : Nat) (s : α), inv s → m s < fu → ∃ e, iter step fu s = some e ∧ post e
  | 0, s, _, hm => by omega
  | fu + 1, s, hi, hm => by
    rcases h s hi with ⟨s', h1, h2, h3⟩ | ⟨e, h1, h2⟩
    · obtain ⟨e, k1, k2⟩ := iter_meas inv m post h fu s' h2 (by omega)
      exact ⟨e, by simp only [iter, h1]; exact k1, k2⟩
    · exact ⟨e, by simp only [iter, h1], h2⟩

theorem walk_scan {α σ ε : Type} (c : α → Bool) (upd : Nat → α → σ → σ) (e : ε) (I : Nat → σ → Prop) : ∀ (r : List α) (k : Nat) (s : σ), I k s → (∀ i a s, r[i]? = some a → c a = false → I (k + i) s → I (k + i + 1) (upd (k + i) a s)) →
    (r.any c = true ∧ walkI (fun i x s => if c x then .inr e else .inl (upd i x s)) r k s = .inr e) ∨ (r.any c = false ∧ ∃ s', walkI (fun i x s => if c x then Sum.inr e else Sum.inl (upd i x s)) r k s = .inl s' ∧ I (k + r.length) s')
  | [], k, s, h, _ => .inr ⟨rfl, s, rfl, h⟩
  | a :: r, k, s, h, hs => by
    simp only [walkI, List.any_cons]
    cases hc : c a with
    | true => exact .inl ⟨rfl, by simp⟩
    | false =>
      have h1 := hs 0 a s rfl hc h
      rcases walk_scan c upd e I r (k + 1) (upd k a s) h1 (fun i b t hb hcb ht => by
        have := hs (i + 1) b t (by simpa using hb) hcb (by rw [show k + (i + 1) = k + 1 + i by omega]; exact ht)
        rw [show k + (i + 1) = k + 1 + i by omega] at this
        exact this) with ⟨q1, q2⟩ | ⟨q1, s', q2, q3⟩
      · exact .inl ⟨by simpa using q1, by simpa using q2⟩
      · refine .inr ⟨by simpa using q1, s', by simpa using q2, ?_⟩
        rw [List.length_cons, show k + (r.length + 1) = k + 1 + r.length by omega]
        exact q3

/-- Through a list, with what holds on the way. -/
theorem iter_inv {X ε α σ : Type} {step : X → Option (X ⊕ ε)} {fu : Nat} (l : List α) (st : Nat → σ → X) (g : Nat → α → σ → σ) (I : Nat → σ → Prop) (fin : σ → ε) (s0 : σ) (hf : l.length < fu) (h0 : I 0 s0)
    (h : ∀ i a s, l[i]? = some a → I i s → step (st i s) = some (.inl (st (i + 1) (g i a s))) ∧ I (i + 1) (g i a s))
    (he : ∀ s, I l.length s → step (st l.length s) = some (.inr (fin s))) : ∃ s, I l.length s ∧ iter step fu (st 0 s0) = some (fin s) := by
  have := iter_walk (step := step) (fu := fu) (ε := ε) l st (fun i a s => .inl (g i a s)) I fin s0 hf h0 (fun i a s hi hI => h i a s hi hI) he
  have key : ∀ (r : List α) (k : Nat) (s : σ), I k s → (∀ i a s, r[i]? = some a → I (k + i) s → I (k + i + 1) (g (k + i) a s)) → ∃ s', walkI (ε := ε) (fun i a s => .inl (g i a s)) r k s = .inl s' ∧ I (k + r.length) s' := by
    intro r
    induction r with
    | nil => exact fun k s hs _ => ⟨s, rfl, hs⟩
    | cons a r ih =>
      intro k s hs hg
      obtain ⟨s', h1, h2⟩ := ih (k + 1) (g k a s) (hg 0 a s rfl hs) (fun i b t hb ht => by
        have := hg (i + 1) b t (by simpa using hb) (by rw [show k + (i + 1) = k + 1 + i by omega]; exact ht)
        rw [show k + (i + 1) = k + 1 + i by omega] at this
        exact this)
      refine ⟨s', by simpa [walkI] using h1, ?_⟩
      rw [List.length_cons, show k + (r.length + 1) = k + 1 + r.length by omega]
      exact h2
  obtain ⟨s', h1, h2⟩ := key l 0 s0 h0 (fun i a s hi hI => by
    rw [Nat.zero_add] at hI ⊢
    exact (h i a s hi hI).2)
  rw [h1] at this
  rw [Nat.zero_add] at h2
  exact ⟨s', h2, this⟩

theorem del_cut {α : Type} {l : List α} {p : Nat} (h : p < l.length) : dcut l ((p + 1 : Nat) : Int) (oadd ((p + 1 : Nat) : Int) (osub (dlen l) ((p + 1 : Nat) : Int))) = l.drop (p + 1) := by
  unfold dcut oadd osub
  rw [dlen_def, show (((p + 1 : Nat) : Int) + ((l.length : Int) - ((p + 1 : Nat) : Int))).toNat = l.length by omega, List.take_length]
  simp
theorem del_len {α : Type} {l : List α} {p : Nat} (h : p < l.length) : oadd (osub (p : Int) 0) (dlen (l.drop (p + 1))) = ((l.length - 1 : Nat) : Int) := by
  unfold oadd osub
  rw [dlen_def, List.length_drop]
  omega
theorem del_put {α : Type} {l : List α} {p : Nat} (h : p < l.length) : dput l (oadd 0 (osub (p : Int) 0)) (l.drop (p + 1)) = some (l.take p ++ l.drop (p + 1) ++ l.drop (l.length - 1)) := by
  unfold dput oadd osub
  have e : (0 + ((p : Int) - 0)).toNat = p := by omega
  rw [if_pos ⟨by omega, by rw [List.length_drop]; omega⟩, e, List.length_drop, show p + (l.length - (p + 1)) = l.length - 1 by omega]
theorem del_put2 {α : Type} {m x : List α} {z : α} {n : Nat} (hm : m.length = n) (hx : x.length = 1) : dput (m ++ x) (oadd 0 (n : Int)) (drep (osub ((n + 1 : Nat) : Int) (n : Int)) z) = some (m ++ [z]) := by
  unfold dput drep oadd osub
  have e : (((n + 1 : Nat) : Int) - (n : Int)).toNat = 1 := by omega
  have e2 : (0 + (n : Int)).toNat = n := by omega
  rw [if_pos ⟨by omega, by simp; omega⟩, e, e2]
  obtain ⟨a, rfl⟩ := List.length_eq_one_iff.1 hx
  subst hm
  simp [List.drop_append]
theorem del_cut2 {α : Type} {m x : List α} {n : Nat} (hm : m.length = n) : dcut (m ++ x) 0 (oadd 0 (n : Int)) = m := by
  unfold dcut oadd
  have e2 : (0 + (n : Int)).toNat = n := by omega
  rw [e2]
  subst hm
  simp


theorem dins_ok {α : Type} {bytes : Nat} {l : List α} {i : Nat} {x : α} (h : i ≤ l.length) (h1 : (l.length + 1) * bytes ≤ 140737488355328) (h2 : l.length + 1 ≤ 9223372036854775807) : dins bytes l (i : Int) x = some (l.take i ++ x :: l.drop i) := by
  unfold dins
  rw [if_pos ⟨by omega, by omega, h1, h2⟩]
  simp

theorem mid64 {a b : Nat} (ha : a < 1000000000000) (hb : b < 1000000000000) : iwrap .i64 (ishr .u64 (iwrap .u64 (iadd .i64 (a : Int) (b : Int))) 1) = (((a + b) / 2 : Nat) : Int) := by
  rw [iadd64 (by omega)]
  have h1 : iwrap .u64 ((a : Int) + (b : Int)) = (a : Int) + (b : Int) := by
    unfold iwrap
    have : ∀ n : Int, IntKind.u64.wrap n = n % 18446744073709551616 := fun n => by simp [IntKind.wrap, IntKind.bits, IntKind.signed]
    rw [this]
    omega
  have h2 : ishr .u64 ((a : Int) + (b : Int)) 1 = (((a + b) / 2 : Nat) : Int) := by
    unfold ishr
    show ((a : Int) + (b : Int)).fdiv (2 ^ 1) = _
    rw [Int.fdiv_eq_ediv_of_nonneg _ (by decide)]
    omega
  rw [h1, h2]
  unfold iwrap
  exact wrap64 (by omega)


theorem take_last {α : Type} {l : List α} {i : Nat} {x : α} (h : l[i]? = some x) : (l.take (i + 1)).getLast? = some x := by
  rw [List.take_add_one, h]; simp
theorem getD_idx {α : Type} {l : List α} {i : Nat} (h : 0 < i) (hi : i ≤ l.length) : ∃ p, l[i - 1]? = some p ∧ (l.take i).getLast? = some p := by
  have h2 : i - 1 < l.length := by omega
  refine ⟨l[i - 1], List.getElem?_eq_getElem h2, ?_⟩
  have := take_last (List.getElem?_eq_getElem h2)
  rwa [show i - 1 + 1 = i by omega] at this
theorem zip_get {α : Type} {l m : List α} (i : Nat) (x : α × α) (h : (l.zip m)[i]? = some x) : l[i]? = some x.1 ∧ m[i]? = some x.2 := by
  rw [List.getElem?_zip_eq_some] at h
  exact h
theorem list_eq_iff_all {α : Type} [DecidableEq α] {l m : List α} (h : l.length = m.length) : (l.zip m).any (fun x => !decide (x.1 = x.2)) = !decide (l = m) := by
  induction l generalizing m with
  | nil => cases m with
    | nil => rfl
    | cons _ _ => simp at h
  | cons a l ih => cases m with
    | nil => simp at h
    | cons b m =>
      simp only [List.zip_cons_cons, List.any_cons, ih (by simpa using h), List.cons.injEq]
      by_cases h1 : a = b <;> by_cases h2 : l = m <;> simp [h1, h2]
end Go.G
