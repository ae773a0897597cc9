import Derived.Test.YtmknondapmmehaaGPlain
set_option linter.unusedVariables false
set_option linter.unusedSimpArgs false
namespace Go.G
/-- Through a list with a state and an index; may stop early. -/
def walkI {α σ ε : Type} (g : Nat → α → σ → σ ⊕ ε) : List α → Nat → σ → σ ⊕ ε
  | [], _, s => .inl s
  | a :: l, i, s => match g i a s with
    | .inl s' => walkI g l (i + 1) s'
    | .inr e => .inr e

section
variable {X ε α σ : Type} {step : X → Option (X ⊕ ε)} {fu : Nat}

theorem iter_walk_from (l : List α) (st : Nat → σ → X) (g : Nat → α → σ → σ ⊕ ε) (I : Nat → σ → Prop) (fin : σ → ε)
    (h : ∀ i a s, l[i]? = some a → I i s → match g i a s with
      | .inl s' => step (st i s) = some (.inl (st (i + 1) s')) ∧ I (i + 1) s'
      | .inr e => step (st i s) = some (.inr e))
    (he : ∀ s, I l.length s → step (st l.length s) = some (.inr (fin s))) :
    ∀ (r : List α) (k : Nat) (s0 : σ) (fu : Nat), l.drop k = r → k ≤ l.length → I k s0 → r.length < fu → iter step fu (st k s0) = some (match walkI g r k s0 with
      | .inl s => fin s
      | .inr e => e)
  | [], k, s0, fu + 1, hd, hk, hI, _ => by
    have : k = l.length := by
      have := congrArg List.length hd
      simp at this
      omega
    subst this
    simp only [iter, walkI]
    rw [he s0 hI]
  | a :: r, k, s0, fu + 1, hd, hk, hI, hf => by
    have hkl : k < l.length := by
      have := congrArg List.length hd
      simp at this
      omega
    have ha : l[k]? = some a := by
      rw [List.getElem?_eq_getElem hkl]
      rw [List.drop_eq_getElem_cons hkl] at hd
      simp only [List.cons.injEq] at hd
      rw [hd.1]
    have hr : l.drop (k + 1) = r := by
      rw [List.drop_eq_getElem_cons hkl] at hd
      simp only [List.cons.injEq] at hd
      exact hd.2
    have h1 := h k a s0 ha hI
    simp only [iter, walkI]
    cases hg : g k a s0 with
    | inl s' =>
      rw [hg] at h1
      rw [h1.1]
      simp only
      exact iter_walk_from l st g I fin h he r (k + 1) s' fu hr hkl h1.2 (by simp at hf; omega)
    | inr e =>
      rw [hg] at h1
      simp only at h1
      rw [h1]
  | [], _, _, 0, _, _, _, hf => absurd hf (by simp)
  | _ :: _, _, _, 0, _, _, _, hf => absurd hf (by simp)

theorem iter_walk (l : List α) (st : Nat → σ → X) (g : Nat → α → σ → σ ⊕ ε) (I : Nat → σ → Prop) (fin : σ → ε) (s0 : σ) (hf : l.length < fu) (h0 : I 0 s0)
    (h : ∀ i a s, l[i]? = some a → I i s → match g i a s with
      | .inl s' => step (st i s) = some (.inl (st (i + 1) s')) ∧ I (i + 1) s'
      | .inr e => step (st i s) = some (.inr e))
    (he : ∀ s, I l.length s → step (st l.length s) = some (.inr (fin s))) :
    iter step fu (st 0 s0) = some (match walkI g l 0 s0 with
      | .inl s => fin s
      | .inr e => e) :=
  iter_walk_from l st g I fin h he l 0 s0 fu rfl (Nat.zero_le _) h0 hf

/-- No early stop. -/
theorem iter_fold (l : List α) (st : Nat → σ → X) (g : α → σ → σ) (I : Nat → σ → Prop) (fin : σ → ε) (s0 : σ) (hf : l.length < fu) (h0 : I 0 s0)
    (h : ∀ i a s, l[i]? = some a → I i s → step (st i s) = some (.inl (st (i + 1) (g a s))) ∧ I (i + 1) (g a s))
    (he : ∀ s, I l.length s → step (st l.length s) = some (.inr (fin s))) :
    iter step fu (st 0 s0) = some (fin (l.foldl (fun s a => g a s) s0)) := by
  rw [iter_walk l st (fun _ a s => .inl (g a s)) I fin s0 hf h0 h he]
  have : ∀ (l : List α) (i : Nat) (s : σ), walkI (ε := ε) (fun _ a s => .inl (g a s)) l i s = .inl (l.foldl (fun s a => g a s) s) := by
    intro l
    induction l with
    | nil => intro i s; rfl
    | cons a l ih => intro i s; simp only [walkI, List.foldl_cons]; exact ih _ _
  rw [this]

/-- A loop that stops at the first place of a kind. -/
theorem iter_first (l : List α) (st : Nat → X) (q : α → Bool) (e1 : Nat → α → ε) (e0 : ε) (hf : l.length < fu)
    (hin : ∀ i a, l[i]? = some a → q a = false → step (st i) = some (.inl (st (i + 1))))
    (hout : ∀ i a, l[i]? = some a → q a = true → step (st i) = some (.inr (e1 i a)))
    (hend : step (st l.length) = some (.inr e0)) :
    (∃ i a, l[i]? = some a ∧ q a = true ∧ (∀ j b, j < i → l[j]? = some b → q b = false) ∧ iter step fu (st 0) = some (e1 i a)) ∨ ((∀ a ∈ l, q a = false) ∧ iter step fu (st 0) = some e0) := by
  rcases iter_search (step := step) (fu := fu) (n := l.length) st (fun j => match l[j]? with | some a => q a | none => false) (fun j => match l[j]? with | some a => e1 j a | none => e0) (e := e0)
    (fun j hj hn => by
      rw [List.getElem?_eq_getElem hj] at hn
      exact hin j _ (List.getElem?_eq_getElem hj) hn)
    (fun j hj hn => by
      rw [List.getElem?_eq_getElem hj] at hn ⊢
      exact hout j _ (List.getElem?_eq_getElem hj) hn) hend hf with ⟨j, h1, h2, h3, h4⟩ | ⟨h1, h2⟩
  · rw [List.getElem?_eq_getElem h1] at h2 h4
    refine .inl ⟨j, _, List.getElem?_eq_getElem h1, h2, fun i b hi hb => ?_, h4⟩
    have := h3 i hi
    rw [hb] at this
    exact this
  · refine .inr ⟨fun a ha => ?_, h2⟩
    obtain ⟨i, hi, rfl⟩ := List.getElem_of_mem ha
    have := h1 i hi
    rw [List.getElem?_eq_getElem hi] at this
    exact this

/-- .. by whether there is one: a search that answers alike wherever it is. -/
theorem iter_any (l : List α) (st : Nat → X) (q : α → Bool) (e1 : ε) (e0 : ε) (hf : l.length < fu)
    (hin : ∀ i a, l[i]? = some a → q a = false → step (st i) = some (.inl (st (i + 1))))
    (hout : ∀ i a, l[i]? = some a → q a = true → step (st i) = some (.inr e1))
    (hend : step (st l.length) = some (.inr e0)) : iter step fu (st 0) = some (if l.any q then e1 else e0) := by
  rcases iter_first l st q (fun _ _ => e1) e0 hf hin hout hend with ⟨i, a, h1, h2, _, h4⟩ | ⟨h1, h2⟩
  · rw [h4, if_pos (List.any_eq_true.2 ⟨a, List.mem_of_getElem? h1, h2⟩)]
  · rw [h2, if_neg]
    intro h
    obtain ⟨a, ha, hq⟩ := List.any_eq_true.1 h
    rw [h1 a ha] at hq
    cases hq
end

section
variable {X ε α : Type} {step : X → Option (X ⊕ ε)} {fu : Nat}
theorem find_of_first {l : List α} {q : α → Bool} {i : Nat} {a : α} (h1 : l[i]? = some a) (h2 : q a = true) (h3 : ∀ j b, j < i → l[j]? = some b → q b = false) : l.find? q = some a := by
  induction l generalizing i with
  | nil => simp at h1
  | cons b l ih =>
    rw [List.find?_cons]
    cases i with
    | zero => simp at h1; subst h1; rw [h2]
    | succ i =>
      rw [h3 0 b (by omega) rfl]
      exact ih (i := i) (by simpa using h1) fun j c hj hc => h3 (j + 1) c (by omega) (by simpa using hc)
theorem iter_find (l : List α) (st : Nat → X) (q : α → Bool) (e1 : α → ε) (e0 : ε) (hf : l.length < fu)
    (hin : ∀ i a, l[i]? = some a → q a = false → step (st i) = some (.inl (st (i + 1))))
    (hout : ∀ i a, l[i]? = some a → q a = true → step (st i) = some (.inr (e1 a)))
    (hend : step (st l.length) = some (.inr e0)) : iter step fu (st 0) = some (match l.find? q with
      | some a => e1 a
      | none => e0) := by
  rcases iter_first l st q (fun _ a => e1 a) e0 hf hin hout hend with ⟨i, a, h1, h2, h3, h4⟩ | ⟨h1, h2⟩
  · rw [h4, find_of_first h1 h2 h3]
  · rw [h2, List.find?_eq_none.2 fun a ha => by simp [h1 a ha]]
theorem iter_idx (l : List α) (st : Nat → X) (q : α → Bool) (e1 : Nat → ε) (e0 : ε) (hf : l.length < fu)
    (hin : ∀ i a, l[i]? = some a → q a = false → step (st i) = some (.inl (st (i + 1))))
    (hout : ∀ i a, l[i]? = some a → q a = true → step (st i) = some (.inr (e1 i)))
    (hend : step (st l.length) = some (.inr e0)) : iter step fu (st 0) = some (match l.findIdx? q with
      | some i => e1 i
      | none => e0) := by
  rcases iter_first l st q (fun i _ => e1 i) e0 hf hin hout hend with ⟨i, a, h1, h2, h3, h4⟩ | ⟨h1, h2⟩
  · have hl := (List.getElem?_eq_some_iff.1 h1).1
    have : l.findIdx? q = some i := by
      rw [List.findIdx?_eq_some_iff_getElem]
      refine ⟨hl, ?_, fun j hj => ?_⟩
      · rw [List.getElem?_eq_getElem hl] at h1; cases h1; exact h2
      · have := h3 j l[j] hj (List.getElem?_eq_getElem (by omega)); simp [this]
    rw [h4, this]
  · have : l.findIdx? q = none := by
      rw [List.findIdx?_eq_none_iff]
      exact h1
    rw [h2, this]
end

def allI {α : Type} (c : Nat → α → Bool) : List α → Nat → Bool
  | [], _ => true
  | a :: l, i => c i a && allI c l (i + 1)
theorem walk_check {α ε : Type} (c : Nat → α → Bool) (e : Nat → α → ε) : ∀ (r : List α) (k : Nat),
    (allI c r k = true ∧ walkI (fun i x (_ : Unit) => if c i x then .inl () else .inr (e i x)) r k () = .inl ()) ∨ (allI c r k = false ∧ ∃ i x, walkI (fun i x (_ : Unit) => if c i x then .inl () else .inr (e i x)) r k () = .inr (e i x))
  | [], _ => .inl ⟨rfl, rfl⟩
  | a :: r, k => by
    simp only [allI, walkI]
    by_cases h : c k a = true
    · simp only [h, if_true, Bool.true_and]
      exact walk_check c e r (k + 1)
    · simp only [h, if_false, Bool.false_and]
      exact .inr ⟨trivial, k, a, rfl⟩
theorem allI_iff {α : Type} {c : Nat → α → Bool} {l : List α} {k : Nat} : allI c l k = true ↔ ∀ i a, l[i]? = some a → c (k + i) a = true := by
  induction l generalizing k with
  | nil => simp [allI]
  | cons a l ih =>
    simp only [allI, Bool.and_eq_true, ih]
    constructor
    · rintro ⟨h1, h2⟩ i b hb
      cases i with
      | zero => simp at hb; subst hb; exact h1
      | succ i => have := h2 i b (by simpa using hb); rw [show k + (i + 1) = k + 1 + i by omega]; exact this
    · intro h
      refine ⟨h 0 a rfl, fun i b hb => ?_⟩
      have := h (i + 1) b (by simpa using hb)
      rw [show k + 1 + i = k + (i + 1) by omega]; exact this

theorem foldl_map_snoc {α β : Type} (f : α → β) : ∀ (l : List α) (acc : List β), l.foldl (fun s a => s ++ [f a]) acc = acc ++ l.map f
  | [], acc => by simp
  | a :: l, acc => by rw [List.foldl_cons, foldl_map_snoc f l]; simp
theorem foldl_filter_snoc {α : Type} (p : α → Bool) : ∀ (l : List α) (acc : List α), l.foldl (fun s a => if p a then s ++ [a] else s) acc = acc ++ l.filter p
  | [], acc => by simp
  | a :: l, acc => by
    rw [List.foldl_cons, foldl_filter_snoc p l]
    by_cases h : p a <;> simp [h]

theorem dapp_ok {α : Type} {bytes : Nat} {l ys : List α} (h : (l.length + ys.length) * bytes ≤ 140737488355328) (h2 : l.length + ys.length ≤ 9223372036854775807) : dapp bytes l ys = some (l ++ ys) := by
  unfold dapp; rw [if_pos ⟨h, h2⟩]
theorem dsub_ok {α : Type} {l : List α} {lo hi : Nat} (h : lo ≤ hi) (h2 : hi ≤ l.length) : dsub l (lo : Int) (hi : Int) = some ((l.take hi).drop lo) := by
  unfold dsub; rw [if_pos ⟨by omega, by omega, by omega⟩]; simp
theorem dsub0 {α : Type} {l : List α} {hi : Nat} (h2 : hi ≤ l.length) : dsub l 0 (hi : Int) = some (l.take hi) := by
  have := dsub_ok (l := l) (lo := 0) (hi := hi) (Nat.zero_le _) h2
  simpa using this
theorem ieq_comm (a b : Int) : ieq a b = ieq b a := by simp only [ieq, eq_comm]
theorem ieq_f {a b : Int} : ieq a b = false ↔ a ≠ b := by simp [ieq]
theorem ilt_f {a b : Int} : ilt a b = false ↔ b ≤ a := by simp [ilt]
theorem ile_f {a b : Int} : ile a b = false ↔ b < a := by simp [ile]
theorem wrap64 {a : Int} (h : -9223372036854775808 ≤ a ∧ a ≤ 9223372036854775807) : IntKind.i64.wrap a = a := by
  rw [Go.IntWalk.i64_left]
  exact Go.IntWalk.wrap64_in _ (by omega)
theorem iadd64 {a b : Int} (h : -9223372036854775808 ≤ a + b ∧ a + b ≤ 9223372036854775807) : iadd .i64 a b = a + b := wrap64 h
theorem isub64 {a b : Int} (h : -9223372036854775808 ≤ a - b ∧ a - b ≤ 9223372036854775807) : isub .i64 a b = a - b := wrap64 h
theorem ilt_len {k n : Nat} (h : k < n) : ilt (k : Int) (n : Int) = true := ilt_iff.2 (by omega)
theorem ilt_end (n : Nat) : ilt (n : Int) (n : Int) = false := by simp [ilt]
theorem ilt_nat {k n : Nat} : ilt (k : Int) (n : Int) = decide (k < n) := by simp [ilt]

/-! ### Maps -/
theorem mset_new {α β : Type} {eq : α → α → Bool} {k : α} {v : β} : ∀ {l : List (α × β)}, (∀ x ∈ l, eq k x.1 = false) → mset eq l k v = l ++ [(k, v)]
  | [], _ => rfl
  | x :: l, h => by
    simp only [mset]
    rw [h x (by simp), mset_new fun y hy => h y (by simp [hy])]
    simp
theorem mfind_none {α β : Type} {eq : α → α → Bool} {k : α} {l : List (α × β)} (h : ∀ x ∈ l, eq k x.1 = false) : mfind eq l k = none := by
  unfold mfind
  rw [List.find?_eq_none.2 fun x hx => by simp [h x hx]]
  rfl
theorem mfind_map {α β γ : Type} (eq : α → α → Bool) (k : α) (f : γ → α) (g : γ → β) (l : List γ) : mfind eq (l.map fun x => (f x, g x)) k = (l.find? fun x => eq k (f x)).map g := by
  unfold mfind
  induction l with
  | nil => rfl
  | cons a l ih =>
    simp only [List.map_cons, List.find?_cons]
    cases eq k (f a)
    · exact ih
    · rfl
theorem mfind_cons {α β : Type} (eq : α → α → Bool) (x : α × β) (l : List (α × β)) (k : α) : mfind eq (x :: l) k = if eq k x.1 then some x.2 else mfind eq l k := by
  unfold mfind
  rw [List.find?_cons]
  cases eq k x.1 <;> simp
theorem mset_cons {α β : Type} (eq : α → α → Bool) (x : α × β) (l : List (α × β)) (k : α) (v : β) : mset eq (x :: l) k v = if eq k x.1 then (k, v) :: l else x :: mset eq l k v := rfl
/-- A map as a function. -/
theorem mfind_mset {α β : Type} {eq : α → α → Bool} (hs : ∀ a b c, eq a b = true → eq a c = eq b c) (hy : ∀ a b, eq a b = eq b a) (k k' : α) (v : β) : ∀ l : List (α × β), mfind eq (mset eq l k v) k' = if eq k' k then some v else mfind eq l k'
  | [] => mfind_cons eq (k, v) [] k'
  | x :: l => by
    have ih := mfind_mset hs hy k k' v l
    rw [mset_cons]
    cases h : eq k x.1 with
    | true =>
      have e1 : eq k' k = eq k' x.1 := by rw [hy k' k, hy k' x.1]; exact hs _ _ _ h
      simp only [if_true, mfind_cons, e1]
      cases eq k' x.1 <;> simp
    | false =>
      simp only [Bool.false_eq_true, if_false, mfind_cons, ih]
      cases h2 : eq k' x.1 with
      | true =>
        have : eq k' k = false := by
          cases h3 : eq k' k with
          | false => rfl
          | true => have := hs _ _ x.1 h3; rw [h2, h] at this; exact this
        simp [this]
      | false => simp
end Go.G
