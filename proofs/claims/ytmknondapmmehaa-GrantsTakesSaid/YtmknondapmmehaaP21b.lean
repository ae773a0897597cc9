import Derived.Test.YtmknondapmmehaaP21a
set_option linter.unusedVariables false
set_option linter.unusedSimpArgs false
namespace Go.G
set_option maxRecDepth 100000
set_option maxHeartbeats 1000000
/-- y supports x. -/
def sup1 (y x : Grant21) : Bool := ieq y.Frame x.Frame && (ieq y.Grantee x.Owner && incB y.Rights x.Rights)
def isP (x : Grant21) : Bool := ieq x.Owner 4
inductive Sup (t : List Grant21) : Grant21 → Prop
  | base {x} : x ∈ t → isP x = true → Sup t x
  | step {x y} : x ∈ t → Sup t y → sup1 y x = true → Sup t x
theorem Sup.mem {t : List Grant21} {x : Grant21} (h : Sup t x) : x ∈ t := by cases h <;> assumption
/-- What is kept supports x. -/
def anyK (t : List Grant21) (keep : List Bool) (x : Grant21) : Bool := (t.zip keep).any (fun p => p.2 && sup1 p.1 x)
def passStep (t : List Grant21) (i : Nat) (s : List Bool × Bool) : List Bool × Bool :=
  match t[i]?, s.1[i]? with
  | some x, some false => (s.1.set i (isP x || anyK t s.1 x), s.2 || (isP x || anyK t s.1 x))
  | _, _ => s
def passTo (t : List Grant21) (keep : List Bool) (n : Nat) : List Bool × Bool := (List.range n).foldl (fun s i => passStep t i s) (keep, false)
theorem passTo_succ (t : List Grant21) (keep : List Bool) (n : Nat) : passTo t keep (n + 1) = passStep t n (passTo t keep n) := by
  unfold passTo
  rw [List.range_succ, List.foldl_append]
  rfl
theorem passStep_len (t : List Grant21) (i : Nat) (s : List Bool × Bool) : (passStep t i s).1.length = s.1.length := by
  unfold passStep
  split <;> simp
theorem passTo_len (t : List Grant21) (keep : List Bool) (n : Nat) : (passTo t keep n).1.length = keep.length := by
  induction n with
  | zero => rfl
  | succ n ih => rw [passTo_succ, passStep_len, ih]
def Snd (t : List Grant21) (keep : List Bool) : Prop := ∀ (i : Nat) (x : Grant21), t[i]? = some x → keep[i]? = some true → Sup t x
theorem anyK_iff {t : List Grant21} {keep : List Bool} {x : Grant21} : anyK t keep x = true ↔ ∃ (k : Nat) (y : Grant21), t[k]? = some y ∧ keep[k]? = some true ∧ sup1 y x = true := by
  unfold anyK
  rw [List.any_eq_true]
  constructor
  · rintro ⟨p, hp, h⟩
    obtain ⟨k, hk⟩ := List.getElem?_of_mem hp
    obtain ⟨h1, h2⟩ := List.getElem?_zip_eq_some.1 hk
    rw [Bool.and_eq_true] at h
    rw [h.1] at h2
    exact ⟨k, p.1, h1, h2, h.2⟩
  · rintro ⟨k, y, h1, h2, h3⟩
    exact ⟨(y, true), List.mem_of_getElem? (List.getElem?_zip_eq_some.2 ⟨h1, h2⟩), by simpa using h3⟩
theorem snd_step {t : List Grant21} {i : Nat} {s : List Bool × Bool} (h : Snd t s.1) : Snd t (passStep t i s).1 := by
  unfold passStep
  split
  · rename_i x hx hk
    simp only
    intro j y hj hkj
    by_cases e : i = j
    · subst e
      rw [hx] at hj
      cases hj
      rw [List.getElem?_set_self (getElem?_lt hk)] at hkj
      simp only [Option.some.injEq, Bool.or_eq_true] at hkj
      rcases hkj with hkj | hkj
      · exact .base (List.mem_of_getElem? hx) hkj
      · obtain ⟨k, y, h1, h2, h3⟩ := anyK_iff.1 hkj
        exact .step (List.mem_of_getElem? hx) (h k y h1 h2) h3
    · rw [List.getElem?_set_ne e] at hkj
      exact h j y hj hkj
  · exact h
theorem snd_pass {t : List Grant21} {keep : List Bool} (h : Snd t keep) (n : Nat) : Snd t (passTo t keep n).1 := by
  induction n with
  | zero => exact h
  | succ n ih => rw [passTo_succ]; exact snd_step ih
def cF (keep : List Bool) : Nat := (keep.filter (fun b => !b)).length
theorem cF_set {keep : List Bool} {i : Nat} (h : keep[i]? = some false) : cF (keep.set i true) + 1 = cF keep := by
  unfold cF
  induction keep generalizing i with
  | nil => simp at h
  | cons b keep ih =>
    cases i with
    | zero =>
      simp at h
      subst h
      simp
    | succ i =>
      have := ih (i := i) (by simpa using h)
      rw [List.set_cons_succ, List.filter_cons, List.filter_cons]
      cases b <;> simp <;> omega
/-- Nothing new: all that was kept stays, and what could be kept is. -/
theorem pass_same {t : List Grant21} {keep : List Bool} (n : Nat) : ((passTo t keep n).2 = true → cF (passTo t keep n).1 < cF keep) ∧
    ((passTo t keep n).2 = false → (passTo t keep n).1 = keep ∧ ∀ (i : Nat) (x : Grant21), i < n → t[i]? = some x → keep[i]? = some false → (isP x || anyK t keep x) = false) ∧ cF (passTo t keep n).1 ≤ cF keep := by
  induction n with
  | zero => exact ⟨fun h => (by cases h), fun _ => ⟨rfl, fun i x hi => absurd hi (by omega)⟩, Nat.le_refl _⟩
  | succ n ih =>
    rw [passTo_succ]
    obtain ⟨h1, h2, h3⟩ := ih
    unfold passStep
    split
    · rename_i x hx hk
      cases hb : (isP x || anyK t (passTo t keep n).1 x) with
      | true =>
        have hc := cF_set hk
        simp only
        refine ⟨fun _ => by omega, fun h => ?_, by omega⟩
        simp at h
      | false =>
        have hset : (passTo t keep n).1.set n false = (passTo t keep n).1 := by
          apply List.ext_getElem?
          intro j
          by_cases e : n = j
          · subst e; rw [List.getElem?_set_self (getElem?_lt hk), hk]
          · rw [List.getElem?_set_ne e]
        rw [hset]
        simp only [Bool.or_false]
        refine ⟨h1, fun h => ?_, h3⟩
        obtain ⟨q1, q2⟩ := h2 h
        refine ⟨q1, fun i y hi hy hky => ?_⟩
        by_cases e : i = n
        · subst e
          rw [hx] at hy
          cases hy
          rw [← q1]; exact hb
        · exact q2 i y (by omega) hy hky
    · rename_i hno
      refine ⟨h1, fun h => ?_, h3⟩
      obtain ⟨q1, q2⟩ := h2 h
      refine ⟨q1, fun i y hi hy hky => ?_⟩
      by_cases e : i = n
      · subst e
        exact absurd (by rw [q1]; exact hky) (hno y hy)
      · exact q2 i y (by omega) hy hky
/-- The kept ones are the supported ones. -/
def IsSup (t : List Grant21) (keep : List Bool) : Prop := keep.length = t.length ∧ ∀ (i : Nat) (x : Grant21), t[i]? = some x → (keep[i]? = some true ↔ Sup t x)
theorem closed_sup {t : List Grant21} {keep : List Bool} (hl : keep.length = t.length) (hs : Snd t keep) (hc : ∀ (i : Nat) (x : Grant21), i < t.length → t[i]? = some x → keep[i]? = some false → (isP x || anyK t keep x) = false) : IsSup t keep := by
  have key : ∀ x, Sup t x → ∀ i : Nat, t[i]? = some x → keep[i]? = some true := by
    intro x h
    induction h with
    | base hm hp =>
      intro i hi
      have h1 := getElem?_lt hi
      have hk : keep[i]? = some keep[i] := List.getElem?_eq_getElem (by omega)
      cases hb : keep[i] with
      | true => rw [hk, hb]
      | false =>
        rw [hb] at hk
        have := hc i _ h1 hi hk
        rw [hp] at this
        cases this
    | step hm _ h3 ih =>
      intro i hi
      rename_i y hy
      have h1 := getElem?_lt hi
      have hk : keep[i]? = some keep[i] := List.getElem?_eq_getElem (by omega)
      cases hb : keep[i] with
      | true => rw [hk, hb]
      | false =>
        rw [hb] at hk
        have := hc i _ h1 hi hk
        obtain ⟨k, hk2⟩ := List.getElem?_of_mem hy.mem
        have h4 := anyK_iff.2 ⟨k, _, hk2, ih k hk2, h3⟩
        rw [h4, Bool.or_true] at this
        cases this
  exact ⟨hl, fun i x hi => ⟨fun h => hs i x hi h, fun h => key x h i hi⟩⟩
/-- The passes, until nothing changes. -/
theorem passes {X ε : Type} {step : X → Option (X ⊕ ε)} {t : List Grant21} (st : Bool → List Bool → X) (e : List Bool → ε) (fu : Nat) (hf : 2 * t.length + 1 < fu)
    (h1 : ∀ keep, keep.length = t.length → step (st true keep) = some (.inl (st (passTo t keep t.length).2 (passTo t keep t.length).1)))
    (h0 : ∀ keep, keep.length = t.length → step (st false keep) = some (.inr (e keep))) :
    ∃ keep, iter step fu (st true (List.replicate t.length false)) = some (e keep) ∧ IsSup t keep := by
  have key : ∀ (fu : Nat) (b : Bool) (keep : List Bool), keep.length = t.length → Snd t keep → (b = false → ∀ (i : Nat) (x : Grant21), i < t.length → t[i]? = some x → keep[i]? = some false → (isP x || anyK t keep x) = false) →
      2 * cF keep + (if b then 1 else 0) < fu → ∃ k, iter step fu (st b keep) = some (e k) ∧ IsSup t k := by
    intro fu
    induction fu with
    | zero => intro b keep _ _ _ h; omega
    | succ fu ih =>
      intro b keep hl hs hc hm
      cases b with
      | false => exact ⟨keep, by simp only [iter, h0 keep hl], closed_sup hl hs (hc rfl)⟩
      | true =>
        obtain ⟨p1, p2, p3⟩ := pass_same (t := t) (keep := keep) t.length
        obtain ⟨k, k1, k2⟩ := ih (passTo t keep t.length).2 (passTo t keep t.length).1 (by rw [passTo_len, hl]) (snd_pass hs _) (fun hb => by
          obtain ⟨q1, q2⟩ := p2 hb
          rw [q1]; exact q2) (by
          simp only [if_true] at hm
          cases hb : (passTo t keep t.length).2 with
          | true => have := p1 hb; simp only [if_true]; omega
          | false => simp only [Bool.false_eq_true, if_false]; omega)
        exact ⟨k, by simp only [iter, h1 keep hl]; exact k1, k2⟩
  refine key fu true _ (by simp) (fun i x hi hk => ?_) (fun h => (by cases h)) ?_
  · rw [List.getElem?_replicate] at hk
    split at hk <;> cases hk
  · have : cF (List.replicate t.length false) = t.length := by unfold cF; simp
    rw [this]
    simp only [if_true]
    omega
end Go.G
