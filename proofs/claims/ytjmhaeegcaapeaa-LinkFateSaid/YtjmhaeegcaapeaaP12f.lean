import Derived.Test.YtjmhaeegcaapeaaP12e
set_option linter.unusedVariables false
set_option linter.unusedSimpArgs false
namespace Go.G
set_option maxRecDepth 100000
set_option maxHeartbeats 4000000
/-- All frames, with the ticks at which they arrive. -/
def fls (D : Nat) : Nat → List (List Int) → List Flight12
  | _, [] => []
  | j, b :: r => ⟨((j + 1 + D : Nat) : Int), b⟩ :: fls D (j + 1) r
theorem fls_get {D : Nat} : ∀ (g : List (List Int)) (k j : Nat), (fls D k g)[j]? = (g[j]?).map fun b => ⟨((k + j + 1 + D : Nat) : Int), b⟩
  | [], k, j => by simp [fls]
  | b :: r, k, 0 => by simp [fls]
  | b :: r, k, j + 1 => by
    simp only [fls, List.getElem?_cons_succ]
    rw [fls_get r (k + 1) j]
    congr 1
    funext b
    rw [show k + 1 + j = k + (j + 1) by omega]
theorem fls_len {D : Nat} : ∀ (g : List (List Int)) (k : Nat), (fls D k g).length = g.length
  | [], _ => rfl
  | _ :: r, k => by simp [fls, fls_len r]
theorem fls_snoc {D : Nat} (b : List Int) : ∀ (g : List (List Int)) (k : Nat), fls D k (g ++ [b]) = fls D k g ++ [⟨((k + g.length + 1 + D : Nat) : Int), b⟩]
  | [], k => by simp [fls]
  | c :: r, k => by
    simp only [fls, List.cons_append, fls_snoc b r, List.length_cons]
    rw [show k + 1 + r.length = k + (r.length + 1) by omega]
/-- How many arrive at the next tick. -/
def nArr (D t m : Nat) : Nat := if D ≤ t ∧ t - D < m then 1 else 0
theorem ok_at {D t : Nat} {g wt : List (List Int)} {P : List Int} {sent first : Int} (hp : P.length ≤ 200) (h1 : 1 ≤ D) (h2 : D ≤ 8) (hg : g.length ≤ 40) (hgt : g.length ≤ t) (ht : t ≤ 200) (hf : ∀ b ∈ g, Fr b) (hw : wt.length ≤ 40) (hwf : ∀ b ∈ wt, Fr b)
    (s0 : 0 ≤ sent) (s1 : sent ≤ 900) (f0 : 0 ≤ first) (f1 : first ≤ 900) : Ok12 P (t : Int) sent first ((fls D 0 g).drop (t - D)) wt (nArr D t g.length) := by
  have hget : ∀ (i : Nat) (f : Flight12), ((fls D 0 g).drop (t - D))[i]? = some f → ∃ b, g[t - D + i]? = some b ∧ f = ⟨((t - D + i + 1 + D : Nat) : Int), b⟩ := by
    intro i f h
    rw [List.getElem?_drop, fls_get, Option.map_eq_some_iff] at h
    obtain ⟨b, hb, rfl⟩ := h
    exact ⟨b, hb, by rw [Nat.zero_add]⟩
  have hn1 : nArr D t g.length ≤ 1 := by unfold nArr; split <;> omega
  refine ⟨hp, by omega, by omega, s0, s1, f0, f1, ⟨by rw [List.length_drop, fls_len]; omega, ?_, ?_⟩, by omega, hwf, ?_, ?_, ?_⟩
  · intro f hm
    obtain ⟨i, hi⟩ := List.getElem?_of_mem hm
    obtain ⟨b, hb, rfl⟩ := hget i f hi
    have := getElem?_lt hb
    refine ⟨hf b (List.mem_of_getElem? hb), ?_, ?_⟩ <;> simp only <;> omega
  · intro i a b ha hb
    obtain ⟨x, _, rfl⟩ := hget i a ha
    obtain ⟨y, _, rfl⟩ := hget (i + 1) b hb
    simp only
    omega
  · rw [List.length_drop, fls_len]; unfold nArr; split <;> omega
  · intro i f hi hm
    have h0 : i = 0 := by omega
    subst h0
    obtain ⟨x, _, rfl⟩ := hget 0 f hm
    simp only
    unfold nArr at hi
    split at hi <;> omega
  · intro f hm
    obtain ⟨x, hx, rfl⟩ := hget _ f hm
    have := getElem?_lt hx
    simp only
    unfold nArr at *
    split at hm <;> split at this <;> simp_all <;> omega
theorem fl_next {D t : Nat} {g : List (List Int)} : ((fls D 0 g).drop (t - D)).drop (nArr D t g.length) = (fls D 0 g).drop (t + 1 - D) := by
  rw [List.drop_drop]
  unfold nArr
  split
  · rename_i h; rw [show t - D + 1 = t + 1 - D by omega]
  · rename_i h
    by_cases hd : D ≤ t
    · rw [List.drop_eq_nil_of_le, List.drop_eq_nil_of_le] <;> rw [fls_len] <;> omega
    · rw [show t - D + 0 = t + 1 - D by omega]
theorem wt_next {D t : Nat} {g : List (List Int)} : g.take (t - D) ++ (((fls D 0 g).drop (t - D)).take (nArr D t g.length)).map Flight12.Data = g.take (t + 1 - D) := by
  unfold nArr
  split
  · rename_i h
    obtain ⟨b, hb⟩ : ∃ b, g[t - D]? = some b := ⟨_, List.getElem?_eq_getElem h.2⟩
    have h1 : ((fls D 0 g).drop (t - D)).take 1 = [⟨((0 + (t - D) + 1 + D : Nat) : Int), b⟩] := by
      have h2 : ((fls D 0 g).drop (t - D))[0]? = some ⟨((0 + (t - D) + 1 + D : Nat) : Int), b⟩ := by
        rw [List.getElem?_drop, fls_get]; simp only [Nat.add_zero, hb]; rfl
      cases hc : (fls D 0 g).drop (t - D) with
      | nil => rw [hc] at h2; simp at h2
      | cons x r => rw [hc] at h2; simp at h2; simp [h2]
    rw [h1, show t + 1 - D = t - D + 1 by omega, List.take_add_one, hb]
    rfl
  · rename_i h
    simp only [List.take_zero, List.map_nil, List.append_nil]
    by_cases hd : D ≤ t
    · rw [List.take_of_length_le, List.take_of_length_le] <;> omega
    · rw [show t - D = t + 1 - D by omega]
end Go.G
