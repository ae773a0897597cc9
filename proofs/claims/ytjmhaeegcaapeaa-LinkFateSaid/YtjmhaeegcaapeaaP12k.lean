import Derived.Test.YtjmhaeegcaapeaaP12h
import Derived.Test.YtjmhaeegcaapeaaOn12L7
set_option linter.unusedVariables false
set_option linter.unusedSimpArgs false
namespace Go.G
set_option maxRecDepth 100000
set_option maxHeartbeats 4000000
/-- How many have arrived. -/
def cnt (l : List Int) (i : Nat) : Nat := (l.filter fun d => decide (d ≤ (i : Int))).length
/-- Few arrivals, one after the other. -/
structure Arr (l : List Int) : Prop where
  len : l.length ≤ 2
  rg : ∀ d ∈ l, 1 ≤ d ∧ d ≤ 8
  so : ∀ a b, l = [a, b] → a < b
theorem cnt_spec {l : List Int} (h : Arr l) (i : Nat) : cnt l i ≤ l.length ∧ ∀ (j : Nat) (d : Int), l[j]? = some d → (d ≤ (i : Int) ↔ j < cnt l i) := by
  unfold cnt
  refine ⟨List.length_filter_le _ _, ?_⟩
  match l, h with
  | [], _ => intro j d h; simp at h
  | [a], _ =>
    intro j d h
    match j, h with
    | 0, h =>
      simp at h
      subst h
      by_cases ha : a ≤ (i : Int) <;> simp [List.filter, ha]
    | j + 1, h => simp at h
  | [a, b], h =>
    have hab := h.so a b rfl
    intro j d hj
    match j, hj with
    | 0, hj =>
      simp at hj
      subst hj
      by_cases ha : a ≤ (i : Int) <;> by_cases hb : b ≤ (i : Int) <;> simp [List.filter, ha, hb] <;> omega
    | 1, hj =>
      simp at hj
      subst hj
      by_cases ha : a ≤ (i : Int) <;> by_cases hb : b ≤ (i : Int) <;> simp [List.filter, ha, hb] <;> omega
    | j + 2, hj => simp at hj
  | _ :: _ :: _ :: _, h => have := h.len; simp at this
theorem cnt_mono {l : List Int} (h : Arr l) (i : Nat) : cnt l i ≤ cnt l (i + 1) := by
  by_cases hl : cnt l i ≤ cnt l (i + 1)
  · exact hl
  · obtain ⟨h1, h2⟩ := cnt_spec h i
    obtain ⟨h3, h4⟩ := cnt_spec h (i + 1)
    obtain ⟨d, hd⟩ : ∃ d, l[cnt l (i + 1)]? = some d := ⟨_, List.getElem?_eq_getElem (by omega)⟩
    have a1 := (h2 _ d hd).2 (by omega)
    have a2 := (h4 _ d hd).1 (by omega)
    omega
theorem cnt_0 {l : List Int} (h : Arr l) : cnt l 0 = 0 := by
  obtain ⟨h1, h2⟩ := cnt_spec h 0
  by_cases hz : cnt l 0 = 0
  · exact hz
  · obtain ⟨d, hd⟩ : ∃ d, l[0]? = some d := ⟨_, List.getElem?_eq_getElem (by omega)⟩
    have := (h2 0 d hd).2 (by omega)
    have := (h.rg d (List.mem_of_getElem? hd)).1
    omega
theorem cnt_8 {l : List Int} (h : Arr l) {i : Nat} (hi : 8 ≤ i) : cnt l i = l.length := by
  obtain ⟨h1, h2⟩ := cnt_spec h i
  by_cases hz : cnt l i = l.length
  · exact hz
  · obtain ⟨d, hd⟩ : ∃ d, l[cnt l i]? = some d := ⟨_, List.getElem?_eq_getElem (by omega)⟩
    have := (h.rg d (List.mem_of_getElem? hd)).2
    have := (h2 _ d hd).1 (by omega)
    omega
abbrev mkF (data : List Int) (d : Int) : Flight12 := ⟨0 + 1 + d, data⟩
/-- After so many ticks. -/
abbrev stF (p : Int) (l data : List Int) (i : Nat) := tup [p] ((i + 1 : Nat) : Int) 1 0 ((l.drop (cnt l i)).map (mkF data)) (List.replicate (cnt l i) data) false 0 0 0 [] 2 0 [] false 0 0 0 [] 0 0 []
section
variable {fu : Nat} (hfu : 2000 < fu) {p : Int} {l data : List Int} (hl : Arr l) (hd : Fr data)
include hfu hl hd
theorem ok_F {i : Nat} (hi : i ≤ 100) : Ok12 [p] ((i + 1 : Nat) : Int) 1 0 ((l.drop (cnt l i)).map (mkF data)) (List.replicate (cnt l i) data) (cnt l (i + 1) - cnt l i) := by
  have _ := hfu
  obtain ⟨h1, h2⟩ := cnt_spec hl i
  obtain ⟨h3, h4⟩ := cnt_spec hl (i + 1)
  have hm := cnt_mono hl i
  have hlen := hl.len
  have hget : ∀ (j : Nat) (f : Flight12), ((l.drop (cnt l i)).map (mkF data))[j]? = some f → ∃ d, l[cnt l i + j]? = some d ∧ f = mkF data d := by
    intro j f h
    rw [List.getElem?_map, List.getElem?_drop, Option.map_eq_some_iff] at h
    obtain ⟨d, hd, rfl⟩ := h
    exact ⟨d, hd, rfl⟩
  refine ⟨by simp, by omega, by omega, by omega, by omega, by omega, by omega, ⟨by simp; omega, ?_, ?_⟩, by simp; omega, fun b hb => by rw [List.mem_replicate] at hb; rw [hb.2]; exact hd, by simp; omega, ?_, ?_⟩
  · intro f hm
    obtain ⟨j, hj⟩ := List.getElem?_of_mem hm
    obtain ⟨d, hdj, rfl⟩ := hget j f hj
    have := hl.rg d (List.mem_of_getElem? hdj)
    have h5 : ¬ d ≤ (i : Int) := fun h => by have := (h2 _ d hdj).1 h; omega
    refine ⟨hd, ?_, ?_⟩ <;> simp only [mkF] <;> omega
  · intro j a b ha hb
    obtain ⟨x, hx, rfl⟩ := hget j a ha
    obtain ⟨y, hy, rfl⟩ := hget (j + 1) b hb
    have := getElem?_lt hy
    have h0 : cnt l i + j = 0 := by omega
    have h1' : cnt l i + (j + 1) = 1 := by omega
    rw [h0] at hx
    rw [h1'] at hy
    match l, hlen, hx, hy, hl with
    | [u, v], _, hx, hy, hl =>
      simp at hx hy
      have := hl.so u v rfl
      simp only [mkF]
      omega
    | [], _, hx, _, _ => simp at hx
    | [u], _, _, hy, _ => simp at hy
    | _ :: _ :: _ :: _, hlen, _, _, _ => simp at hlen
  · intro j f hj hm
    obtain ⟨d, hdj, rfl⟩ := hget j f hm
    have h5 : ¬ d ≤ (i : Int) := fun h => by have := (h2 _ d hdj).1 h; omega
    have h6 := (h4 _ d hdj).2 (by omega)
    simp only [mkF]
    omega
  · intro f hm
    obtain ⟨d, hdj, rfl⟩ := hget _ f hm
    have h6 : ¬ d ≤ ((i + 1 : Nat) : Int) := fun h => by have := (h4 _ d hdj).1 h; omega
    simp only [mkF]
    omega
theorem m_fate {i : Nat} (hi : i ≤ 100) : s20 fu [p] ((i + 1 : Nat) : Int) 1 0 ((l.drop (cnt l i)).map (mkF data)) (List.replicate (cnt l i) data) false 0 0 0 [] 2 0 [] false 0 0 0 [] 0 0 [] = some (stF p l data (i + 1), ([], ())) := by
  have hm := cnt_mono hl i
  obtain ⟨h3, h4⟩ := cnt_spec hl (i + 1)
  rw [tick_idle hfu (ok_F hfu (p := p) hl hd hi) (.inr (s52_0 (by omega) rfl)) (.inl rfl) (by simp) (by simp)]
  have e1 : ((l.drop (cnt l i)).map (mkF data)).drop (cnt l (i + 1) - cnt l i) = (l.drop (cnt l (i + 1))).map (mkF data) := by
    rw [← List.map_drop, List.drop_drop, show cnt l i + (cnt l (i + 1) - cnt l i) = cnt l (i + 1) by omega]
  have e2 : List.replicate (cnt l i) data ++ (((l.drop (cnt l i)).map (mkF data)).take (cnt l (i + 1) - cnt l i)).map Flight12.Data = List.replicate (cnt l (i + 1)) data := by
    rw [← List.map_take, List.map_map, show (Flight12.Data ∘ mkF data) = fun _ => data from rfl, List.map_const', List.length_take, List.length_drop, List.replicate_append_replicate]
    congr 1
    omega
  rw [e1, e2, show ((i + 1 : Nat) : Int) + 1 = ((i + 1 + 1 : Nat) : Int) by omega]
theorem m_fate0 (hp : s17 fu p = some (l, ())) :
    s26 fu [p] 0 0 0 [] [] false 0 0 0 [] 0 0 [] false 0 0 0 [] 0 0 [] 2 0 0 data = some (tup [p] 0 0 0 [] [] true 2 0 0 data 0 0 [] false 0 0 0 [] 0 0 [], (0, ())) ∧
    s20 fu [p] 0 0 0 [] [] true 2 0 0 data 0 0 [] false 0 0 0 [] 0 0 [] = some (stF p l data 0, ([⟨2, 0, []⟩], ())) := by
  have H : Ok12 [p] 0 0 0 ([] : List Flight12) ([] : List (List Int)) 0 := ⟨by simp, by omega, by omega, by omega, by omega, by omega, by omega, ⟨by simp, by simp, by simp⟩, by simp, by simp, by simp, by intro i f h; omega, by simp⟩
  refine ⟨do_send hfu H (by have := hd.2; omega) (s52_0 (by omega) rfl) (by omega) (.inl rfl) (.inl rfl) (by simp) (by simp), ?_⟩
  have h := tick_send hfu H (pl := 0) (p := p) (l := l) (data := data) (ct := 2) (olt := 0) (ola := 0) (jlt := 0) (jla := 0) (old := []) (jld := []) (.inr ⟨rfl, hp⟩) hd (s52_0 (by omega) rfl) (by omega) hl.len (by simp)
    (fun d hd => by have := hl.rg d hd; exact ⟨by omega, by omega, by simp⟩)
    (fun i k x y hik hx hy => by
      have h1 := getElem?_lt hx
      have h2 := getElem?_lt hy
      have hlen := hl.len
      match l, hlen, hx, hy, h1, h2, hl with
      | [], _, hx, _, _, _, _ => simp at hx
      | [u], _, hx, hy, h1, h2, _ =>
        simp at h1 h2
        subst h1; subst h2
        simp at hx hy
        omega
      | [u, v], _, hx, hy, h1, h2, hl =>
        have := hl.so u v rfl
        match i, k, hx, hy with
        | 0, 0, hx, hy => simp at hx hy; omega
        | 0, 1, hx, hy => simp at hx hy; omega
        | 1, 1, hx, hy => simp at hx hy; omega
        | 1, 0, _, _ => omega
        | i + 2, _, hx, _ => simp at hx
        | _, k + 2, _, hy => simp at hy
      | _ :: _ :: _ :: _, hlen, _, _, _, _, _ => simp at hlen)
    (.inl rfl) (.inl rfl) (by simp) (by simp)
  rw [h]
  simp [stF, tup, cnt_0 hl]
end
end Go.G
