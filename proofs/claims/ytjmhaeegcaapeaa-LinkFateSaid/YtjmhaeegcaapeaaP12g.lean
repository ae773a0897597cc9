import Derived.Test.YtjmhaeegcaapeaaP12f
set_option linter.unusedVariables false
set_option linter.unusedSimpArgs false
namespace Go.G
set_option maxRecDepth 100000
set_option maxHeartbeats 4000000
theorem tag0 {fu j : Nat} : s52 fu (2 * (j : Int) + 2) 0 = some (true, ()) := s52_0 (by omega) (by simp only [irem]; rw [Int.tmod_eq_emod_of_nonneg (by omega)]; omega)
theorem tag0' {fu j : Nat} : (2 * (j : Int)) = 0 ∨ s52 fu (2 * (j : Int)) 0 = some (true, ()) := by
  cases j with
  | zero => exact .inl rfl
  | succ j => right; rw [show 2 * ((j + 1 : Nat) : Int) = 2 * (j : Int) + 2 by omega]; exact tag0
theorem tag1 {fu j : Nat} : s52 fu (2 * (j : Int) + 1) 1 = some (true, ()) := s52_1 (by omega) (by simp only [irem]; rw [Int.tmod_eq_emod_of_nonneg (by omega)]; omega)
/-- The last answer of Receive, after so many. -/
def lTag (j : Nat) : Int := if j = 0 then 0 else 2 * ((j - 1 : Nat) : Int) + 1
def lDat (fr : List (List Int)) (j : Nat) : List Int := if j = 0 then [] else (fr[j - 1]?).getD []
theorem lTag_ok {fu j : Nat} : lTag j = 0 ∨ s52 fu (lTag j) 1 = some (true, ()) := by
  unfold lTag
  split
  · exact .inl rfl
  · exact .inr tag1
theorem lTag_lt {j : Nat} : lTag j < 2 * (j : Int) + 1 := by
  unfold lTag
  split <;> omega
theorem lDat_len {fr : List (List Int)} (hf : ∀ b ∈ fr, Fr b) {j : Nat} : (lDat fr j).length ≤ 1000 := by
  unfold lDat
  split
  · simp
  · cases h : fr[j - 1]? with
    | none => simp
    | some b => have := (hf b (List.mem_of_getElem? h)).2; simp; omega
section
variable {fu : Nat} (hfu : 2000 < fu) {P : List Int} {D : Nat} {p : Int} (hp : P.length ≤ 200) (hP : (P = [] ∧ s17 fu 0 = some ([(D : Int)], ())) ∨ (P = [p] ∧ s17 fu p = some ([(D : Int)], ()))) (hD : 1 ≤ D) (hD8 : D ≤ 8) {fr : List (List Int)} (hfr : fr.length ≤ 40)
/-- After so many have been sent. -/
abbrev stS (P : List Int) (D : Nat) (fr : List (List Int)) (j : Nat) := tup P (j : Int) (j : Int) 0 ((fls D 0 (fr.take j)).drop (j - D)) ((fr.take j).take (j - D)) false 0 0 0 [] (2 * (j : Int)) 0 [] false 0 0 0 [] 0 0 []
/-- So many ticks later. -/
abbrev stI (P : List Int) (D : Nat) (fr : List (List Int)) (q : Nat) := tup P ((fr.length + q : Nat) : Int) (fr.length : Int) 0 ((fls D 0 fr).drop (fr.length + q - D)) (fr.take (fr.length + q - D)) false 0 0 0 [] (2 * (fr.length : Int)) 0 [] false 0 0 0 [] 0 0 []
/-- After so many have been received. -/
abbrev stR (P : List Int) (T : Nat) (fr : List (List Int)) (j : Nat) := tup P ((T + j : Nat) : Int) (fr.length : Int) ((j - 1 : Nat) : Int) ([] : List Flight12) (fr.drop (j - 1)) false 0 0 0 [] (2 * (fr.length : Int)) 0 [] false 0 0 0 [] (lTag j) (j : Int) (lDat fr j)
include hfu hp hD hD8 hfr
theorem ok_S {j : Nat} (hj : j < fr.length) (hf : ∀ b ∈ fr.take j, Fr b) : Ok12 P (j : Int) (j : Int) 0 ((fls D 0 (fr.take j)).drop (j - D)) ((fr.take j).take (j - D)) (nArr D j (fr.take j).length) := by
  have _ := hfu
  exact ok_at hp hD hD8 (by simp; omega) (by simp; omega) (by omega) hf (by simp; omega) (fun b hb => hf b (List.mem_of_mem_take hb)) (by omega) (by omega) (by omega) (by omega)
include hP
theorem m_send {j : Nat} {b : List Int} (hb : fr[j]? = some b) (hf : ∀ b ∈ fr.take j, Fr b) (hbf : Fr b) :
    s26 fu P (j : Int) (j : Int) 0 ((fls D 0 (fr.take j)).drop (j - D)) ((fr.take j).take (j - D)) false 0 0 0 [] (2 * (j : Int)) 0 [] false 0 0 0 [] 0 0 [] (2 * (j : Int) + 2) 0 0 b = some (tup P (j : Int) (j : Int) 0 ((fls D 0 (fr.take j)).drop (j - D)) ((fr.take j).take (j - D)) true (2 * (j : Int) + 2) 0 0 b (2 * (j : Int)) 0 [] false 0 0 0 [] 0 0 [], (0, ())) ∧
    s20 fu P (j : Int) (j : Int) 0 ((fls D 0 (fr.take j)).drop (j - D)) ((fr.take j).take (j - D)) true (2 * (j : Int) + 2) 0 0 b (2 * (j : Int)) 0 [] false 0 0 0 [] 0 0 [] = some (stS P D fr (j + 1), ([⟨2 * (j : Int) + 2, 0, []⟩], ())) := by
  have hj := getElem?_lt hb
  have H := ok_S hfu hp hD hD8 hfr hj hf
  refine ⟨do_send hfu H (by have := hbf.2; omega) tag0 (by omega) tag0' (.inl rfl) (by simp) (by simp), ?_⟩
  have hlen : (fr.take j).length = j := by simp; omega
  have hmem : ∀ f ∈ ((fls D 0 (fr.take j)).drop (j - D)).drop (nArr D j (fr.take j).length), f.Due ≤ (j : Int) + 1 + D := by
    intro f hm
    obtain ⟨i, hi⟩ := List.getElem?_of_mem (List.mem_of_mem_drop (List.mem_of_mem_drop hm))
    rw [fls_get, Option.map_eq_some_iff] at hi
    obtain ⟨x, hx, rfl⟩ := hi
    have := getElem?_lt hx
    simp only
    omega
  have h := tick_send hfu H (pl := 0) (p := p) (l := [(D : Int)]) (data := b) (ct := 2 * (j : Int) + 2) (olt := 2 * (j : Int)) (ola := 0) (jlt := 0) (jla := 0) (old := []) (jld := []) hP hbf tag0 (by omega) (by simp)
    (by rw [List.length_drop, List.length_drop, fls_len]; omega)
    (fun d hd => by
      simp only [List.mem_singleton] at hd
      subst hd
      exact ⟨by omega, by omega, hmem⟩)
    (fun i k x y hik hx hy => by
      have := getElem?_lt hx
      have := getElem?_lt hy
      simp only [List.length_singleton] at *
      have : i = 0 := by omega
      have : k = 0 := by omega
      subst_vars
      rw [hx] at hy; cases hy; exact Int.le_refl _)
    tag0' (.inl rfl) (by simp) (by simp)
  rw [h, fl_next, wt_next]
  have e0 : fr.take (j + 1) = fr.take j ++ [b] := by rw [List.take_add_one, hb]; rfl
  have e2 : (fls D 0 (fr.take j)).drop (j + 1 - D) ++ [(D : Int)].map (fun d => (⟨(j : Int) + 1 + d, b⟩ : Flight12)) = (fls D 0 (fr.take (j + 1))).drop (j + 1 - D) := by
    rw [e0, fls_snoc, List.drop_append_of_le_length (by rw [fls_len]; omega)]
    simp only [List.map_cons, List.map_nil]
    rw [hlen, show ((0 + j + 1 + D : Nat) : Int) = (j : Int) + 1 + D by omega]
  have e3 : (fr.take j).take (j + 1 - D) = (fr.take (j + 1)).take (j + 1 - D) := by
    rw [e0, List.take_append_of_le_length (by omega)]
  rw [e2, e3, show (j : Int) + 1 = ((j + 1 : Nat) : Int) by omega, show 2 * (j : Int) + 2 = 2 * ((j + 1 : Nat) : Int) by omega]
omit hP
theorem m_idle {q : Nat} (hq : q ≤ 20) (hf : ∀ b ∈ fr, Fr b) : s20 fu P ((fr.length + q : Nat) : Int) (fr.length : Int) 0 ((fls D 0 fr).drop (fr.length + q - D)) (fr.take (fr.length + q - D)) false 0 0 0 [] (2 * (fr.length : Int)) 0 [] false 0 0 0 [] 0 0 [] = some (stI P D fr (q + 1), ([], ())) := by
  have H : Ok12 P ((fr.length + q : Nat) : Int) (fr.length : Int) 0 ((fls D 0 fr).drop (fr.length + q - D)) (fr.take (fr.length + q - D)) (nArr D (fr.length + q) fr.length) :=
    ok_at hp hD hD8 hfr (by omega) (by omega) hf (by simp; omega) (fun b hb => hf b (List.mem_of_mem_take hb)) (by omega) (by omega) (by omega) (by omega)
  rw [tick_idle hfu H tag0' (.inl rfl) (by simp) (by simp), fl_next, wt_next, show ((fr.length + q : Nat) : Int) + 1 = ((fr.length + (q + 1) : Nat) : Int) by omega]
  rfl
theorem m_recv {T j : Nat} (hT : T ≤ 100) {b : List Int} (hb : fr[j]? = some b) (hf : ∀ b ∈ fr, Fr b) :
    s26 fu P ((T + j : Nat) : Int) (fr.length : Int) ((j - 1 : Nat) : Int) [] (fr.drop (j - 1)) false 0 0 0 [] (2 * (fr.length : Int)) 0 [] false 0 0 0 [] (lTag j) (j : Int) (lDat fr j) (2 * (j : Int) + 1) 1 (j : Int) [] = some (tup P ((T + j : Nat) : Int) (fr.length : Int) ((j - 1 : Nat) : Int) ([] : List Flight12) (fr.drop (j - 1)) false 0 0 0 [] (2 * (fr.length : Int)) 0 [] true (2 * (j : Int) + 1) 1 (j : Int) [] (lTag j) (j : Int) (lDat fr j), (0, ())) ∧
    s20 fu P ((T + j : Nat) : Int) (fr.length : Int) ((j - 1 : Nat) : Int) [] (fr.drop (j - 1)) false 0 0 0 [] (2 * (fr.length : Int)) 0 [] true (2 * (j : Int) + 1) 1 (j : Int) [] (lTag j) (j : Int) (lDat fr j) = some (stR P T fr (j + 1), ([⟨2 * (j : Int) + 1, (j : Int) + 1, b⟩], ())) := by
  have _ := hD
  have _ := hD8
  have hj := getElem?_lt hb
  have H : Ok12 P ((T + j : Nat) : Int) (fr.length : Int) ((j - 1 : Nat) : Int) ([] : List Flight12) (fr.drop (j - 1)) 0 :=
    ⟨hp, by omega, by omega, by omega, by omega, by omega, by omega, ⟨by simp, by simp, by simp⟩, by simp; omega, fun b hb => hf b (List.mem_of_mem_drop hb), by simp, by intro i f h; omega, by simp⟩
  refine ⟨do_recv hfu H tag1 lTag_lt tag0' lTag_ok (by simp) (lDat_len hf), ?_⟩
  have hi : (fr.drop (j - 1) ++ (([] : List Flight12).take 0).map Flight12.Data)[j - (j - 1)]? = some b := by
    simp only [List.take_nil, List.map_nil, List.append_nil]
    rw [List.getElem?_drop, show j - 1 + (j - (j - 1)) = j by omega]
    exact hb
  have h := tick_recv hfu H (ct := 2 * (j : Int) + 1) (k := (j : Int)) (olt := 2 * (fr.length : Int)) (ola := 0) (jlt := lTag j) (jla := (j : Int)) (old := []) (jld := lDat fr j) (b := b) (i := j - (j - 1)) (by omega) hi (by have := (hf b (List.mem_of_getElem? hb)).2; omega) tag1 lTag_lt tag0' lTag_ok (by simp) (lDat_len hf)
  rw [h]
  have e1 : (fr.drop (j - 1) ++ (([] : List Flight12).take 0).map Flight12.Data).drop (j - (j - 1)) = fr.drop (j + 1 - 1) := by
    simp only [List.take_nil, List.map_nil, List.append_nil]
    rw [List.drop_drop, show j - 1 + (j - (j - 1)) = j + 1 - 1 by omega]
  have e2 : lTag (j + 1) = 2 * (j : Int) + 1 := rfl
  have e3 : lDat fr (j + 1) = b := by
    unfold lDat
    simp [hb]
  rw [e1]
  simp only [stR, tup, e2, e3, List.drop_nil, Nat.add_sub_cancel]
  rw [show ((T + j : Nat) : Int) + 1 = ((T + (j + 1) : Nat) : Int) by omega, show (j : Int) + 1 = ((j + 1 : Nat) : Int) by omega]
end
end Go.G
