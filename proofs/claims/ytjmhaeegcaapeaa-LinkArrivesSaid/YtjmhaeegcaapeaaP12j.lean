import Derived.Test.YtjmhaeegcaapeaaP12h
import Derived.Test.YtjmhaeegcaapeaaOn12L5
set_option linter.unusedVariables false
set_option linter.unusedSimpArgs false
namespace Go.G
set_option maxRecDepth 100000
set_option maxHeartbeats 4000000
section
variable {fu : Nat} (hfu : 2000 < fu) {P : List Int} {D : Nat} {p : Int} (hp : P.length ≤ 200) (hP : (P = [] ∧ s17 fu 0 = some ([(D : Int)], ())) ∨ (P = [p] ∧ s17 fu p = some ([(D : Int)], ()))) (hD : 1 ≤ D) (hD8 : D ≤ 8) {fr : List (List Int)} (hfr : fr.length ≤ 40)
include hfu hp hD hD8 hfr
include hP in
theorem step5s {j : Nat} {b : List Int} (hb : fr[j]? = some b) (hf : ∀ b ∈ fr.take j, Fr b) (hbf : Fr b) :
    t5_2 fu (fr, ((), (dlen fr, ((j : Int), (stS P D fr j, ()))))) = some (.inl (fr, ((), (dlen fr, (((j + 1 : Nat) : Int), (stS P D fr (j + 1), ())))))) := by
  have hj := getElem?_lt hb
  obtain ⟨h1, h2⟩ := m_send hfu hp hP hD hD8 hfr hb hf hbf
  obtain ⟨k1, k2⟩ := fr_len hbf
  have hl : ieq (dlen ([⟨2 * (j : Int) + 2, 0, []⟩] : List Answer12)) 1 = true := rfl
  have ha : dat ([⟨2 * (j : Int) + 2, 0, []⟩] : List Answer12) 0 = some ⟨2 * (j : Int) + 2, 0, []⟩ := rfl
  have hi : ilt (j : Int) (dlen fr) = true := ilt_len hj
  simp only [t5_2, hi, dat_nat, hb, k1, k2, tagv (j := j) (by omega), h1, h2, hl, ha, ieq_refl, iadd1 (k := j) (by omega)]
include hP in
theorem loop5s : (∃ y, iter (t5_2 fu) fu (fr, ((), (dlen fr, ((0 : Int), (stS P D fr 0, ()))))) = some (.inr (.inl (true, y)))) ∨ ((∀ b ∈ fr, Fr b) ∧ iter (t5_2 fu) fu (fr, ((), (dlen fr, ((0 : Int), (stS P D fr 0, ()))))) = some (.inl (fr, ((), (stI P D fr 0, ()))))) := by
  by_cases hall : ∀ b ∈ fr, Fr b
  · right
    refine ⟨hall, ?_⟩
    have := iter_run (step := t5_2 fu) (fu := fu) (fun j => (fr, ((), (dlen fr, ((j : Int), (stS P D fr j, ())))))) (e := .inl (fr, ((), (stI P D fr 0, ())))) (n := fr.length)
      (fun j hj => step5s hfu hp hP hD hD8 hfr (List.getElem?_eq_getElem hj) (fun b hb => hall b (List.mem_of_mem_take hb)) (hall _ (List.getElem_mem hj)))
      (by rw [stS_I]; simp only [t5_2, dlen_def, ilt_end]) (by omega)
    exact this
  · left
    obtain ⟨q, b, hb, hbad, hgood⟩ := first_bad hall
    have hq := getElem?_lt hb
    refine ⟨(stS P D fr q, ()), ?_⟩
    refine iter_run (step := t5_2 fu) (fu := fu) (fun j => (fr, ((), (dlen fr, ((j : Int), (stS P D fr j, ())))))) (n := q)
      (fun j hj => step5s hfu hp hP hD hD8 hfr (List.getElem?_eq_getElem (by omega)) (fun b hb => hgood b (by
        rw [show fr.take j = (fr.take q).take j by rw [List.take_take]; congr 1; omega] at hb
        exact List.mem_of_mem_take hb)) (hgood _ (List.mem_of_getElem? (i := j) (by rw [List.getElem?_take_of_lt hj]; exact List.getElem?_eq_getElem (by omega)))))
      ?_ (by omega)
    have hi : ilt (q : Int) (dlen fr) = true := ilt_len hq
    cases h1 : ilt (dlen b) 1 with
    | true => simp only [t5_2, hi, dat_nat, hb, h1]
    | false =>
      have h2 : ilt 128 (dlen b) = true := by
        rw [ilt_iff, dlen_def]
        rw [ilt_f, dlen_def] at h1
        exact Int.not_le.1 fun h => hbad ⟨by omega, by omega⟩
      simp only [t5_2, hi, dat_nat, hb, h1, h2]
theorem loop5r (hf : ∀ b ∈ fr, Fr b) {T : Nat} (hT : T ≤ 100) : ∃ y, iter (t5_12 fu) fu (fr, ((), (dlen fr, ((0 : Int), (stR P T fr 0, ()))))) = some (.inl y) := by
  refine ⟨(stR P T fr fr.length, ()), ?_⟩
  refine iter_run (step := t5_12 fu) (fu := fu) (fun j => (fr, ((), (dlen fr, ((j : Int), (stR P T fr j, ())))))) (n := fr.length)
    (fun j hj => by
      obtain ⟨b, hb⟩ : ∃ b, fr[j]? = some b := ⟨_, List.getElem?_eq_getElem hj⟩
      obtain ⟨h1, h2⟩ := m_recv hfu hp hD hD8 hfr hT hb hf
      have hi : ilt (j : Int) (dlen fr) = true := ilt_len hj
      rw [show (j : Int) + 1 = ((j + 1 : Nat) : Int) from rfl] at h2
      have hl : ieq (dlen ([⟨2 * (j : Int) + 1, ((j + 1 : Nat) : Int), b⟩] : List Answer12)) 1 = true := rfl
      have ha : dat ([⟨2 * (j : Int) + 1, ((j + 1 : Nat) : Int), b⟩] : List Answer12) 0 = some ⟨2 * (j : Int) + 1, ((j + 1 : Nat) : Int), b⟩ := rfl
      have hbl := (hf b (List.mem_of_getElem? hb)).2
      have hs : s27 fu b b = some (true, ()) := by rw [bytes12 fu b b (by omega) (by omega)]; simp
      simp only [t5_12, hi, tagw (j := j) (by omega), h1, h2, hl, ha, ieq_refl, iadd1 (k := j) (by omega), dat_nat, hb, hs])
    (by simp only [t5_12, dlen_def, ilt_end]) (by omega)
end
end Go.G
