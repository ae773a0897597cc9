import Derived.Test.YtjmhaeegcaapeaaP12b
set_option linter.unusedVariables false
set_option linter.unusedSimpArgs false
namespace Go.G
set_option maxRecDepth 100000
abbrev TT := Unit × Int × Int × Int × Unit × Unit × Bool × Int × Int × Int × Unit × Int × Int × Unit × Bool × Int × Int × Int × Unit × Int × Int × Unit × Unit
abbrev BB := List Int × Int × Int × Int × Unit × Unit × Bool × Int × Int × Int × List Int × Int × Int × List Int × Bool × Int × Int × Int × List Int × Int × Int × List Int × Unit
theorem cutk {α : Type} (l : List α) {k : Nat} (h : k ≤ l.length) : dcut l (k : Int) (oadd (k : Int) (osub (dlen l) (k : Int))) = l.drop k := by
  simp only [dcut, oadd, osub, dlen_def]
  rw [show ((k : Int) + ((l.length : Int) - (k : Int))).toNat = l.length by omega, List.take_length, Int.toNat_natCast]
theorem cut1 {α : Type} (l : List α) (h : 1 ≤ l.length) : dcut l 1 (oadd 1 (osub (dlen l) 1)) = l.drop 1 := cutk l (k := 1) h
theorem t299 : t20_299 = t20_160 := rfl
theorem drop_take_map {α β : Type} (f : α → β) (w : List β) (l : List α) (j : Nat) {a : α} (h : l[j]? = some a) : w ++ (l.take (j + 1)).map f = w ++ (l.take j).map f ++ [f a] := by
  rw [List.take_add_one, h, List.map_append, List.append_assoc]
  rfl
theorem arrive12 {fu : Nat} (hfu : 1000 < fu) {now : Int} {fl : List Flight12} {w : List (List Int)} {n : Nat} (hn : n ≤ fl.length) (hl : fl.length ≤ 400) (h1 : ∀ i f, i < n → fl[i]? = some f → f.Due = now) (h2 : ∀ f, fl[n]? = some f → f.Due ≠ now) (hw : w.length + n ≤ 64) (T : TT) (B : BB) (hB : B.2.1 = now) :
    iter (t20_5 fu) fu ((), ((), (T, (w, (fl, (B, ())))))) = some (.inl ((), ((), (T, (w ++ (fl.take n).map Flight12.Data, (fl.drop n, (B, ()))))))) := by
  have := iter_run (step := t20_5 fu) (fu := fu) (fun j => ((), ((), (T, (w ++ (fl.take j).map Flight12.Data, (fl.drop j, (B, ()))))))) (e := .inl ((), ((), (T, (w ++ (fl.take n).map Flight12.Data, (fl.drop n, (B, ()))))))) (n := n)
    (fun j hj => by
      obtain ⟨f, hf⟩ : ∃ f, fl[j]? = some f := ⟨_, List.getElem?_eq_getElem (by omega)⟩
      have e1 : ilt 0 (dlen (fl.drop j)) = true := ilt_iff.2 (by rw [dlen_def, List.length_drop]; omega)
      have e2 : dat (fl.drop j) 0 = some f := by
        rw [show (0 : Int) = ((0 : Nat) : Int) from rfl, dat_nat, List.getElem?_drop]; simpa using hf
      have e3 : ieq f.Due B.2.1 = true := ieq_iff.2 (by rw [hB]; exact h1 j f hj hf)
      have hlen : (w ++ (fl.take j).map Flight12.Data).length = w.length + j := by simp; omega
      have e4 : ilt (dlen (w ++ (fl.take j).map Flight12.Data)) 64 = true := ilt_iff.2 (by rw [dlen_def, hlen]; omega)
      have e5 : dapp 24 (w ++ (fl.take j).map Flight12.Data) (f.Data :: []) = some (w ++ (fl.take (j + 1)).map Flight12.Data) := by
        rw [drop_take_map _ _ _ _ hf]
        refine dapp_ok ?_ ?_ <;> rw [hlen] <;> simp <;> omega
      have e6 : ile 1 (dlen (fl.drop j)) = true := ile_iff.2 (by rw [dlen_def, List.length_drop]; omega)
      have e7 : ile (dlen (fl.drop j)) (dlen (fl.drop j)) = true := ile_iff.2 (Int.le_refl _)
      have e8 := cut1 (fl.drop j) (by rw [List.length_drop]; omega)
      rw [List.drop_drop] at e8
      simp only [t20_5, e1, e2, e3, e4, e5, show ile 0 1 = true from rfl, e6, e7, e8])
    (by
      by_cases hz : n < fl.length
      · obtain ⟨f, hf⟩ : ∃ f, fl[n]? = some f := ⟨_, List.getElem?_eq_getElem (by omega)⟩
        have e1 : ilt 0 (dlen (fl.drop n)) = true := ilt_iff.2 (by rw [dlen_def, List.length_drop]; omega)
        have e2 : dat (fl.drop n) 0 = some f := by
          rw [show (0 : Int) = ((0 : Nat) : Int) from rfl, dat_nat, List.getElem?_drop]; simpa using hf
        have e3 : ieq f.Due B.2.1 = false := ieq_f.2 (by rw [hB]; exact h2 f hf)
        simp only [t20_5, e1, e2, e3]
      · have e1 : ilt 0 (dlen (fl.drop n)) = false := ilt_f.2 (by rw [dlen_def, List.length_drop]; omega)
        simp only [t20_5, e1])
    (by omega)
  simpa using this
theorem dins_end {α : Type} {bytes : Nat} (hb : bytes ≤ 1000) {l : List α} (h : l.length ≤ 1000) (x : α) : dins bytes l (l.length : Int) x = some (l ++ [x]) := by
  have h1 : (l.length + 1) * bytes ≤ 1001 * 1000 := Nat.mul_le_mul (by omega) hb
  unfold dins
  rw [if_pos ⟨by omega, by omega, by omega, by omega⟩]
  simp
theorem send12 {fu : Nat} (hfu : 2000 < fu) {now : Int} {fl : List Flight12} {w : List (List Int)} {data l : List Int} (hl : fl.length ≤ 400) (hll : l.length ≤ 2) (hd : data.length ≤ 1000) (hn : 0 ≤ now) (hn2 : now ≤ 1000)
    (h0 : ∀ f ∈ fl, 0 ≤ f.Due) (h1 : ∀ d ∈ l, 0 ≤ d ∧ d ≤ 8 ∧ ∀ f ∈ fl, f.Due ≤ now + d) (h2 : ∀ (i j : Nat) (a b : Int), i ≤ j → l[i]? = some a → l[j]? = some b → a ≤ b) (B : BB) (hB : B.2.1 = now) :
    iter (t20_160 fu) fu ((), (data, (l, (dlen l, ((0 : Int), (w, (fl, (B, ())))))))) = some (.inl ((), (w, (fl ++ l.map (fun d => ⟨now + d, data⟩), (B, ()))))) := by
  subst hB
  have := iter_run (step := t20_160 fu) (fu := fu) (fun j => ((), (data, (l, (dlen l, ((j : Int), (w, (fl ++ (l.take j).map (fun d => (⟨B.2.1 + d, data⟩ : Flight12)), (B, ())))))))))
    (e := .inl ((), (w, (fl ++ l.map (fun d => ⟨B.2.1 + d, data⟩), (B, ()))))) (n := l.length)
    (fun j hj => by
      obtain ⟨d, hdj⟩ : ∃ d, l[j]? = some d := ⟨_, List.getElem?_eq_getElem (by omega)⟩
      obtain ⟨d1, d2, d3⟩ := h1 d (List.mem_of_getElem? hdj)
      have e1 : iadd .i64 B.2.1 d = B.2.1 + d := iadd64 (by omega)
      have e2 : iadd .i64 (B.2.1 + d) 1 = B.2.1 + d + 1 := iadd64 (by omega)
      have hlen : (fl ++ (l.take j).map (fun d => (⟨B.2.1 + d, data⟩ : Flight12))).length = fl.length + j := by simp; omega
      have e3 := bs12 (fu := fu) (t := B.2.1 + d + 1) (n := dlen (fl ++ (l.take j).map (fun d => (⟨B.2.1 + d, data⟩ : Flight12)))) (rows := fl ++ (l.take j).map (fun d => (⟨B.2.1 + d, data⟩ : Flight12))) (by rw [hlen]; omega) hfu
        (fun f hf => by
          rcases List.mem_append.1 hf with hf | hf
          · have := d3 f hf; have := h0 f hf; omega
          · obtain ⟨d', hd', rfl⟩ := List.mem_map.1 hf
            obtain ⟨i, hi⟩ := List.getElem?_of_mem hd'
            have hij : i < j := by
              have := getElem?_lt hi
              simp at this; omega
            have hi' : l[i]? = some d' := by rw [List.getElem?_take_of_lt hij] at hi; exact hi
            have := h2 i j d' d (by omega) hi' hdj
            have := (h1 d' (List.mem_of_getElem? hi')).1
            show B.2.1 + d' < _ ∧ 0 ≤ B.2.1 + d'
            omega) (by omega)
      have e4 := dins_end (bytes := 32) (by omega) (l := fl ++ (l.take j).map (fun d => (⟨B.2.1 + d, data⟩ : Flight12))) (by rw [hlen]; omega) (⟨B.2.1 + d, data⟩ : Flight12)
      have e5 : iadd .i64 (j : Int) 1 = ((j + 1 : Nat) : Int) := iadd1 (by omega)
      rw [← drop_take_map (fun d => (⟨B.2.1 + d, data⟩ : Flight12)) fl l j hdj] at e4
      rw [dlen_def] at e3
      simp only [t20_160, dlen_def, ilt_len hj, dat_nat, hdj, e1, e2, e3, ilt_end, clone12 (bytes := 1) (by omega) hd, e4, e5])
    (by
      simp only [t20_160, dlen_def, ilt_end, List.take_length]) (by omega)
  simpa using this
end Go.G
