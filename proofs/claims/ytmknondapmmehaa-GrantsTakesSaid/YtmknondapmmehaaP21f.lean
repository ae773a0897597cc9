import Derived.Test.YtmknondapmmehaaP21e
set_option linter.unusedVariables false
set_option linter.unusedSimpArgs false
namespace Go.G
set_option maxRecDepth 100000
set_option maxHeartbeats 2000000
noncomputable def withoutL (t : List Grant21) (gone : Grant21 → Bool) : List Grant21 := (t.filter (fun x => !gone x)).filter (supB (t.filter (fun x => !gone x)))
noncomputable def revF (t : List Grant21) (g f : Int) : List Grant21 × Int × Unit := bif !validB t then ([], 1, ()) else bif !t.any (kyG g f) then ([], 8, ()) else (withoutL t (kyG g f), 0, ())
noncomputable def leaveF (t : List Grant21) (g : Int) : List Grant21 × Int × Unit := bif !validB t then ([], 1, ()) else (withoutL t (fun x => ieq x.Grantee g), 0, ())
theorem gr_eta (x : Grant21) : (⟨x.Owner, x.Grantee, x.Frame, x.Rights⟩ : Grant21) = x := rfl
theorem filt122 (fu : Nat) (m : List Grant21) (B : List Grant21) (q : Grant21 → Bool) (hB : ∀ j : Nat, j < m.length → dat B (oadd 0 (j : Int)) = m[j]?) (hf : m.length < fu) (hl : m.length < 1000000000) :
    iter (t19_122 fu) fu (m.map q, ((), ((0, (m.length : Int)), ((m.length : Int), (0, (B, ([], ()))))))) = some (.inl ((), (B, (m.filter q, ())))) := by
  have := iter_fold (step := t19_122 fu) (fu := fu) m (fun j acc => (m.map q, ((), ((0, (m.length : Int)), ((m.length : Int), ((j : Int), (B, (acc, ()))))))))
    (fun x acc => if q x then acc ++ [x] else acc) (fun i acc => acc.length ≤ i) (fun acc => .inl ((), (B, (acc, ())))) [] hf (Nat.le_refl _)
    (fun i x acc hi hI => by
      have h1 := getElem?_lt hi
      have hda : dapp 32 acc [x] = some (acc ++ [x]) := dapp_ok (by simp; omega) (by simp; omega)
      have hm : (m.map q)[i]? = some (q x) := by rw [List.getElem?_map, hi]; rfl
      have hb := hB i h1
      rw [hi] at hb
      simp only [t19_122, dat_nat, hb, hm, ilt_len h1, ile_iff.2 (show (0 : Int) ≤ (i : Int) by omega), iadd1 (show i < 9223372036854775807 by omega), hda, gr_eta]
      cases q x <;> simp <;> omega)
    (fun acc hI => by simp only [t19_122, ilt_end])
  rw [show ((0 : Nat) : Int) = 0 from rfl] at this
  rw [this]
  have hff := foldl_filter_snoc q m []
  simp only [hff, List.nil_append]
theorem comp111 (fu : Nat) (l : List Grant21) (g f : Int) (i : Nat) (x : Grant21) (hi : l[i]? = some x) (hq : kyG g f x = true) (hb : ∀ j b, j < i → l[j]? = some b → kyG g f b = false) (hf : l.length < fu) (hl : l.length < 1000000000) :
    ∃ (k : Nat) (c : List Grant21), k ≤ l.length ∧ c.length = l.length ∧ c.take k = l.filter (fun a => !kyG g f a) ∧
      iter (t19_111 fu) fu ((), ((), ((i : Int), (((i + 1 : Nat) : Int), ((f, ()), ((g, ()), (l, ()))))))) = some (.inl ((), ((k : Int), ((f, ()), ((g, ()), (c, ())))))) :=
  iter_compact (step := t19_111 fu) (fu := fu) (kyG g f) l (fun k j c => ((), ((), ((k : Int), ((j : Int), ((f, ()), ((g, ()), (c, ())))))))) (fun k c => .inl ((), ((k : Int), ((f, ()), ((g, ()), (c, ())))))) i x hi hq hb
    (fun k j c y z hc hkj hz hy => by
      have h1 := getElem?_lt hy
      unfold kyG
      simp only [t19_111, dlen_def, dat_nat, hy, hz, ilt_len h1, iadd1 (show j < 9223372036854775807 by omega), iadd1 (show k < 9223372036854775807 by omega), gr_eta, dset, Int.toNat_natCast]
      cases ieq y.Grantee g <;> cases ieq y.Frame f <;> rfl)
    (fun k c hc => by rw [← hc]; simp only [t19_111, dlen_def, ilt_end]) hf
theorem filter_rg {t : List Grant21} {q : Grant21 → Bool} (h : ∀ y ∈ t, propB y = true) : ∀ y ∈ t.filter q, rg y.Rights := fun y hy => prop_rg (h y (List.mem_filter.1 hy).1)
theorem revoke21 (fu : Nat) (l : List Grant21) (g f : Int) (hf : 2 * l.length + 5 < fu) (hl : l.length < 100000000) : s19 fu l g f = some (revF l g f) := by
  unfold s19 revF
  rw [valid21 fu l (by omega) (by omega)]
  cases hv : validB l with
  | false => rfl
  | true =>
    obtain ⟨v1, v2, v3, v4⟩ := valid_iff.1 hv
    simp only [Bool.not_true, cond_false]
    have hda : dapp 32 [] l = some l := dapp_nil (by omega) (by omega)
    rcases iter_first (step := t19_1 fu) (fu := fu) l (fun j => (l, ((), ((dlen l), ((j : Int), ((f, ()), ((g, ()), ()))))))) (kyG g f) (fun i _ => .inr (.inl ((i : Int), ((f, ()), ((g, ()), ()))))) (.inl ((f, ()), ((g, ()), ()))) (by omega)
      (fun i x hi hq => by
        have h1 := getElem?_lt hi
        unfold kyG at hq
        simp only [t19_1, dlen_def, ilt_len h1, dat_nat, hi, iadd1 (show i < 9223372036854775807 by omega)]
        cases e1 : ieq x.Grantee g <;> cases e2 : ieq x.Frame f <;> simp_all)
      (fun i x hi hq => by
        have h1 := getElem?_lt hi
        unfold kyG at hq
        simp only [t19_1, dlen_def, ilt_len h1, dat_nat, hi]
        cases e1 : ieq x.Grantee g <;> cases e2 : ieq x.Frame f <;> simp_all)
      (by simp only [t19_1, dlen_def, ilt_end]) with ⟨i, x, h1, h2, h3, h4⟩ | ⟨h1, h2⟩
    · rw [show ((0 : Nat) : Int) = 0 from rfl] at h4
      have hany : l.any (kyG g f) = true := List.any_eq_true.2 ⟨x, List.mem_of_getElem? h1, h2⟩
      have hsearch : iter (t19_75 fu) fu ((), ((), ((dlen l), (0, ((f, ()), ((g, ()), (l, ()))))))) = some (.inr (.inl ((i : Int), ((f, ()), ((g, ()), (l, ())))))) := by
        have := iter_run (step := t19_75 fu) (fun j => ((), ((), ((dlen l), ((j : Int), ((f, ()), ((g, ()), (l, ()))))))) ) (n := i) (e := .inr (.inl ((i : Int), ((f, ()), ((g, ()), (l, ())))))) (fu := fu)
          (fun j hj => by
            have hj' : j < l.length := by have := getElem?_lt h1; omega
            have hy : l[j]? = some l[j] := List.getElem?_eq_getElem hj'
            have hq := h3 j _ hj hy
            unfold kyG at hq
            simp only [t19_75, dlen_def, ilt_len hj', dat_nat, hy, iadd1 (show j < 9223372036854775807 by omega)]
            cases e1 : ieq l[j].Grantee g <;> cases e2 : ieq l[j].Frame f <;> simp_all)
          (by
            have hi' := getElem?_lt h1
            unfold kyG at h2
            simp only [t19_75, dlen_def, ilt_len hi', dat_nat, h1]
            cases e1 : ieq x.Grantee g <;> cases e2 : ieq x.Frame f <;> simp_all) (by have := getElem?_lt h1; omega)
        exact this
      obtain ⟨k, c, q1, q2, q3, q4⟩ := comp111 fu l g f i x h1 h2 h3 (by omega) (by omega)
      have hi' := getElem?_lt h1
      have d := cut_facts (c := c) (k := k) (by omega) (⟨0, 0, 0, 0⟩ : Grant21)
      have hlen : (c.take k).length = k := by rw [List.length_take]; omega
      have hsup := sup34 fu (c.take k) (by rw [q3]; exact filter_rg v1) (by rw [hlen]; omega) (by rw [hlen]; omega)
      have hfil := filt122 fu (c.take k) (c.take k ++ List.replicate (c.length - k) (⟨0, 0, 0, 0⟩ : Grant21)) (supB (c.take k)) (fun j hj => d.at_ j (by omega)) (by omega) (by omega)
      rw [hlen] at hfil
      simp only [h4, ile_iff.2 (show (0 : Int) ≤ (i : Int) by omega), hda, hsearch, show ieq (i : Int) (-1) = false from ieq_f.2 (by omega), iadd1 (show i < 9223372036854775807 by omega), q4, d.c1, d.c2, d.c3, d.c4, d.c5, d.put, d.c6, d.cut, hsup, d.c7, hfil, hany, Bool.not_true, cond_false]
      have hcut := d.cut
      rw [d.c7] at hcut
      simp only [hcut, hsup, hfil]
      unfold withoutL
      rw [← q3]
    · rw [show ((0 : Nat) : Int) = 0 from rfl] at h2
      have hany : l.any (kyG g f) = false := by
        rw [List.any_eq_false]
        intro b hb
        simpa using h1 b hb
      rw [h2, hany]
      rfl
end Go.G
