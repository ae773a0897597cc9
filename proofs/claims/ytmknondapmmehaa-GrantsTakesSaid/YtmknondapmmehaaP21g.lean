import Derived.Test.YtmknondapmmehaaP21f
set_option linter.unusedVariables false
set_option linter.unusedSimpArgs false
namespace Go.G
set_option maxRecDepth 100000
set_option maxHeartbeats 2000000
theorem same45 : t23_45 = t19_122 := rfl
theorem filt26 (fu : Nat) (m : List Grant21) (q : Grant21 → Bool) (hf : m.length < fu) (hl : m.length < 1000000000) :
    iter (t23_26 fu) fu (m.map q, ((), ((), ((dlen m), (0, (m, ([], ()))))))) = some (.inl ((), (m, (m.filter q, ())))) := by
  have := iter_fold (step := t23_26 fu) (fu := fu) m (fun j acc => (m.map q, ((), ((), ((dlen m), ((j : Int), (m, (acc, ()))))))))
    (fun x acc => if q x then acc ++ [x] else acc) (fun i acc => acc.length ≤ i) (fun acc => .inl ((), (m, (acc, ())))) [] hf (Nat.le_refl _)
    (fun i x acc hi hI => by
      have h1 := getElem?_lt hi
      have hda : dapp 32 acc [x] = some (acc ++ [x]) := dapp_ok (by simp; omega) (by simp; omega)
      have hm : (m.map q)[i]? = some (q x) := by rw [List.getElem?_map, hi]; rfl
      simp only [t23_26, dlen_def, dat_nat, hi, hm, ilt_len h1, iadd1 (show i < 9223372036854775807 by omega), hda, gr_eta]
      cases q x <;> simp <;> omega)
    (fun acc hI => by simp only [t23_26, dlen_def, ilt_end])
  rw [show ((0 : Nat) : Int) = 0 from rfl] at this
  rw [this]
  have hff := foldl_filter_snoc q m []
  simp only [hff, List.nil_append]
theorem comp36 (fu : Nat) (l : List Grant21) (g : Int) (i : Nat) (x : Grant21) (hi : l[i]? = some x) (hq : ieq x.Grantee g = true) (hb : ∀ j b, j < i → l[j]? = some b → ieq b.Grantee g = false) (hf : l.length < fu) (hl : l.length < 1000000000) :
    ∃ (k : Nat) (c : List Grant21), k ≤ l.length ∧ c.length = l.length ∧ c.take k = l.filter (fun a => !ieq a.Grantee g) ∧
      iter (t23_36 fu) fu ((), ((), ((i : Int), (((i + 1 : Nat) : Int), ((g, ()), (l, ())))))) = some (.inl ((), ((k : Int), ((g, ()), (c, ()))))) :=
  iter_compact (step := t23_36 fu) (fu := fu) (fun a => ieq a.Grantee g) l (fun k j c => ((), ((), ((k : Int), ((j : Int), ((g, ()), (c, ()))))))) (fun k c => .inl ((), ((k : Int), ((g, ()), (c, ()))))) i x hi hq hb
    (fun k j c y z hc hkj hz hy => by
      have h1 := getElem?_lt hy
      simp only [t23_36, dlen_def, dat_nat, hy, hz, ilt_len h1, iadd1 (show j < 9223372036854775807 by omega), iadd1 (show k < 9223372036854775807 by omega), gr_eta, dset, Int.toNat_natCast]
      cases ieq y.Grantee g <;> rfl)
    (fun k c hc => by rw [← hc]; simp only [t23_36, dlen_def, ilt_end]) hf
theorem leave21 (fu : Nat) (l : List Grant21) (g : Int) (hf : 2 * l.length + 5 < fu) (hl : l.length < 100000000) : s23 fu l g = some (leaveF l g) := by
  unfold s23 leaveF
  rw [valid21 fu l (by omega) (by omega)]
  cases hv : validB l with
  | false => rfl
  | true =>
    obtain ⟨v1, v2, v3, v4⟩ := valid_iff.1 hv
    simp only [Bool.not_true, cond_false]
    have hda : dapp 32 [] l = some l := dapp_nil (by omega) (by omega)
    rcases iter_first (step := t23_2 fu) (fu := fu) l (fun j => ((), ((), ((dlen l), ((j : Int), ((g, ()), (l, ()))))))) (fun x => ieq x.Grantee g) (fun i _ => .inr (.inl ((i : Int), ((g, ()), (l, ()))))) (.inl ((g, ()), (l, ()))) (by omega)
      (fun i x hi hq => by
        have h1 := getElem?_lt hi
        simp only [t23_2, dlen_def, ilt_len h1, dat_nat, hi, hq, iadd1 (show i < 9223372036854775807 by omega)])
      (fun i x hi hq => by
        have h1 := getElem?_lt hi
        simp only [t23_2, dlen_def, ilt_len h1, dat_nat, hi, hq])
      (by simp only [t23_2, dlen_def, ilt_end]) with ⟨i, x, h1, h2, h3, h4⟩ | ⟨h1, h2⟩
    · rw [show ((0 : Nat) : Int) = 0 from rfl] at h4
      obtain ⟨k, c, q1, q2, q3, q4⟩ := comp36 fu l g i x h1 h2 h3 (by omega) (by omega)
      have hi' := getElem?_lt h1
      have d := cut_facts (c := c) (k := k) (by omega) (⟨0, 0, 0, 0⟩ : Grant21)
      have hlen : (c.take k).length = k := by rw [List.length_take]; omega
      have hsup := sup34 fu (c.take k) (by rw [q3]; exact filter_rg v1) (by rw [hlen]; omega) (by rw [hlen]; omega)
      have hfil := filt122 fu (c.take k) (c.take k ++ List.replicate (c.length - k) (⟨0, 0, 0, 0⟩ : Grant21)) (supB (c.take k)) (fun j hj => d.at_ j (by omega)) (by omega) (by omega)
      rw [hlen] at hfil
      have hcut := d.cut
      rw [d.c7] at hcut
      simp only [hda, h4, show ieq (i : Int) (-1) = false from ieq_f.2 (by omega), iadd1 (show i < 9223372036854775807 by omega), q4, d.c1, d.c2, d.c3, d.c4, d.c5, d.put, d.c6, d.c7, hcut, hsup, same45, hfil]
      unfold withoutL
      rw [← q3]
    · rw [show ((0 : Nat) : Int) = 0 from rfl] at h2
      have hfl : l.filter (fun x => !ieq x.Grantee g) = l := by
        rw [List.filter_eq_self]
        intro b hb
        simp [h1 b hb]
      have hsup := sup34 fu l (fun y hy => prop_rg (v1 y hy)) (by omega) (by omega)
      simp only [hda, h2, show ieq (-1) (-1) = true from rfl, hsup, filt26 fu l (supB l) (by omega) (by omega)]
      unfold withoutL
      rw [hfl]
theorem revokeR21 (fu : Nat) (l : List Grant21) (g f : Int) (hf : 2 * l.length + 5 < fu) (hl : l.length < 100000000) : s22 fu l g f = some (revF l g f) := by
  unfold s22 revF
  rw [validR21 fu l (by omega) (by omega), find21 fu l g f (by omega) (by omega)]
  cases hv : validB l with
  | false => rfl
  | true =>
    cases hk : l.any (kyG g f) with
    | false => rfl
    | true =>
      have := iter_fold (step := t22_2 fu) (fu := fu) l (fun j acc => (l, (g, (f, ((), ((j : Int), (acc, ())))))))
        (fun x acc => if !kyG g f x then acc ++ [x] else acc) (fun i acc => acc.length ≤ i) (fun acc => .inl ((), (acc, ()))) [] (by omega) (Nat.le_refl _)
        (fun i x acc hi hI => by
          have h1 := getElem?_lt hi
          have hda : dapp 32 acc [x] = some (acc ++ [x]) := dapp_ok (by simp; omega) (by simp; omega)
          unfold kyG
          simp only [t22_2, dlen_def, dat_nat, hi, ilt_len h1, iadd1 (show i < 9223372036854775807 by omega), hda, gr_eta]
          cases ieq x.Grantee g <;> cases ieq x.Frame f <;> simp <;> omega)
        (fun acc hI => by simp only [t22_2, dlen_def, ilt_end])
      rw [show ((0 : Nat) : Int) = 0 from rfl] at this
      have hff := foldl_filter_snoc (fun x => !kyG g f x) l []
      rw [List.nil_append] at hff
      rw [hff] at this
      have hle := List.length_filter_le (fun x => !kyG g f x) l
      simp only [this, sup39 fu (l.filter (fun x => !kyG g f x)) (by omega) (by omega)]
      rfl
theorem leaveR21 (fu : Nat) (l : List Grant21) (g : Int) (hf : 2 * l.length + 5 < fu) (hl : l.length < 100000000) : s24 fu l g = some (leaveF l g) := by
  unfold s24 leaveF
  rw [validR21 fu l (by omega) (by omega)]
  cases hv : validB l with
  | false => rfl
  | true =>
    have := iter_fold (step := t24_1 fu) (fu := fu) l (fun j acc => (l, (g, ((), ((j : Int), (acc, ()))))))
      (fun x acc => if !ieq x.Grantee g then acc ++ [x] else acc) (fun i acc => acc.length ≤ i) (fun acc => .inl ((), (acc, ()))) [] (by omega) (Nat.le_refl _)
      (fun i x acc hi hI => by
        have h1 := getElem?_lt hi
        have hda : dapp 32 acc [x] = some (acc ++ [x]) := dapp_ok (by simp; omega) (by simp; omega)
        simp only [t24_1, dlen_def, dat_nat, hi, ilt_len h1, iadd1 (show i < 9223372036854775807 by omega), hda, gr_eta]
        cases ieq x.Grantee g <;> simp <;> omega)
      (fun acc hI => by simp only [t24_1, dlen_def, ilt_end])
    rw [show ((0 : Nat) : Int) = 0 from rfl] at this
    have hff := foldl_filter_snoc (fun x => !ieq x.Grantee g) l []
    rw [List.nil_append] at hff
    rw [hff] at this
    have hle := List.length_filter_le (fun x => !ieq x.Grantee g) l
    simp only [this, sup39 fu (l.filter (fun x => !ieq x.Grantee g)) (by omega) (by omega)]
    rfl
theorem withoutL_len (t : List Grant21) (q : Grant21 → Bool) : (withoutL t q).length ≤ t.length := Nat.le_trans (List.length_filter_le _ _) (List.length_filter_le _ _)
theorem mem_withoutL {t : List Grant21} {q : Grant21 → Bool} {x : Grant21} : x ∈ withoutL t q ↔ Sup (t.filter (fun x => !q x)) x := by
  unfold withoutL
  rw [List.mem_filter, supB_iff]
  exact ⟨fun h => h.2, fun h => ⟨h.mem, h⟩⟩
theorem sup_closed {t : List Grant21} {x : Grant21} (h : Sup t x) : Sup (t.filter (supB t)) x := by
  induction h with
  | base hm hp => exact .base (List.mem_filter.2 ⟨hm, supB_iff.2 (.base hm hp)⟩) hp
  | step hm h2 h3 ih => exact .step (List.mem_filter.2 ⟨hm, supB_iff.2 (.step hm h2 h3)⟩) ih h3
theorem withoutL_valid {t : List Grant21} {q : Grant21 → Bool} (hv : validB t = true) : validB (withoutL t q) = true := by
  obtain ⟨v1, v2, v3, v4⟩ := valid_iff.1 hv
  have hsub : List.Sublist (withoutL t q) t := List.filter_sublist.trans List.filter_sublist
  rw [valid_iff]
  refine ⟨fun x hx => v1 x (hsub.subset hx), v2.sublist hsub, Nat.le_trans hsub.length_le v3, fun x hx => ?_⟩
  exact sup_closed (mem_withoutL.1 hx)
end Go.G
