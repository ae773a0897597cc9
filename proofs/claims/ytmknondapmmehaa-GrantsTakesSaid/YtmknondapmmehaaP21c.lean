import Derived.Test.YtmknondapmmehaaP21b
set_option linter.unusedVariables false
set_option linter.unusedSimpArgs false
namespace Go.G
set_option maxRecDepth 100000
set_option maxHeartbeats 2000000
theorem set_same {α : Type} {l : List α} {i : Nat} {a b : α} : (l.set i a).set i b = l.set i b := by simp
theorem zip_take_succ {t : List Grant21} {keep : List Bool} {k : Nat} {y : Grant21} {b : Bool} (h1 : t[k]? = some y) (h2 : keep[k]? = some b) (q : Grant21 × Bool → Bool) : ((t.zip keep).take (k + 1)).any q = (((t.zip keep).take k).any q || q (y, b)) := by
  rw [List.take_add_one, show (t.zip keep)[k]? = some (y, b) from List.getElem?_zip_eq_some.2 ⟨h1, h2⟩, List.any_append]
  simp
theorem in34 (fu : Nat) (t : List Grant21) (keep : List Bool) (i : Nat) (x : Grant21) (ch : Bool) (t' : List Grant21) (n' : Int) (hx : t[i]? = some x) (hk : keep[i]? = some false) (hlen : keep.length = t.length) (hr : ∀ y ∈ t, rg y.Rights) (hf : t.length < fu) (hl : t.length < 1000000000) :
    iter (t34_8 fu) fu (t, ((), (ch, ((i : Int), ((), (t', (n', ((i : Int), (t, ((dlen t), (0, ((x.Owner, (x.Grantee, (x.Frame, (x.Rights, ())))), ((dset keep (i : Int) (ieq x.Owner 4)), ()))))))))))))) =
      some (.inl (t, ((), (ch, ((i : Int), (t', (n', ((i : Int), ((x.Owner, (x.Grantee, (x.Frame, (x.Rights, ())))), (keep.set i (isP x || anyK t keep x), ())))))))))) := by
  have hi := getElem?_lt hx
  obtain ⟨acc, hacc, hit⟩ := iter_inv (step := t34_8 fu) (fu := fu) t (fun k (acc : Bool) => (t, ((), (ch, ((i : Int), ((), (t', (n', ((i : Int), (t, ((dlen t), ((k : Int), ((x.Owner, (x.Grantee, (x.Frame, (x.Rights, ())))), (keep.set i acc, ()))))))))))))))
    (fun k y acc => acc || (keep.getD k false && sup1 y x)) (fun k acc => acc = (isP x || ((t.zip keep).take k).any (fun p => p.2 && sup1 p.1 x)))
    (fun acc => .inl (t, ((), (ch, ((i : Int), (t', (n', ((i : Int), ((x.Owner, (x.Grantee, (x.Frame, (x.Rights, ())))), (keep.set i acc, ())))))))))) (isP x) hf (by simp)
    (fun k y acc hy hI => by
      have h1 := getElem?_lt hy
      have hkk : keep[k]? = some (keep.getD k false) := by rw [List.getD_eq_getElem?_getD, List.getElem?_eq_getElem (by omega)]; rfl
      have hsi : ∀ b, (keep.set i b)[i]? = some b := fun b => List.getElem?_set_self (by omega)
      refine ⟨?_, ?_⟩
      · have hinc := inc21 fu (a := y.Rights) (b := x.Rights) (hr y (List.mem_of_getElem? hy))
        cases acc with
        | true =>
          simp only [t34_8, dlen_def, ilt_len h1, dat_nat, hy, hsi, dset, Int.toNat_natCast, set_same, iadd1 (show k < 9223372036854775807 by omega), Bool.true_or]
        | false =>
          by_cases e : k = i
          · subst e
            rw [hk] at hkk
            have : keep.getD k false = false := by simpa using hkk.symm
            simp only [t34_8, dlen_def, ilt_len h1, dat_nat, hy, hsi, dset, Int.toNat_natCast, set_same, iadd1 (show k < 9223372036854775807 by omega), this, Bool.false_and, Bool.or_false]
          · have hne : (keep.set i false)[k]? = some (keep.getD k false) := by rw [List.getElem?_set_ne (Ne.symm e)]; exact hkk
            simp only [t34_8, dlen_def, ilt_len h1, dat_nat, hy, hsi, hne, dset, Int.toNat_natCast, set_same, iadd1 (show k < 9223372036854775807 by omega), hinc, sup1, Bool.false_or]
            cases keep.getD k false <;> cases ieq y.Frame x.Frame <;> cases ieq y.Grantee x.Owner <;> simp
      · rw [zip_take_succ hy hkk, hI, Bool.or_assoc])
    (fun acc _ => by simp only [t34_8, dlen_def, ilt_end])
  rw [List.take_of_length_le (by rw [List.length_zip]; omega)] at hacc
  have e1 : dset keep (i : Int) (ieq x.Owner 4) = keep.set i (isP x) := by simp [dset, isP]
  rw [e1]
  rw [show ((0 : Nat) : Int) = 0 from rfl] at hit
  rw [hit, hacc]
  rfl
theorem pass34 (fu : Nat) (t : List Grant21) (keep : List Bool) (hlen : keep.length = t.length) (hr : ∀ y ∈ t, rg y.Rights) (hf : t.length < fu) (hl : t.length < 1000000000) :
    iter (t34_2 fu) fu (t, ((), (false, (t, ((dlen t), (0, (keep, ()))))))) = some (.inl (t, ((), ((passTo t keep t.length).2, ((passTo t keep t.length).1, ()))))) := by
  obtain ⟨s, hs, hit⟩ := iter_inv (step := t34_2 fu) (fu := fu) t (fun i (s : List Bool × Bool) => (t, ((), (s.2, (t, ((dlen t), ((i : Int), (s.1, ()))))))))
    (fun i _ s => passStep t i s) (fun i s => s = passTo t keep i) (fun s => .inl (t, ((), (s.2, (s.1, ()))))) (keep, false) hf rfl
    (fun i x s hx hI => by
      have h1 := getElem?_lt hx
      have hsl : s.1.length = t.length := by rw [hI, passTo_len, hlen]
      refine ⟨?_, by rw [hI, passTo_succ]⟩
      obtain ⟨kp, ch⟩ := s
      simp only at hsl
      have hk : kp[i]? = some kp[i] := List.getElem?_eq_getElem (by omega)
      unfold passStep
      cases hb : kp[i] with
      | true =>
        rw [hb] at hk
        simp only [t34_2, dlen_def, ilt_len h1, dat_nat, hx, hk, iadd1 (show i < 9223372036854775807 by omega)]
      | false =>
        rw [hb] at hk
        have hin := in34 fu t kp i x ch t (dlen t) hx hk hsl hr hf hl
        rw [dlen_def] at hin
        have hsi : ∀ b, (kp.set i b)[i]? = some b := fun b => List.getElem?_set_self (by omega)
        simp only [t34_2, dlen_def, ilt_len h1, dat_nat, hx, hk, iadd1 (show i < 9223372036854775807 by omega), hin, hsi]
        cases ch <;> simp)
    (fun s _ => by simp only [t34_2, dlen_def, ilt_end])
  rw [show ((0 : Nat) : Int) = 0 from rfl] at hit
  rw [hit, hs]
open Classical in
noncomputable def supB (t : List Grant21) (x : Grant21) : Bool := decide (Sup t x)
theorem supB_iff {t : List Grant21} {x : Grant21} : supB t x = true ↔ Sup t x := by simp [supB]
theorem isSup_eq {t : List Grant21} {keep : List Bool} (h : IsSup t keep) : keep = t.map (supB t) := by
  obtain ⟨h1, h2⟩ := h
  apply List.ext_getElem (by simp [h1])
  intro i q1 q2
  rw [List.getElem_map]
  have hx : t[i]? = some t[i] := List.getElem?_eq_getElem (by omega)
  have := h2 i _ hx
  rw [List.getElem?_eq_getElem q1, Option.some.injEq, ← supB_iff] at this
  rw [Bool.eq_iff_iff]
  exact this
theorem sup34 (fu : Nat) (t : List Grant21) (hr : ∀ y ∈ t, rg y.Rights) (hf : 2 * t.length + 1 < fu) (hl : t.length < 1000000000) : s34 fu t = some (t.map (supB t), ()) := by
  unfold s34
  have hmk : dmk 1 (dlen t) false = some (List.replicate t.length false) := by
    unfold dmk
    rw [dlen_def, if_pos ⟨by omega, by simp; omega⟩, Int.toNat_natCast]
  rw [hmk]
  obtain ⟨keep, h1, h2⟩ := passes (step := t34_1 fu) (t := t) (fun b keep => (t, ((), (b, (keep, ()))))) (fun keep => .inl ((), (keep, ()))) fu hf
    (fun keep hk => by simp only [t34_1, pass34 fu t keep hk hr (by omega) hl])
    (fun keep hk => by simp only [t34_1])
  simp only [h1]
  rw [isSup_eq h2]
theorem in39 (fu : Nat) (t : List Grant21) (keep : List Bool) (i : Nat) (x : Grant21) (ch : Bool) (hx : t[i]? = some x) (hlen : keep.length = t.length) (hf : t.length < fu) (hl : t.length < 1000000000) :
    iter (t39_4 fu) fu (t, ((), (ch, ((i : Int), ((ieq x.Owner 4), (0, (keep, ()))))))) = some (.inl (t, ((), (ch, ((i : Int), ((isP x || anyK t keep x), (keep, ()))))))) := by
  obtain ⟨acc, hacc, hit⟩ := iter_inv (step := t39_4 fu) (fu := fu) t (fun k (acc : Bool) => (t, ((), (ch, ((i : Int), (acc, ((k : Int), (keep, ()))))))))
    (fun k y acc => acc || (keep.getD k false && sup1 y x)) (fun k acc => acc = (isP x || ((t.zip keep).take k).any (fun p => p.2 && sup1 p.1 x)))
    (fun acc => .inl (t, ((), (ch, ((i : Int), (acc, (keep, ()))))))) (isP x) hf (by simp)
    (fun k y acc hy hI => by
      have h1 := getElem?_lt hy
      have hkk : keep[k]? = some (keep.getD k false) := by rw [List.getD_eq_getElem?_getD, List.getElem?_eq_getElem (by omega)]; rfl
      refine ⟨?_, by rw [zip_take_succ hy hkk, hI, Bool.or_assoc]⟩
      simp only [t39_4, dlen_def, ilt_len h1, dat_nat, hy, hx, hkk, iadd1 (show k < 9223372036854775807 by omega), incR21, sup1]
      cases acc <;> cases keep.getD k false <;> cases ieq y.Frame x.Frame <;> cases ieq y.Grantee x.Owner <;> simp)
    (fun acc _ => by simp only [t39_4, dlen_def, ilt_end])
  rw [List.take_of_length_le (by rw [List.length_zip]; omega)] at hacc
  rw [show ((0 : Nat) : Int) = 0 from rfl] at hit
  have e1 : ieq x.Owner 4 = isP x := rfl
  rw [e1, hit, hacc]
  rfl
theorem pass39 (fu : Nat) (t : List Grant21) (keep : List Bool) (hlen : keep.length = t.length) (hf : t.length < fu) (hl : t.length < 1000000000) :
    iter (t39_2 fu) fu (t, ((), (false, (0, (keep, ()))))) = some (.inl (t, ((), ((passTo t keep t.length).2, ((passTo t keep t.length).1, ()))))) := by
  obtain ⟨s, hs, hit⟩ := iter_inv (step := t39_2 fu) (fu := fu) t (fun i (s : List Bool × Bool) => (t, ((), (s.2, ((i : Int), (s.1, ()))))))
    (fun i _ s => passStep t i s) (fun i s => s = passTo t keep i) (fun s => .inl (t, ((), (s.2, (s.1, ()))))) (keep, false) hf rfl
    (fun i x s hx hI => by
      have h1 := getElem?_lt hx
      have hsl : s.1.length = t.length := by rw [hI, passTo_len, hlen]
      refine ⟨?_, by rw [hI, passTo_succ]⟩
      obtain ⟨kp, ch⟩ := s
      simp only at hsl
      have hk : kp[i]? = some kp[i] := List.getElem?_eq_getElem (by omega)
      have hin := in39 fu t kp i x ch hx hsl hf hl
      unfold passStep
      cases hb : kp[i] with
      | true =>
        rw [hb] at hk
        simp only [t39_2, dlen_def, ilt_len h1, dat_nat, hx, hin, hk, iadd1 (show i < 9223372036854775807 by omega)]
        cases (isP x || anyK t kp x) <;> rfl
      | false =>
        rw [hb] at hk
        have hset : kp.set i false = kp := by
          apply List.ext_getElem?
          intro j
          by_cases e : i = j
          · subst e; rw [List.getElem?_set_self (getElem?_lt hk), hk]
          · rw [List.getElem?_set_ne e]
        simp only [t39_2, dlen_def, ilt_len h1, dat_nat, hx, hin, hk, iadd1 (show i < 9223372036854775807 by omega)]
        cases (isP x || anyK t kp x) <;> simp [hset, dset])
    (fun s _ => by simp only [t39_2, dlen_def, ilt_end])
  rw [show ((0 : Nat) : Int) = 0 from rfl] at hit
  rw [hit, hs]
theorem filt39 (fu : Nat) (t : List Grant21) (q : Grant21 → Bool) (hf : t.length < fu) (hl : t.length < 1000000000) :
    iter (t39_26 fu) fu (t, ((), ((), (0, ([], (t.map q, ())))))) = some (.inl ((), (t.filter q, (t.map q, ())))) := by
  have := iter_fold (step := t39_26 fu) (fu := fu) t (fun j acc => (t, ((), ((), ((j : Int), (acc, (t.map q, ())))))))
    (fun x acc => if q x then acc ++ [x] else acc) (fun i acc => acc.length ≤ i) (fun acc => .inl ((), (acc, (t.map q, ())))) [] hf (Nat.le_refl _)
    (fun i x acc hi hI => by
      have h1 := getElem?_lt hi
      have hda : dapp 32 acc [(⟨x.Owner, x.Grantee, x.Frame, x.Rights⟩ : Grant21)] = some (acc ++ [x]) := dapp_ok (by simp; omega) (by simp; omega)
      have hm : (t.map q)[i]? = some (q x) := by rw [List.getElem?_map, hi]; rfl
      simp only [t39_26, dlen_def, dat_nat, hi, hm, ilt_len h1, iadd1 (show i < 9223372036854775807 by omega), hda]
      cases q x <;> simp <;> omega)
    (fun acc hI => by simp only [t39_26, dlen_def, ilt_end])
  rw [show ((0 : Nat) : Int) = 0 from rfl] at this
  rw [this]
  have hff := foldl_filter_snoc q t []
  simp only [hff, List.nil_append]
theorem sup39 (fu : Nat) (t : List Grant21) (hf : 2 * t.length + 1 < fu) (hl : t.length < 1000000000) : s39 fu t = some (t.filter (supB t), ()) := by
  unfold s39
  have hmk : dmk 1 (dlen t) false = some (List.replicate t.length false) := by
    unfold dmk
    rw [dlen_def, if_pos ⟨by omega, by simp; omega⟩, Int.toNat_natCast]
  rw [hmk]
  obtain ⟨keep, h1, h2⟩ := passes (step := t39_1 fu) (t := t) (fun b keep => (t, ((), (b, (keep, ()))))) (fun keep => .inl (t, ((), (keep, ())))) fu hf
    (fun keep hk => by simp only [t39_1, pass39 fu t keep hk (by omega) hl])
    (fun keep hk => by simp only [t39_1])
  simp only [h1]
  rw [isSup_eq h2, filt39 fu t (supB t) (by omega) hl]
end Go.G
