import Derived.Test.YtiifmafolmmelaaP20d2
set_option linter.unusedVariables false
set_option linter.unusedSimpArgs false
namespace Go.G
set_option maxRecDepth 100000
set_option maxHeartbeats 4000000
abbrev MT := Int × Int × Int × Int × Int × Int × Int × Int × List Int × Unit
abbrev mT (m : Msg20) : MT := (m.Src, (m.Dst, (m.Kind, (m.Seq, (m.Args_0, (m.Args_1, (m.Args_2, (m.Args_3, (m.Data, ())))))))))
abbrev zM : Msg20 := ⟨0, 0, 0, 0, 0, 0, 0, 0, []⟩
def isD (d : Int) (m : Msg20) : Bool := ieq m.Dst d
def takeF (q : List Msg20) (p : List Pair20) (d : Int) : (List Msg20 × List Pair20 × Unit) × MT × Int × Unit :=
  bif !validB q p then (stT [] [], mT zM, 1, ()) else match q.find? (isD d) with
  | none => (stT [] [], mT zM, 8, ())
  | some m => (stT (q.eraseP (isD d)) p, mT m, 0, ())
theorem eraseP_at {α : Type} {q : α → Bool} : ∀ {l : List α} {i : Nat} {x : α}, l[i]? = some x → q x = true → (∀ j b, j < i → l[j]? = some b → q b = false) → l.eraseP q = l.take i ++ l.drop (i + 1)
  | [], i, x, h, _, _ => by simp at h
  | a :: l, 0, x, h, hq, _ => by
    simp at h
    subst h
    rw [List.eraseP_cons_of_pos hq]
    simp
  | a :: l, i + 1, x, h, hq, hb => by
    have ha := hb 0 a (by omega) rfl
    rw [List.eraseP_cons_of_neg (by simp [ha])]
    have := eraseP_at (l := l) (i := i) (by simpa using h) hq (fun j b hj hbj => hb (j + 1) b (by omega) (by simpa using hbj))
    rw [this]
    simp
theorem map12 : t12_20 = t11_4 := rfl
theorem map20 : t20_1 = t11_4 := rfl
theorem same24 : t20_24 = t20_13 := rfl
theorem take20 (fu : Nat) (q : List Msg20) (p : List Pair20) (d : Int) (hf : p.length + 3 < fu) (hl : p.length < 1000000000) (hqf : q.length < fu) (hql : q.length ≤ 9223372036854775807) : s12 fu q p d = some (takeF q p d) := by
  unfold s12 takeF
  rw [valid20 fu q p hf hl hqf hql]
  cases hv : validB q p with
  | false => rfl
  | true =>
    obtain ⟨⟨v1, v2⟩, v3, v4⟩ := valid_iff.1 hv
    simp only [Bool.not_true, cond_false]
    rcases iter_first (step := t12_1 fu) (fu := fu) q (fun j => (q, ((), ((dlen q), ((j : Int), ((d, ()), ())))))) (isD d) (fun j _ => .inr (.inl ((j : Int), ((d, ()), ())))) (.inl ((d, ()), ())) hqf
      (fun i x hi hq => by
        have h1 := getElem?_lt hi
        unfold isD at hq
        simp only [t12_1, dlen_def q, dat_nat, hi, ilt_len h1, hq, iadd1 (show i < 9223372036854775807 by omega)])
      (fun i x hi hq => by
        have h1 := getElem?_lt hi
        unfold isD at hq
        simp only [t12_1, dlen_def q, dat_nat, hi, ilt_len h1, hq])
      (by simp only [t12_1, dlen_def q, ilt_end]) with ⟨i, x, h1, h2, h3, h4⟩ | ⟨h1, h2⟩
    · rw [show ((0 : Nat) : Int) = 0 from rfl] at h4
      have hi := getElem?_lt h1
      have hmap := map11 fu q (data_le v3) hqf (by omega)
      rw [← map12] at hmap
      have hdp : dapp 24 [] p = some p := dapp_nil (by omega) (by omega)
      rw [find_of_first h1 h2 h3, eraseP_at h1 h2 h3]
      have dd := del_facts hi (by omega) zM
      rw [dlen_def q] at h4 hmap
      simp only [h4, show ilt (i : Int) 0 = false from ilt_f.2 (by omega), hmap, hdp, dat_nat, h1, dd.c1, dd.c2, dd.c3, dd.c4, dd.c5, dd.c6, dd.c7, dd.c8, dd.c9, dd.c10, dd.c11, dd.c12, dd.c13, dd.c14, dd.c15, dd.c16, dd.c17, dd.k1, dd.k2, dd.k3, dd.k4, dd.k5]
    · rw [show ((0 : Nat) : Int) = 0 from rfl] at h2
      have hnone : q.find? (isD d) = none := List.find?_eq_none.2 (fun x hx => by simp [h1 x hx])
      rw [h2, hnone]
      rfl
def firstF (q : List Msg20) (d : Int) : MT × Bool × Unit := match q.find? (isD d) with
  | none => (mT zM, false, ())
  | some m => (mT m, true, ())
theorem first20 (fu : Nat) (q : List Msg20) (p : List Pair20) (d : Int) (hd : ∀ m ∈ q, m.Data.length ≤ 1536) (hqf : q.length < fu) (hql : q.length ≤ 9223372036854775807) : s19 fu q p d = some (firstF q d) := by
  unfold s19 firstF
  rcases iter_first (step := t19_0 fu) (fu := fu) q (fun j => (q, ((), ((dlen q), ((j : Int), ((d, ()), ())))))) (isD d) (fun j _ => .inr (.inl ((j : Int), ((d, ()), ())))) (.inl ((d, ()), ())) hqf
    (fun i x hi hq => by
      have h1 := getElem?_lt hi
      unfold isD at hq
      simp only [t19_0, dlen_def q, dat_nat, hi, ilt_len h1, hq, iadd1 (show i < 9223372036854775807 by omega)])
    (fun i x hi hq => by
      have h1 := getElem?_lt hi
      unfold isD at hq
      simp only [t19_0, dlen_def q, dat_nat, hi, ilt_len h1, hq])
    (by simp only [t19_0, dlen_def q, ilt_end]) with ⟨i, x, h1, h2, h3, h4⟩ | ⟨h1, h2⟩
  · rw [show ((0 : Nat) : Int) = 0 from rfl] at h4
    rw [find_of_first h1 h2 h3]
    simp only [h4, show ilt (i : Int) 0 = false from ilt_f.2 (by omega), dat_nat, h1, clone1 (hd x (List.mem_of_getElem? h1))]
  · rw [show ((0 : Nat) : Int) = 0 from rfl] at h2
    have hnone : q.find? (isD d) = none := List.find?_eq_none.2 (fun x hx => by simp [h1 x hx])
    rw [h2, hnone]
    rfl
def dropF (q : List Msg20) (p : List Pair20) (d : Int) : (List Msg20 × List Pair20 × Unit) × Int × Unit := bif !validB q p then (stT [] [], 1, ()) else (stT (q.filter (fun m => !isD d m)) p, 0, ())
theorem msg_eta (x : Msg20) : (⟨x.Src, x.Dst, x.Kind, x.Seq, x.Args_0, x.Args_1, x.Args_2, x.Args_3, x.Data⟩ : Msg20) = x := rfl
theorem comp13 (fu : Nat) (l : List Msg20) (g : Int) (i : Nat) (x : Msg20) (hi : l[i]? = some x) (hq : isD g x = true) (hb : ∀ j b, j < i → l[j]? = some b → isD g b = false) (hf : l.length < fu) (hl : l.length < 1000000000) :
    ∃ (k : Nat) (c : List Msg20), k ≤ l.length ∧ c.length = l.length ∧ c.take k = l.filter (fun a => !isD g a) ∧
      iter (t20_13 fu) fu ((), ((), ((i : Int), (((i + 1 : Nat) : Int), ((g, ()), (l, ())))))) = some (.inl ((), ((k : Int), ((g, ()), (c, ()))))) :=
  iter_compact (step := t20_13 fu) (fu := fu) (isD g) l (fun k j c => ((), ((), ((k : Int), ((j : Int), ((g, ()), (c, ()))))))) (fun k c => .inl ((), ((k : Int), ((g, ()), (c, ()))))) i x hi hq hb
    (fun k j c y z hc hkj hz hy => by
      have h1 := getElem?_lt hy
      unfold isD
      simp only [t20_13, dlen_def, dat_nat, hy, hz, ilt_len h1, iadd1 (show j < 9223372036854775807 by omega), iadd1 (show k < 9223372036854775807 by omega), msg_eta, dset, Int.toNat_natCast]
      cases ieq y.Dst g <;> rfl)
    (fun k c hc => by rw [← hc]; simp only [t20_13, dlen_def, ilt_end]) hf
theorem drop20 (fu : Nat) (q : List Msg20) (p : List Pair20) (d : Int) (hf : p.length + 3 < fu) (hl : p.length < 1000000000) (hqf : q.length < fu) (hql : q.length ≤ 9223372036854775807) : s20 fu q p d = some (dropF q p d) := by
  unfold s20 dropF
  rw [valid20 fu q p hf hl hqf hql]
  cases hv : validB q p with
  | false => rfl
  | true =>
    obtain ⟨⟨v1, v2⟩, v3, v4⟩ := valid_iff.1 hv
    simp only [Bool.not_true, cond_false]
    have hmap := map11 fu q (data_le v3) hqf (by omega)
    rw [← map20] at hmap
    have hdp : dapp 24 [] p = some p := dapp_nil (by omega) (by omega)
    simp only [hmap, hdp]
    rcases iter_first (step := t20_8 fu) (fu := fu) q (fun j => ((), ((), ((dlen q), ((j : Int), ((d, ()), (q, ()))))))) (isD d) (fun i _ => .inr (.inl ((i : Int), ((d, ()), (q, ()))))) (.inl ((d, ()), (q, ()))) hqf
      (fun i x hi hq => by
        have h1 := getElem?_lt hi
        unfold isD at hq
        simp only [t20_8, dlen_def q, ilt_len h1, dat_nat, hi, hq, iadd1 (show i < 9223372036854775807 by omega)])
      (fun i x hi hq => by
        have h1 := getElem?_lt hi
        unfold isD at hq
        simp only [t20_8, dlen_def q, ilt_len h1, dat_nat, hi, hq])
      (by simp only [t20_8, dlen_def q, ilt_end]) with ⟨i, x, h1, h2, h3, h4⟩ | ⟨h1, h2⟩
    · rw [show ((0 : Nat) : Int) = 0 from rfl] at h4
      obtain ⟨k, c, q1, q2, q3, q4⟩ := comp13 fu q d i x h1 h2 h3 hqf (by omega)
      have hi' := getElem?_lt h1
      have dd := cut_facts (c := c) (k := k) (by omega) zM
      have hcut := dd.cut
      rw [dd.c7] at hcut
      simp only [h4, show ieq (i : Int) (-1) = false from ieq_f.2 (by omega), iadd1 (show i < 9223372036854775807 by omega), same24, q4, dd.c1, dd.c2, dd.c3, dd.c4, dd.c5, dd.put, dd.c6, dd.c7, hcut]
      rw [q3]
    · rw [show ((0 : Nat) : Int) = 0 from rfl] at h2
      have hfl : q.filter (fun m => !isD d m) = q := by
        rw [List.filter_eq_self]
        intro b hb
        simp [h1 b hb]
      simp only [h2, show ieq (-1) (-1) = true from rfl, hfl]
end Go.G
