import Derived.Test.YtiifmafolmmelaaP20h
set_option linter.unusedVariables false
set_option linter.unusedSimpArgs false
namespace Go.G
set_option maxRecDepth 100000
set_option maxHeartbeats 8000000
theorem atD_cons (y : Msg20) (r : List Msg20) (d : Int) : atD (y :: r) d = bif isD d y then 0 else atD r d + 1 := by
  unfold atD
  rw [List.findIdx_cons]
abbrev T24 := Unit × Unit × Unit × Unit × Int × Unit × Int × List Msg20 × MT × (List Msg20 × List Pair20 × Unit) × (Unit × Unit × Unit) × (List Msg20 × List Pair20 × Unit) × Unit
/-- The loop of the reference's Urgent. -/
theorem loop24 (fu : Nat) (q : List Msg20) (p : List Pair20) (x0 : Msg20) (Q' : List Msg20) (P' : List Pair20) (hf : q.length < fu) (hl : q.length < 1000000) :
    iter (t24_2 fu) fu ((), ((), ((), ((), ((q.length : Int), ((), ((isub .i64 (q.length : Int) 1), ([], (mT x0, ((Q', (P', ())), (((), ((), ())), ((q, (p, ())), ())))))))))))) =
      some (.inl ((), ((), ((), ((atD q x0.Dst : Int), ((), (q.map (bmp x0), (mT (wseq x0 (seqU x0 x0.Seq q)), ((Q', (P', ())), (((), ((), ())), ((q, (p, ())), ()))))))))))) := by
  have hsub : ∀ j : Nat, j ≤ q.length → isub .i64 (j : Int) 1 = (j : Int) - 1 := fun j hj => isub64 (by omega)
  have := iter_down (step := t24_2 fu) (fun j => ((), ((), ((), ((), (((j + atD (q.drop j) x0.Dst : Nat) : Int), ((), (((j : Int) - 1), ((q.drop j).map (bmp x0), (mT (wseq x0 (seqU x0 x0.Seq (q.drop j))), ((Q', (P', ())), (((), ((), ())), ((q, (p, ())), ())))))))))))))
    (.inl ((), ((), ((), ((atD q x0.Dst : Int), ((), (q.map (bmp x0), (mT (wseq x0 (seqU x0 x0.Seq q)), ((Q', (P', ())), (((), ((), ())), ((q, (p, ())), ()))))))))))) q.length fu hf
    (fun i hi => by
      obtain ⟨y, hy⟩ : ∃ y, q[i]? = some y := ⟨_, List.getElem?_eq_getElem hi⟩
      have ei : ((i + 1 : Nat) : Int) - 1 = (i : Int) := by omega
      have hdr : q.drop i = y :: q.drop (i + 1) := by
        rw [List.drop_eq_getElem_cons hi]
        rw [List.getElem?_eq_getElem hi] at hy
        cases hy
        rfl
      have hda : ∀ z : Msg20, dapp 88 [z] ((q.drop (i + 1)).map (bmp x0)) = some (z :: (q.drop (i + 1)).map (bmp x0)) := fun z => dapp_ok (by simp; omega) (by simp; omega)
      have hk1 : ((i + 1 + atD (q.drop (i + 1)) x0.Dst : Nat) : Int) = ((i + (atD (q.drop (i + 1)) x0.Dst + 1) : Nat) : Int) := by omega
      simp only [t24_2, ei, show ile 0 (i : Int) = true from ile_iff.2 (by omega), dat_nat, hy, hda, hsub i (by omega), msg_eta]
      rw [hdr]
      simp only [List.map_cons, seqU_cons, atD_cons, hk1]
      unfold bmp ofP isD wseq
      simp only
      cases h1 : ieq y.Src x0.Src <;> cases h2 : ieq y.Dst x0.Dst <;> rfl)
    (by simp only [t24_2, show ile 0 (((0 : Nat) : Int) - 1) = false from rfl, List.drop_zero, Nat.zero_add])
  simp only [List.drop_length, List.map_nil] at this
  rw [hsub _ (Nat.le_refl _)]
  exact this
theorem urgR20 (fu : Nat) (q : List Msg20) (p : List Pair20) (m : Msg20) (hf : p.length + 3 < fu) (hl : p.length < 100000000) (hqf : q.length < fu) (hql : q.length ≤ 9223372036854775807) (hmd : m.Data.length ≤ 2000) :
    s24 fu q p m.Src m.Dst m.Kind m.Seq m.Args_0 m.Args_1 m.Args_2 m.Args_3 m.Data = some (urgF q p m) := by
  unfold s24 urgF
  rw [sendR20 fu q p m hf hl hqf hql hmd]
  rcases sendF_cases q p m with ⟨c, hc, he⟩ | ⟨he, hv, hpm, hq4, hlast⟩
  · simp only [he, ieq_f.2 hc, cond_false]
  · have D2 : dat (q ++ [nmsg p m]) (dlen q) = some (nmsg p m) := by rw [dlen_def, dat_nat]; simp
    have hloop := loop24 fu q p (nmsg p m) (q ++ [nmsg p m]) (putS ltP (npr p m) p) hqf (by omega)
    have hat : atD q (nmsg p m).Dst ≤ q.length := List.findIdx_le_length
    rw [← dlen_def q] at hloop
    have E0 : ile 0 0 = true := rfl
    have E1 : ile 0 (atD q (nmsg p m).Dst : Int) = true := ile_iff.2 (by omega)
    have E2 : ile (atD q (nmsg p m).Dst : Int) (dlen (q.map (bmp (nmsg p m)))) = true := ile_iff.2 (by rw [dlen_def, List.length_map]; omega)
    have E3 : ile (dlen (q.map (bmp (nmsg p m)))) (dlen (q.map (bmp (nmsg p m)))) = true := ile_iff.2 (Int.le_refl _)
    have E4 : oadd 0 (osub (atD q (nmsg p m).Dst : Int) 0) = (atD q (nmsg p m).Dst : Int) := by unfold oadd osub; omega
    have E5 : oadd (atD q (nmsg p m).Dst : Int) (osub (dlen (q.map (bmp (nmsg p m)))) (atD q (nmsg p m).Dst : Int)) = (q.length : Int) := by unfold oadd osub; rw [dlen_def, List.length_map]; omega
    have E6 : dapp 88 [] (dcut (q.map (bmp (nmsg p m))) 0 (atD q (nmsg p m).Dst : Int)) = some ((q.map (bmp (nmsg p m))).take (atD q (nmsg p m).Dst)) := by
      unfold dcut
      rw [Int.toNat_natCast]
      exact dapp_nil (by simp; omega) (by simp; omega)
    have E7 : ∀ z : Msg20, dapp 88 ((q.map (bmp (nmsg p m))).take (atD q (nmsg p m).Dst)) [z] = some ((q.map (bmp (nmsg p m))).take (atD q (nmsg p m).Dst) ++ [z]) := fun z => dapp_ok (by simp; omega) (by simp; omega)
    have E8 : ∀ z : Msg20, dapp 88 ((q.map (bmp (nmsg p m))).take (atD q (nmsg p m).Dst) ++ [z]) (dcut (q.map (bmp (nmsg p m))) (atD q (nmsg p m).Dst : Int) (q.length : Int)) = some ((q.map (bmp (nmsg p m))).take (atD q (nmsg p m).Dst) ++ z :: (q.map (bmp (nmsg p m))).drop (atD q (nmsg p m).Dst)) := fun z => by
      unfold dcut
      have ht : (q.map (bmp (nmsg p m))).take q.length = q.map (bmp (nmsg p m)) := List.take_of_length_le (by simp)
      rw [Int.toNat_natCast, Int.toNat_natCast, ht]
      rw [dapp_ok (by simp; omega) (by simp; omega)]
      simp
    simp only [he, ieq_iff.2 rfl, D2, hloop, E0, E1, E2, E3, E4, E5, E6, E7, E8, cond_true]
    rfl
end Go.G
