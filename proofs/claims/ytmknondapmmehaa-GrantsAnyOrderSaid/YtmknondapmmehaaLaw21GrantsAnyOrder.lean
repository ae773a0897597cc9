import Derived.Test.YtmknondapmmehaaLaw21GrantsRights
set_option linter.unusedVariables false
set_option linter.unusedSimpArgs false
namespace Go.G
set_option maxRecDepth 100000
theorem any_put {t : List Grant21} {x y : Grant21} (hn : t.any (fun a => same ltG a y) = false) (hne : x.Frame ≠ y.Frame) : (putS ltG x t).any (fun a => same ltG a y) = false := by
  rw [List.any_eq_false] at hn ⊢
  intro a ha
  rcases mem_putS.1 ha with rfl | ha
  · rw [same_key, Bool.and_eq_true, ieq_iff, ieq_iff]
    exact fun h => hne h.2
  · exact hn a ha.1
theorem giveF_put {t : List Grant21} {x y : Grant21} (hne : x.Frame ≠ y.Frame) (hl : t.length ≤ 60) (hva : validB (putS ltG x t) = true) (hnx : t.any (fun a => same ltG a x) = false) (hp : propB y = true) (hn : t.any (fun a => same ltG a y) = false) (hh : (isP y || hasB t y.Owner y.Frame y.Rights) = true) :
    giveF (putS ltG x t) y = (putS ltG y (putS ltG x t), 0, ()) := by
  unfold giveF
  have hpl : (putS ltG x t).length = t.length + 1 := by rw [putS_len, noS_none hnx]
  rw [hva, hp, any_put hn hne, has_put_other hnx (fun h => hne h.2.symm), hh, show ile 200 (dlen (putS ltG x t)) = false from ile_f.2 (by rw [dlen_def, hpl]; omega)]
  rfl
theorem put_comm {t : List Grant21} {x y : Grant21} (hs : Srt ltG t) (hne : x.Frame ≠ y.Frame) : putS ltG y (putS ltG x t) = putS ltG x (putS ltG y t) := by
  apply srt_ext ordG _ _ (srt_putS ordG (srt_putS ordG hs x) y) (srt_putS ordG (srt_putS ordG hs y) x)
  have hxy : same ltG x y = false := by rw [same_key]; simp [ieq, hne]
  have hyx : same ltG y x = false := by rw [same_key]; simp [ieq, Ne.symm hne]
  intro a
  rw [mem_putS, mem_putS, mem_putS, mem_putS]
  constructor
  · rintro (rfl | ⟨rfl | ⟨h1, h2⟩, h3⟩)
    · exact .inr ⟨.inl rfl, hyx⟩
    · exact .inl rfl
    · exact .inr ⟨.inr ⟨h1, h3⟩, h2⟩
  · rintro (rfl | ⟨rfl | ⟨h1, h2⟩, h3⟩)
    · exact .inr ⟨.inl rfl, hxy⟩
    · exact .inl rfl
    · exact .inr ⟨.inr ⟨h1, h3⟩, h2⟩
theorem law6_at (fu : Nat) (hf : 1000 < fu) (ha : s11 fu = some (true, ())) (t : List Grant21) (x y : Grant21) : s6 fu t x.Owner x.Grantee x.Frame x.Rights y.Owner y.Grantee y.Frame y.Rights = some (true, ()) := by
  unfold s6
  rw [ha]
  simp only
  cases h : ilt 60 (dlen t) with
  | true => rfl
  | false =>
    rw [ilt_f, dlen_def] at h
    simp only
    rw [validR21 fu t (by omega) (by omega)]
    cases hv : validB t with
    | false => rfl
    | true =>
      cases hfr : ieq x.Frame y.Frame with
      | true => rfl
      | false =>
        rw [ieq_f] at hfr
        simp only [to21 fu t (show t.length < fu by omega) (by omega), give21 fu t x (by omega) (by omega), give21 fu t y (by omega) (by omega)]
        rcases giveF_cases t x with ⟨c, hc, he⟩ | ⟨he, _, hp, hn, hh, hl⟩
        · rcases giveF_cases t y with ⟨c', hc', he'⟩ | ⟨he', _, hp', hn', hh', hl'⟩
          · simp only [he, he', ieq_f.2 hc, ieq_f.2 hc']
            rfl
          · simp only [he, he', ieq_f.2 hc, ieq_iff.2 rfl]
            rfl
        · rcases giveF_cases t y with ⟨c', hc', he'⟩ | ⟨he', _, hp', hn', hh', hl'⟩
          · simp only [he, he', ieq_f.2 hc', ieq_iff.2 rfl]
            rfl
          · have hva := putG_valid hv hp hn hh hl
            have hvb := putG_valid hv hp' hn' hh' hl'
            have l1 : (putS ltG x t).length = t.length + 1 := by rw [putS_len, noS_none hn]
            have l2 : (putS ltG y t).length = t.length + 1 := by rw [putS_len, noS_none hn']
            have g1 := giveF_put hfr (by omega) hva hn hp' hn' hh'
            have g2 := giveF_put (Ne.symm hfr) (by omega) hvb hn' hp hn hh
            have hc := put_comm (valid_iff.1 hv).2.1 hfr
            have l3 : (putS ltG y (putS ltG x t)).length ≤ t.length + 2 := by rw [putS_len]; have := noS_len (lt := ltG) (l := putS ltG x t) (x := y); omega
            rw [← hc] at g2
            simp only [he, he', ieq_iff.2 rfl, give21 fu (putS ltG x t) y (by omega) (by omega), give21 fu (putS ltG y t) x (by omega) (by omega), g1, g2, from21 fu (putS ltG y (putS ltG x t)) (by omega) (by omega), same21 fu (putS ltG y (putS ltG x t)) (putS ltG y (putS ltG x t)) (by omega) (by omega), decide_true]
/-- GrantsAnyOrder is true. -/
theorem law6 (a0 : List Grant21) (a1_Owner : Int) (a1_Grantee : Int) (a1_Frame : Int) (a1_Rights : Int) (a2_Owner : Int) (a2_Grantee : Int) (a2_Frame : Int) (a2_Rights : Int) (_ : WfA A6 (a0, (a1_Owner, a1_Grantee, a1_Frame, a1_Rights, ()), (a2_Owner, a2_Grantee, a2_Frame, a2_Rights, ()), ())) : s6 FU a0 a1_Owner a1_Grantee a1_Frame a1_Rights a2_Owner a2_Grantee a2_Frame a2_Rights = some (true, ()) := law6_at FU (by decide) aw21 a0 ⟨a1_Owner, a1_Grantee, a1_Frame, a1_Rights⟩ ⟨a2_Owner, a2_Grantee, a2_Frame, a2_Rights⟩
end Go.G
