import Derived.Test.YtmknondapmmehaaLaw21GrantsRevoke
set_option linter.unusedVariables false
set_option linter.unusedSimpArgs false
namespace Go.G
set_option maxRecDepth 100000
theorem ior_comm (a b : Int) : ior .i64 a b = ior .i64 b a := by
  unfold ior
  rw [BitVec.or_comm]
theorem incB_self {a : Int} (h : rg a) : incB a a = true := by
  unfold incB
  rw [ieq_iff]
  have e2 : ior .i64 a a = (BitVec.ofInt 64 a ||| BitVec.ofInt 64 a).toInt := wrap_toNat _
  rw [e2, BitVec.or_self, toInt_ofInt h]
theorem withoutL_put {t : List Grant21} {x : Grant21} (hv : validB t = true) (hn : t.any (fun a => same ltG a x) = false) : withoutL (putS ltG x t) (kyG x.Grantee x.Frame) = t := by
  have e : (putS ltG x t).filter (fun a => !kyG x.Grantee x.Frame a) = t := by
    have h1 : (fun a => !kyG x.Grantee x.Frame a) = (fun a => !same ltG a x) := by funext a; rw [ky_same]
    rw [h1]
    show noS ltG x (putS ltG x t) = t
    rw [noS_putS ordG, noS_none hn]
  unfold withoutL
  rw [e, List.filter_eq_self]
  intro y hy
  rw [supB_iff]
  exact (valid_iff.1 hv).2.2.2 y hy
theorem has_put_other {t : List Grant21} {x : Grant21} {g f r : Int} (hn : t.any (fun a => same ltG a x) = false) (h : ¬ (g = x.Grantee ∧ f = x.Frame)) : hasB (putS ltG x t) g f r = hasB t g f r := by
  rw [Bool.eq_iff_iff, hasB_iff, hasB_iff]
  constructor
  · rintro ⟨h0, y, hy, h1, h2, h3⟩
    rcases mem_putS.1 hy with rfl | hy
    · exact absurd ⟨h1.symm, h2.symm⟩ h
    · exact ⟨h0, y, hy.1, h1, h2, h3⟩
  · rintro ⟨h0, y, hy, h1, h2, h3⟩
    exact ⟨h0, y, put_sub hn y hy, h1, h2, h3⟩
theorem has_put_same {t : List Grant21} {x : Grant21} {r : Int} : hasB (putS ltG x t) x.Grantee x.Frame r = (rightB r && incB x.Rights r) := by
  rw [Bool.eq_iff_iff, hasB_iff, Bool.and_eq_true]
  unfold rightB
  rw [Bool.and_eq_true, ile_iff, ile_iff]
  constructor
  · rintro ⟨h0, y, hy, h1, h2, h3⟩
    rcases mem_putS.1 hy with rfl | hy
    · exact ⟨h0, h3⟩
    · have := hy.2
      rw [same_key, h1, h2, ieq_iff.2 rfl, ieq_iff.2 rfl] at this
      cases this
  · rintro ⟨h0, h3⟩
    exact ⟨h0, x, mem_putS.2 (.inl rfl), rfl, rfl, h3⟩
theorem law4_at (fu : Nat) (hf : 1000 < fu) (ha : s11 fu = some (true, ())) (t : List Grant21) (x : Grant21) (g f r : Int) : s4 fu t x.Owner x.Grantee x.Frame x.Rights g f r = some (true, ()) := by
  unfold s4
  rw [ha]
  simp only
  cases h : ilt 60 (dlen t) with
  | true => rfl
  | false =>
    rw [ilt_f, dlen_def] at h
    have hlen := giveF_len t x
    simp only [to21 fu t (show t.length < fu by omega) (by omega), give21 fu t x (by omega) (by omega)]
    rcases giveF_cases t x with ⟨c, hc, he⟩ | ⟨he, hv, hp, hn, hh, hl⟩
    · simp only [he, ieq_f.2 hc]
      rfl
    · rw [he] at hlen ⊢
      simp only at hlen
      have hva := putG_valid hv hp hn hh hl
      have hkk : (putS ltG x t).any (kyG x.Grantee x.Frame) = true := List.any_eq_true.2 ⟨x, mem_putS.2 (.inl rfl), by unfold kyG; rw [ieq_iff.2 rfl, ieq_iff.2 rfl]; rfl⟩
      have hrev : revF (putS ltG x t) x.Grantee x.Frame = (t, 0, ()) := by
        unfold revF
        rw [hva, hkk, withoutL_put hv hn]
        rfl
      have hrt : ∀ y ∈ t, rg y.Rights := fun y hy => prop_rg ((valid_iff.1 hv).1 y hy)
      have hra : ∀ y ∈ putS ltG x t, rg y.Rights := put_rg (valid_iff.1 hv).1 hp
      have hown : hasB (putS ltG x t) x.Grantee x.Frame x.Rights = true := by
        have := propB_iff.1 hp
        rw [has_put_same, incB_self (prop_rg hp), Bool.and_true]
        unfold rightB
        rw [Bool.and_eq_true, ile_iff, ile_iff]
        omega
      have hP : ieq x.Owner 4 = isP x := rfl
      simp only [ieq_iff.2 rfl, revoke21 fu (putS ltG x t) x.Grantee x.Frame (by omega) (by omega), hrev, from21 fu t (show t.length < fu by omega) (by omega), same21 fu t t (by omega) (by omega), decide_true,
        has21 fu (putS ltG x t) x.Grantee x.Frame x.Rights hra (by omega) (by omega), hown, hP, has21 fu (putS ltG x t) g f r hra (by omega) (by omega), to21 fu t (show t.length < fu by omega) (by omega), has21 fu t g f r hrt (by omega) (by omega), has21 fu t x.Owner x.Frame x.Rights hrt (by omega) (by omega)]
      have hb : ∀ b : Bool, beqb b b = true := fun b => by cases b <;> rfl
      have tail1 : ieq g x.Grantee = false → hasB (putS ltG x t) g f r = hasB t g f r := fun h1 => has_put_other hn (fun h2 => (ieq_f.1 h1) h2.1)
      have tail2 : ieq f x.Frame = false → hasB (putS ltG x t) g f r = hasB t g f r := fun h1 => has_put_other hn (fun h2 => (ieq_f.1 h1) h2.2)
      have tail3 : ieq g x.Grantee = true → ieq f x.Frame = true → hasB (putS ltG x t) g f r = (rightB r && ieq (ior .i64 r x.Rights) x.Rights) := fun h1 h2 => by
        rw [ieq_iff.1 h1, ieq_iff.1 h2, has_put_same]
        unfold incB
        rw [ior_comm]
      cases e1 : ieq g x.Grantee with
      | false =>
        rw [tail1 e1]
        cases hi : isP x with
        | true => simp only [hb]
        | false =>
          rw [hi, Bool.false_or] at hh
          simp only [hh, hb]
      | true =>
        cases e2 : ieq f x.Frame with
        | false =>
          rw [tail2 e2]
          cases hi : isP x with
          | true => simp only [hb]
          | false =>
            rw [hi, Bool.false_or] at hh
            simp only [hh, hb]
        | true =>
          rw [tail3 e1 e2]
          unfold rightB
          cases hi : isP x with
          | true => cases ile 1 r <;> cases ile r 3 <;> simp [hb]
          | false =>
            rw [hi, Bool.false_or] at hh
            simp only [hh]
            cases ile 1 r <;> cases ile r 3 <;> simp [hb]
/-- GrantsRights is true. -/
theorem law4 (a0 : List Grant21) (a1_Owner : Int) (a1_Grantee : Int) (a1_Frame : Int) (a1_Rights : Int) (a2_Task : Int) (a2_Frame : Int) (a2_Rights : Int) (_ : WfA A4 (a0, (a1_Owner, a1_Grantee, a1_Frame, a1_Rights, ()), (a2_Task, a2_Frame, a2_Rights, ()), ())) : s4 FU a0 a1_Owner a1_Grantee a1_Frame a1_Rights a2_Task a2_Frame a2_Rights = some (true, ()) := law4_at FU (by decide) aw21 a0 ⟨a1_Owner, a1_Grantee, a1_Frame, a1_Rights⟩ _ _ _
end Go.G
