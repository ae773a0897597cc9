import Derived.Test.YtjmhaeegcaapeaaP12p
set_option linter.unusedVariables false
set_option linter.unusedSimpArgs false
namespace Go.G
set_option maxRecDepth 100000
def tkE (o : Bool) (t lt xt : Int) : Int := if o = true then (if xt < t then 19 else if t < xt then 12 else 0) else if xt < lt then 19 else 0
def tkC (o : Bool) (t op pl : Int) (d : List Int) (lt xt xop xpl : Int) (xd : List Int) : Bool × Int × Int × Int × List Int := if o = true then (o, t, op, pl, d) else if xt = lt then (true, xt, 0, 0, []) else (true, xt, xop, xpl, xd)
abbrev tu0 := tu [] 0 0 0 [] [] false 0 0 0 [] 0 0 [] false 0 0 0 [] 0 0 []
abbrev tv0 := tv [] 0 0 0 [] [] false 0 0 0 [] 0 0 0 [] false 0 0 0 [] 0 0 0 []
theorem s57_eq (fu : Nat) (o : Bool) (t op pl : Int) (d : List Int) (lt la : Int) (ld : List Int) (xt xop xpl : Int) (xd : List Int) (hd : xd.length ≤ 1000) : s57 fu o t op pl d 0 lt la ld xt xop xpl xd = some (if tkE o t lt xt = 0 then (((tkC o t op pl d lt xt xop xpl xd).1, (tkC o t op pl d lt xt xop xpl xd).2.1, (tkC o t op pl d lt xt xop xpl xd).2.2.1, (tkC o t op pl d lt xt xop xpl xd).2.2.2.1, (tkC o t op pl d lt xt xop xpl xd).2.2.2.2, 0, lt, la, ld, ()), (0, ())) else ((false, 0, 0, 0, [], 0, 0, 0, [], ()), (tkE o t lt xt, ()))) := by
  have e := clone12 (bytes := 1) (by omega) hd
  unfold s57 s73 tkE tkC
  simp only [e, ilt_d, ieq_d]
  cases o with
  | false =>
    by_cases h1 : xt < lt
    · simp [h1]
    · by_cases h2 : xt = lt
      · simp [h2]
      · simp [h1, h2]
  | true =>
    by_cases h1 : xt < t
    · simp [h1]
    · by_cases h2 : t < xt
      · simp [h1, h2]
      · simp [h1, h2]
section
variable {fu : Nat} {P : List Int} {now sent first : Int} {fl : List Flight12} {wt : List (List Int)} {oo : Bool} {ot oop opl : Int} {od : List Int} {olt ola : Int} {old : List Int} {io : Bool} {it iop ipl : Int} {id : List Int} {jlt jla : Int} {jld : List Int} {xt xop xpl : Int} {xd : List Int}
theorem do_bad_p (hf : 1000000 < fu) (hv : validB P now sent first fl wt oo ot oop opl od olt io it iop ipl id jlt = false) : s26 fu P now sent first fl wt oo ot oop opl od olt ola old io it iop ipl id jlt jla jld xt xop xpl xd = some (tu0, (1, ())) := by
  unfold s26
  simp only [valid_p hf, hv]
theorem do_bad_r (hf : 1000000 < fu) (ho : od.length ≤ 1000000) (hi : id.length ≤ 1000000) (hv : validB P now sent first fl wt oo ot oop opl od olt io it iop ipl id jlt = false) : s30 fu P now sent first fl wt oo ot oop opl od 0 olt ola old io it iop ipl id 0 jlt jla jld xt xop xpl xd = some (tv0, (1, ())) := by
  unfold s30
  simp only [valid_r hf ho hi, hv]
theorem do_range_p (hf : 1000000 < fu) (hv : validB P now sent first fl wt oo ot oop opl od olt io it iop ipl id jlt = true) (hx : ¬ (xop = 0 ∨ xop = 1) ∨ ((xop = 0 ∨ xop = 1) ∧ prB xt xop = false)) : s26 fu P now sent first fl wt oo ot oop opl od olt ola old io it iop ipl id jlt jla jld xt xop xpl xd = some (tu0, (2, ())) := by
  unfold s26
  rcases hx with hx | ⟨hx, hp⟩
  · have h0 : ieq xop 0 = false := ieq_f.2 (fun h => hx (.inl h))
    have h1 : ieq xop 1 = false := ieq_f.2 (fun h => hx (.inr h))
    simp only [valid_p hf, hv, h0, h1]
  · rcases hx with rfl | rfl
    · simp only [valid_p hf, hv, s52_eq fu _ (.inl rfl), hp, show ieq 0 0 = true from rfl]
    · simp only [valid_p hf, hv, s52_eq fu _ (.inr rfl), hp, show ieq 1 0 = false from rfl, show ieq 1 1 = true from rfl]
theorem do_range_r (hf : 1000000 < fu) (ho : od.length ≤ 1000000) (hi : id.length ≤ 1000000) (hv : validB P now sent first fl wt oo ot oop opl od olt io it iop ipl id jlt = true) (hx : ¬ (xop = 0 ∨ xop = 1) ∨ ((xop = 0 ∨ xop = 1) ∧ prB xt xop = false)) : s30 fu P now sent first fl wt oo ot oop opl od 0 olt ola old io it iop ipl id 0 jlt jla jld xt xop xpl xd = some (tv0, (2, ())) := by
  unfold s30
  rcases hx with hx | ⟨hx, hp⟩
  · have h0 : ieq xop 0 = false := ieq_f.2 (fun h => hx (.inl h))
    have h1 : ieq xop 1 = false := ieq_f.2 (fun h => hx (.inr h))
    simp only [valid_r hf ho hi, hv, h0, h1]
  · rcases hx with rfl | rfl
    · simp only [valid_r hf ho hi, hv, s56_eq fu _ (.inl rfl), hp, show ieq 0 0 = true from rfl]
    · simp only [valid_r hf ho hi, hv, s56_eq fu _ (.inr rfl), hp, show ieq 1 0 = false from rfl, show ieq 1 1 = true from rfl]
theorem vlen (hv : validB P now sent first fl wt oo ot oop opl od olt io it iop ipl id jlt = true) : fl.length ≤ 1000 ∧ wt.length ≤ 1000 := by
  unfold validB at hv
  simp only [Bool.and_eq_true, decide_eq_true_eq] at hv
  obtain ⟨_, _, _, _, a, b, _⟩ := hv
  omega
structure Sh (od old id jld xd : List Int) : Prop where
  od : od.length ≤ 1000
  old : old.length ≤ 1000
  id : id.length ≤ 1000
  jld : jld.length ≤ 1000
  xd : xd.length ≤ 1000
theorem do_o_r (hf : 1000000 < fu) (hs : Sh od old id jld xd) (hv : validB P now sent first fl wt oo ot oop opl od olt io it iop ipl id jlt = true) (hp : prB xt 0 = true) : s30 fu P now sent first fl wt oo ot oop opl od 0 olt ola old io it iop ipl id 0 jlt jla jld xt 0 xpl xd = some (if tkE oo ot olt xt = 0 then (tv P now sent first fl wt (tkC oo ot oop opl od olt xt 0 xpl xd).1 (tkC oo ot oop opl od olt xt 0 xpl xd).2.1 (tkC oo ot oop opl od olt xt 0 xpl xd).2.2.1 (tkC oo ot oop opl od olt xt 0 xpl xd).2.2.2.1 (tkC oo ot oop opl od olt xt 0 xpl xd).2.2.2.2 0 olt ola old io it iop ipl id 0 jlt jla jld, (0, ())) else (tv0, (tkE oo ot olt xt, ()))) := by
  unfold s30
  simp only [valid_r hf (show od.length ≤ 1000000 by have := hs.od; omega) (show id.length ≤ 1000000 by have := hs.id; omega), hv, s56_eq fu _ (.inl rfl), hp, show ieq 0 0 = true from rfl, show ieq 1 0 = false from rfl, show ieq 1 1 = true from rfl, s57_eq fu _ _ _ _ _ _ _ _ _ _ _ _ hs.xd]
  by_cases h : tkE oo ot olt xt = 0
  · simp only [if_pos h, show ieq 0 0 = true from rfl]
  · simp only [if_neg h, ieq_f.2 h]
theorem do_o_p (hf : 1000000 < fu) (hs : Sh od old id jld xd) (hv : validB P now sent first fl wt oo ot oop opl od olt io it iop ipl id jlt = true) (hp : prB xt 0 = true) : s26 fu P now sent first fl wt oo ot oop opl od olt ola old io it iop ipl id jlt jla jld xt 0 xpl xd = some (if tkE oo ot olt xt = 0 then (tu P now sent first fl wt (tkC oo ot oop opl od olt xt 0 xpl xd).1 (tkC oo ot oop opl od olt xt 0 xpl xd).2.1 (tkC oo ot oop opl od olt xt 0 xpl xd).2.2.1 (tkC oo ot oop opl od olt xt 0 xpl xd).2.2.2.1 (tkC oo ot oop opl od olt xt 0 xpl xd).2.2.2.2 olt ola old io it iop ipl id jlt jla jld, (0, ())) else (tu0, (tkE oo ot olt xt, ()))) := by
  have l := vlen hv
  unfold s26
  simp only [valid_p hf, hv, s52_eq fu _ (.inl rfl), hp, show ieq 0 0 = true from rfl, show ieq 1 0 = false from rfl, show ieq 1 1 = true from rfl, show ieq 0 1 = false from rfl, clone12 (bytes := 32) (by omega) l.1, clone12 (bytes := 24) (by omega) l.2, s67_ok hs.od hs.old, s67_ok hs.id hs.jld, clone12 (bytes := 1) (by omega) hs.xd, show dapp 1 ([] : List Int) [] = some [] from rfl]
  unfold tkE tkC
  cases oo with
  | false =>
    by_cases h1 : xt < olt
    · simp [ilt_iff.2 h1, h1]
      try rfl
    · by_cases h2 : xt = olt
      · subst h2
        simp [ilt_f.2 (Int.le_refl xt), ieq_iff.2 (rfl : xt = xt), tu]
      · simp [ilt_f.2 (Int.not_lt.1 h1), h1, ieq_f.2 h2, h2, tu]
  | true =>
    by_cases h1 : ot < xt
    · simp [ilt_iff.2 h1, h1, show ¬ xt < ot by omega]
      try rfl
    · by_cases h2 : xt < ot
      · simp [ilt_iff.2 h2, ilt_f.2 (Int.not_lt.1 h1), h1, h2]
        try rfl
      · simp [ilt_f.2 (Int.not_lt.1 h1), ilt_f.2 (Int.not_lt.1 h2), h1, h2, tu]
theorem do_i_r (hf : 1000000 < fu) (hs : Sh od old id jld xd) (hv : validB P now sent first fl wt oo ot oop opl od olt io it iop ipl id jlt = true) (hp : prB xt 1 = true) : s30 fu P now sent first fl wt oo ot oop opl od 0 olt ola old io it iop ipl id 0 jlt jla jld xt 1 xpl xd = some (if tkE io it jlt xt = 0 then (tv P now sent first fl wt oo ot oop opl od 0 olt ola old (tkC io it iop ipl id jlt xt 1 xpl xd).1 (tkC io it iop ipl id jlt xt 1 xpl xd).2.1 (tkC io it iop ipl id jlt xt 1 xpl xd).2.2.1 (tkC io it iop ipl id jlt xt 1 xpl xd).2.2.2.1 (tkC io it iop ipl id jlt xt 1 xpl xd).2.2.2.2 0 jlt jla jld, (0, ())) else (tv0, (tkE io it jlt xt, ()))) := by
  unfold s30
  simp only [valid_r hf (show od.length ≤ 1000000 by have := hs.od; omega) (show id.length ≤ 1000000 by have := hs.id; omega), hv, s56_eq fu _ (.inr rfl), hp, show ieq 0 0 = true from rfl, show ieq 1 0 = false from rfl, show ieq 1 1 = true from rfl, s57_eq fu _ _ _ _ _ _ _ _ _ _ _ _ hs.xd]
  by_cases h : tkE io it jlt xt = 0
  · simp only [if_pos h, show ieq 0 0 = true from rfl]
  · simp only [if_neg h, ieq_f.2 h]
theorem do_i_p (hf : 1000000 < fu) (hs : Sh od old id jld xd) (hv : validB P now sent first fl wt oo ot oop opl od olt io it iop ipl id jlt = true) (hp : prB xt 1 = true) : s26 fu P now sent first fl wt oo ot oop opl od olt ola old io it iop ipl id jlt jla jld xt 1 xpl xd = some (if tkE io it jlt xt = 0 then (tu P now sent first fl wt oo ot oop opl od olt ola old (tkC io it iop ipl id jlt xt 1 xpl xd).1 (tkC io it iop ipl id jlt xt 1 xpl xd).2.1 (tkC io it iop ipl id jlt xt 1 xpl xd).2.2.1 (tkC io it iop ipl id jlt xt 1 xpl xd).2.2.2.1 (tkC io it iop ipl id jlt xt 1 xpl xd).2.2.2.2 jlt jla jld, (0, ())) else (tu0, (tkE io it jlt xt, ()))) := by
  have l := vlen hv
  unfold s26
  simp only [valid_p hf, hv, s52_eq fu _ (.inr rfl), hp, show ieq 0 0 = true from rfl, show ieq 1 0 = false from rfl, show ieq 1 1 = true from rfl, show ieq 0 1 = false from rfl, clone12 (bytes := 32) (by omega) l.1, clone12 (bytes := 24) (by omega) l.2, s67_ok hs.od hs.old, s67_ok hs.id hs.jld, clone12 (bytes := 1) (by omega) hs.xd, show dapp 1 ([] : List Int) [] = some [] from rfl]
  unfold tkE tkC
  cases io with
  | false =>
    by_cases h1 : xt < jlt
    · simp [ilt_iff.2 h1, h1]
      try rfl
    · by_cases h2 : xt = jlt
      · subst h2
        simp [ilt_f.2 (Int.le_refl xt), ieq_iff.2 (rfl : xt = xt), tu]
      · simp [ilt_f.2 (Int.not_lt.1 h1), h1, ieq_f.2 h2, h2, tu]
  | true =>
    by_cases h1 : it < xt
    · simp [ilt_iff.2 h1, h1, show ¬ xt < it by omega]
      try rfl
    · by_cases h2 : xt < it
      · simp [ilt_iff.2 h2, ilt_f.2 (Int.not_lt.1 h1), h1, h2]
        try rfl
      · simp [ilt_f.2 (Int.not_lt.1 h1), ilt_f.2 (Int.not_lt.1 h2), h1, h2, tu]
end
end Go.G
