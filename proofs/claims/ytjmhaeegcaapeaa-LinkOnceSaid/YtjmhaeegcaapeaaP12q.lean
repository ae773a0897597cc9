import Derived.Test.YtjmhaeegcaapeaaP12q0
set_option linter.unusedVariables false
set_option linter.unusedSimpArgs false
namespace Go.G
set_option maxRecDepth 100000
def tkE (o : Bool) (t lt xt : Int) : Int := if o = true then (if xt < t then 19 else if t < xt then 12 else 0) else if xt < lt then 19 else 0
def tkC (o : Bool) (t op pl : Int) (d : List Int) (lt xt xop xpl : Int) (xd : List Int) : Bool × Int × Int × Int × List Int := if o = true then (o, t, op, pl, d) else if xt = lt then (true, xt, 0, 0, []) else (true, xt, xop, xpl, xd)
section
variable {fu : Nat} {P : List Int} {now sent first : Int} {fl : List Flight12} {wt : List (List Int)} {oo : Bool} {ot oop opl : Int} {od : List Int} {olt ola : Int} {old : List Int} {io : Bool} {it iop ipl : Int} {id : List Int} {jlt jla : Int} {jld : List Int} {xt xop xpl : Int} {xd : List Int}
theorem do_bad_p (hf : 1000000 < fu) (hv : validB P now sent first fl wt oo ot oop opl od olt io it iop ipl id jlt = false) : s26 fu P now sent first fl wt oo ot oop opl od olt ola old io it iop ipl id jlt jla jld xt xop xpl xd = some (tu0, (1, ())) := by
  unfold s26
  simp only [valid_p hf, hv]
theorem do_range_p (hf : 1000000 < fu) (hv : validB P now sent first fl wt oo ot oop opl od olt io it iop ipl id jlt = true) (hx : ¬ (xop = 0 ∨ xop = 1) ∨ ((xop = 0 ∨ xop = 1) ∧ prB xt xop = false)) : s26 fu P now sent first fl wt oo ot oop opl od olt ola old io it iop ipl id jlt jla jld xt xop xpl xd = some (tu0, (2, ())) := by
  unfold s26
  rcases hx with hx | ⟨hx, hp⟩
  · have h0 : ieq xop 0 = false := ieq_f.2 (fun h => hx (.inl h))
    have h1 : ieq xop 1 = false := ieq_f.2 (fun h => hx (.inr h))
    simp only [valid_p hf, hv, h0, h1]
  · rcases hx with rfl | rfl
    · simp only [valid_p hf, hv, s52_eq fu _ (.inl rfl), hp, show ieq 0 0 = true from rfl]
    · simp only [valid_p hf, hv, s52_eq fu _ (.inr rfl), hp, show ieq 1 0 = false from rfl, show ieq 1 1 = true from rfl]
theorem do_o_p (hf : 1000000 < fu) (hs : Sh od old id jld xd) (hv : validB P now sent first fl wt oo ot oop opl od olt io it iop ipl id jlt = true) (hp : prB xt 0 = true) : s26 fu P now sent first fl wt oo ot oop opl od olt ola old io it iop ipl id jlt jla jld xt 0 xpl xd = some (if tkE oo ot olt xt = 0 then (tu P now sent first fl wt (tkC oo ot oop opl od olt xt 0 xpl xd).1 (tkC oo ot oop opl od olt xt 0 xpl xd).2.1 (tkC oo ot oop opl od olt xt 0 xpl xd).2.2.1 (tkC oo ot oop opl od olt xt 0 xpl xd).2.2.2.1 (tkC oo ot oop opl od olt xt 0 xpl xd).2.2.2.2 olt ola old io it iop ipl id jlt jla jld, (0, ())) else (tu0, (tkE oo ot olt xt, ()))) := by
  have l := vlen hv
  unfold s26
  simp only [valid_p hf, hv, s52_eq fu _ (.inl rfl), hp, show ieq 0 0 = true from rfl, show ieq 1 0 = false from rfl, show ieq 1 1 = true from rfl, show ieq 0 1 = false from rfl, clone12 (bytes := 32) (by omega) l.1, clone12 (bytes := 24) (by omega) l.2, s67_ok hs.od hs.old, s67_ok hs.id hs.jld, clone12 (bytes := 1) (by omega) hs.xd, show dapp 1 ([] : List Int) [] = some [] from rfl]
  unfold tkE tkC
  cases oo with
  | false =>
    by_cases h1 : xt < olt
    · simp [ilt_iff.2 h1, h1]
      try rfl
    · by_cases h2 : xt = olt
      · subst h2
        simp [ilt_f.2 (Int.le_refl xt), ieq_iff.2 (rfl : xt = xt), tu]
      · simp [ilt_f.2 (Int.not_lt.1 h1), h1, ieq_f.2 h2, h2, tu]
  | true =>
    by_cases h1 : ot < xt
    · simp [ilt_iff.2 h1, h1, show ¬ xt < ot by omega]
      try rfl
    · by_cases h2 : xt < ot
      · simp [ilt_iff.2 h2, ilt_f.2 (Int.not_lt.1 h1), h1, h2]
        try rfl
      · simp [ilt_f.2 (Int.not_lt.1 h1), ilt_f.2 (Int.not_lt.1 h2), h1, h2, tu]
theorem do_i_p (hf : 1000000 < fu) (hs : Sh od old id jld xd) (hv : validB P now sent first fl wt oo ot oop opl od olt io it iop ipl id jlt = true) (hp : prB xt 1 = true) : s26 fu P now sent first fl wt oo ot oop opl od olt ola old io it iop ipl id jlt jla jld xt 1 xpl xd = some (if tkE io it jlt xt = 0 then (tu P now sent first fl wt oo ot oop opl od olt ola old (tkC io it iop ipl id jlt xt 1 xpl xd).1 (tkC io it iop ipl id jlt xt 1 xpl xd).2.1 (tkC io it iop ipl id jlt xt 1 xpl xd).2.2.1 (tkC io it iop ipl id jlt xt 1 xpl xd).2.2.2.1 (tkC io it iop ipl id jlt xt 1 xpl xd).2.2.2.2 jlt jla jld, (0, ())) else (tu0, (tkE io it jlt xt, ()))) := by
  have l := vlen hv
  unfold s26
  simp only [valid_p hf, hv, s52_eq fu _ (.inr rfl), hp, show ieq 0 0 = true from rfl, show ieq 1 0 = false from rfl, show ieq 1 1 = true from rfl, show ieq 0 1 = false from rfl, clone12 (bytes := 32) (by omega) l.1, clone12 (bytes := 24) (by omega) l.2, s67_ok hs.od hs.old, s67_ok hs.id hs.jld, clone12 (bytes := 1) (by omega) hs.xd, show dapp 1 ([] : List Int) [] = some [] from rfl]
  unfold tkE tkC
  cases io with
  | false =>
    by_cases h1 : xt < jlt
    · simp [ilt_iff.2 h1, h1]
      try rfl
    · by_cases h2 : xt = jlt
      · subst h2
        simp [ilt_f.2 (Int.le_refl xt), ieq_iff.2 (rfl : xt = xt), tu]
      · simp [ilt_f.2 (Int.not_lt.1 h1), h1, ieq_f.2 h2, h2, tu]
  | true =>
    by_cases h1 : it < xt
    · simp [ilt_iff.2 h1, h1, show ¬ xt < it by omega]
      try rfl
    · by_cases h2 : xt < it
      · simp [ilt_iff.2 h2, ilt_f.2 (Int.not_lt.1 h1), h1, h2]
        try rfl
      · simp [ilt_f.2 (Int.not_lt.1 h1), ilt_f.2 (Int.not_lt.1 h2), h1, h2, tu]
end
end Go.G
