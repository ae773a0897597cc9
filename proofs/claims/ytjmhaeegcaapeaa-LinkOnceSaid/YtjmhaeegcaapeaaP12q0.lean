import Derived.Test.YtjmhaeegcaapeaaP12p
set_option linter.unusedVariables false
set_option linter.unusedSimpArgs false
namespace Go.G
set_option maxRecDepth 100000
abbrev tu0 := tu [] 0 0 0 [] [] false 0 0 0 [] 0 0 [] false 0 0 0 [] 0 0 []
abbrev tv0 := tv [] 0 0 0 [] [] false 0 0 0 [] 0 0 0 [] false 0 0 0 [] 0 0 0 []
section
variable {fu : Nat} {P : List Int} {now sent first : Int} {fl : List Flight12} {wt : List (List Int)} {oo : Bool} {ot oop opl : Int} {od : List Int} {olt ola : Int} {old : List Int} {io : Bool} {it iop ipl : Int} {id : List Int} {jlt jla : Int} {jld : List Int} {xt xop xpl : Int} {xd : List Int}
theorem vlen (hv : validB P now sent first fl wt oo ot oop opl od olt io it iop ipl id jlt = true) : fl.length ≤ 1000 ∧ wt.length ≤ 1000 := by
  unfold validB at hv
  simp only [Bool.and_eq_true, decide_eq_true_eq] at hv
  obtain ⟨_, _, _, _, a, b, _⟩ := hv
  omega
structure Sh (od old id jld xd : List Int) : Prop where
  od : od.length ≤ 1000
  old : old.length ≤ 1000
  id : id.length ≤ 1000
  jld : jld.length ≤ 1000
  xd : xd.length ≤ 1000
end
end Go.G
