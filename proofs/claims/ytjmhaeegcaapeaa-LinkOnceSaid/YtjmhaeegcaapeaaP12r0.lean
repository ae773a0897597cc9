import Derived.Test.YtjmhaeegcaapeaaP12q0
set_option linter.unusedVariables false
set_option linter.unusedSimpArgs false
namespace Go.G
set_option maxRecDepth 100000
theorem by_nil : By [] := fun _ h => absurd h (List.not_mem_nil)
theorem wf_by {l : List Int} (h : WfD C12 (.sl U12.u8 l)) : By l ∧ l.length ≤ 9223372036854775807 := by
  obtain ⟨h1, h2⟩ := h.of_sl
  exact ⟨fun x hx => wfd_u8 (h2 x hx (.int .u8 x) (.head _)), h1⟩
theorem wf_fl {l : List Flight12} (h : WfD C12 (.sl U12.flight l)) : l.length * 32 ≤ 140737488351232 ∧ ∀ f ∈ l, By f.Data ∧ f.Data.length ≤ 9223372036854775807 := by
  refine ⟨h.room, fun f hf => ?_⟩
  exact wf_by (h.of_sl.2 f hf (.sl U12.u8 f.Data) (.tail _ (.head _)))
theorem wf_wt {l : List (List Int)} (h : WfD C12 (.sl U12.sl_u8 l)) : l.length * 24 ≤ 140737488351232 ∧ ∀ b ∈ l, By b ∧ b.length ≤ 9223372036854775807 := by
  refine ⟨h.room, fun b hb => ?_⟩
  exact wf_by (h.of_sl.2 b hb (.sl U12.u8 b) (.head _))
structure Fine (P : List Int) (fl : List Flight12) (wt : List (List Int)) (od old id jld : List Int) : Prop where
  by_ : BySt P fl wt od old id jld
  pn : P.length ≤ 1000
  fln : fl.length * 32 ≤ 140737488351232
  wtn : wt.length * 24 ≤ 140737488351232
  fd : ∀ f ∈ fl, f.Data.length ≤ 9223372036854775807
  wd : ∀ b ∈ wt, b.length ≤ 9223372036854775807
  odn : od.length ≤ 1000
  oldn : old.length ≤ 1000
  idn : id.length ≤ 1000
  jldn : jld.length ≤ 1000
theorem fine0 : Fine [] [] [] [] [] [] [] := ⟨⟨by_nil, fun _ h => absurd h List.not_mem_nil, fun _ h => absurd h List.not_mem_nil, by_nil, by_nil, by_nil, by_nil⟩, Nat.zero_le _, Nat.zero_le _, Nat.zero_le _, fun _ h => absurd h List.not_mem_nil, fun _ h => absurd h List.not_mem_nil, Nat.zero_le _, Nat.zero_le _, Nat.zero_le _, Nat.zero_le _⟩
end Go.G
