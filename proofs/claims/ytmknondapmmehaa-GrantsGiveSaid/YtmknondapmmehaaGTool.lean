import Derived.Test.YtmknondapmmehaaGClone
set_option linter.unusedVariables false
set_option linter.unusedSimpArgs false
namespace Go.G
variable {T : Uni}
/-- A text whose loops are described by program. -/
inductive GoodR (P : Program) (cu : TypeId → Option T.U) (N : Nat) : ACode T → Prop
  | triv {c} (h : Good P cu N c = True := by rfl) : GoodR P cu N c
  | seq {a b} : GoodR P cu N a → GoodR P cu N b → GoodR P cu N (.seq a b)
  | cond {c a b} : GoodR P cu N a → GoodR P cu N b → GoodR P cu N (.cond c a b)
  | block {id a} : GoodR P cu N a → GoodR P cu N (.block id a)
  | unroll {k a} : GoodR P cu N a → GoodR P cu N (.unroll k a)
  | auto {fu b live fix dat fz outs} : GoodR P cu N b → GoodR P cu N (.loop b (auto fu b live fix dat fz outs))

theorem GoodR.good {P : Program} {cu : TypeId → Option T.U} {N : Nat} {c : ACode T} (h : GoodR P cu N c) : Good P cu N c := by
  induction h with
  | triv h => rw [h]; trivial
  | seq _ _ h1 h2 => exact ⟨h1, h2⟩
  | cond _ _ h1 h2 => exact ⟨h1, h2⟩
  | block _ h => exact h
  | unroll _ h => exact h
  | auto _ h => exact auto_ok h _ _ _ _ _ _

inductive EntsR (P : Program) (cu : TypeId → Option T.U) : List (FuncId × Ent T) → Prop
  | nil : EntsR P cu []
  | cons {f e r} : EntOK P cu f e → EntsR P cu r → EntsR P cu ((f, e) :: r)

theorem EntsR.ok {P : Program} {cu : TypeId → Option T.U} {l : List (FuncId × Ent T)} (h : EntsR P cu l) : EntsOK P cu l := by
  induction h with
  | nil => trivial
  | cons h _ ih => exact ⟨h, ih⟩

def dataC : Pt T → Bool
  | .int _ | .bool | .str | .sl _ => true
  | _ => false
def dataP : Lp T → Bool
  | .one p => dataC p
  | .agg ps => ps.all dataC
  | _ => false

theorem dataC_emb {p : Pt T} (h : dataC p = true) (x : p.ty) : isDC (embC p x) := by
  cases p <;> first | trivial | cases h

theorem dataL : ∀ (Rs : List (Lp T)), Rs.all dataP = true → ∀ y, ∀ q ∈ embPs Rs y, isDP q
  | [], _, _, q, hq => by simp [embPs] at hq
  | p :: ps, h, y, q, hq => by
    simp only [List.all_cons, Bool.and_eq_true] at h
    simp only [embPs, List.mem_cons] at hq
    rcases hq with rfl | hq
    · cases p with
      | one p => exact dataC_emb h.1 _
      | agg ps =>
        have key : ∀ (ps : List (Pt T)) (x : tys ps), ps.all dataC = true → ∀ c ∈ embCs ps x, isDC c := by
          intro ps
          induction ps with
          | nil => intro _ _ c hc; simp [embCs] at hc
          | cons p ps ih =>
            intro x h c hc
            simp only [List.all_cons, Bool.and_eq_true] at h
            simp only [embCs, List.mem_cons] at hc
            rcases hc with rfl | hc
            · exact dataC_emb h.1 _
            · exact ih _ h.2 c hc
        exact key ps y.1 h.1
      | _ => cases h.1
    · exact dataL ps h.2 y.2 q hq
end Go.G
