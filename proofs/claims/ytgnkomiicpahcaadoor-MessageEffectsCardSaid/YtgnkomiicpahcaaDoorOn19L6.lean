import Derived.Test.YtgnkomiicpahcaaDoorOn19
import Derived.KernelRfl
import Derived.Test.YtgnkomiicpahcaaDoorProg
set_option linter.unusedVariables false
set_option linter.unusedSimpArgs false
set_option maxRecDepth 100000
set_option maxHeartbeats 0
set_option linter.unusedVariables false
namespace Go.G
open Go.Proofs

-- 6 ratoon/ratoonlaw19.MessageEffects
def F6 (fu : Nat) : AFn C19 := ⟨(.seq (.reg false [⟨(some 4), none, (.move (.c (.one (.d (.bool false)))))⟩] []) (.seq (.seq (.reg false [⟨(some 5), none, (.call 10 [])⟩, ⟨(some 6), none, (.not (.t 5))⟩, ⟨(some 7), none, (.move (.t 6))⟩, ⟨(some 8), (some (7, false)), (.move (.t 1))⟩, ⟨(some 9), (some (7, false)), (.call 16 [(.t 8)])⟩, ⟨(some 10), (some (7, false)), (.not (.t 9))⟩, ⟨(some 11), none, (.or (.t 7) (.t 10))⟩] []) (.cond (.t 11) (.seq (.reg false [⟨(some 12), none, (.call 10 [])⟩, ⟨(some 4), none, (.move (.t 12))⟩] []) .ret) .skip)) (.seq (.reg false [⟨(some 13), none, (.move (.t 0))⟩, ⟨(some 14), none, (.move (.t 1))⟩, ⟨(some 15), none, (.call 17 [(.t 13), (.t 14)])⟩, ⟨(some 16), none, (.move (.t 0))⟩, ⟨(some 17), none, (.move (.t 1))⟩, ⟨(some 18), none, (.call 18 [(.t 16), (.t 17)])⟩, ⟨(some 19), none, (.eqb false (.t 15) (.t 18))⟩, ⟨(some 4), none, (.move (.t 19))⟩] []) .ret))), 20, [(.t 4)]⟩
theorem g6 (fu : Nat) : GoodR Tryd.prog cu19 20 (F6 fu).pc := (.seq .triv (.seq (.seq .triv (.cond (.seq .triv .triv) .triv)) (.seq .triv .triv)))
theorem x6 : (fun fu : Nat => compFn Tryd.prog cu19 6) = fun fu => some (eraseFn (F6 fu)) := by kernel_rfl
theorem y6 (fu : Nat) : TextOK Tryd.prog cu19 6 (F6 fu) := ⟨congrFun x6 fu, (g6 fu).good, by kernel_rfl⟩
abbrev A6 : List (Lp C19) := [(.one (.int .i64)), (.one (.sl U19.effect))]
abbrev R6 : List (Lp C19) := [(.one .bool)]
def s6 (fu : Nat) (a0 : Int) (a1 : List Effect19) : Option (Bool × Unit) := (match (s10 fu) with | .none => none | .some y0 => (bif (bif y0.1 then false else true) then (match (s10 fu) with | .none => none | .some y5 => (some (y5.1, ()))) else (match (s16 fu a1) with | .none => none | .some y1 => (bif (bif y1.1 then false else true) then (match (s10 fu) with | .none => none | .some y4 => (some (y4.1, ()))) else (match (s17 fu a0 a1) with | .none => none | .some y2 => (match (s18 fu a0 a1) with | .none => none | .some y3 => (some ((beqb y2.1 y3.1), ()))))))))
def k6 (fu : Nat) : tyL A6 → Option (tyL R6) := fun x => s6 fu x.1 x.2.1
def ents19_6 (fu : Nat) : List (FuncId × Ent C19) := [
  (10, .con (conD A10 R10 (k10 fu))),
  (16, .con (conD A16 R16 (k16 fu))),
  (17, .con (conD A17 R17 (k17 fu))),
  (18, .con (conD A18 R18 (k18 fu)))]
theorem e6 (fu : Nat) : EntsR Tryd.prog cu19 (ents19_6 fu) := (.cons (c10 fu) (.cons (c16 fu) (.cons (c17 fu) (.cons (c18 fu) .nil))))
theorem z6 : (fun (fu : Nat) x => evFn (callH (ents19_6 fu) 12) LIM (F6 fu) (embPs A6 x) [] 0 (finR R6)) = fun fu => k6 fu := by kernel_rfl
theorem d6 (fu : Nat) : DataOK Tryd.prog 6 A6 R6 (k6 fu) := data_of_ev (y6 fu) (callH_sound (e6 fu).ok 12) LIM (congrFun z6 fu)
theorem c6 (fu : Nat) : ConOK Tryd.prog 6 (conD A6 R6 (k6 fu)) := con_of_data (by kernel_rfl) (d6 fu) (dataL R6 rfl)
end Go.G
