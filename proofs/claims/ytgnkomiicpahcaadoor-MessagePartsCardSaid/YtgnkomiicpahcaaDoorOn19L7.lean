import Derived.Test.YtgnkomiicpahcaaDoorOn19
import Derived.KernelRfl
import Derived.Test.YtgnkomiicpahcaaDoorProg
set_option linter.unusedVariables false
set_option linter.unusedSimpArgs false
set_option maxRecDepth 100000
set_option maxHeartbeats 0
set_option linter.unusedVariables false
namespace Go.G
open Go.Proofs

-- 7 ratoon/ratoonlaw19.MessageParts
def F7 (fu : Nat) : AFn C19 := ⟨(.seq (.reg false [⟨(some 6), none, (.move (.c (.one (.d (.bool false)))))⟩] []) (.seq (.seq (.reg false [⟨(some 10), none, (.call 10 [])⟩, ⟨(some 11), none, (.not (.t 10))⟩, ⟨(some 12), none, (.move (.t 11))⟩, ⟨(some 13), (some (12, false)), (.move (.t 1))⟩, ⟨(some 14), (some (12, false)), (.call 16 [(.t 13)])⟩, ⟨(some 15), (some (12, false)), (.not (.t 14))⟩, ⟨(some 16), none, (.or (.t 12) (.t 15))⟩] []) (.cond (.t 16) (.seq (.reg false [⟨(some 17), none, (.call 10 [])⟩, ⟨(some 6), none, (.move (.t 17))⟩] []) .ret) .skip)) (.seq (.reg false [⟨(some 18), none, (.move (.t 2))⟩, ⟨(some 19), none, (.conv .i64 (.t 18))⟩, ⟨(some 20), none, (.move (.t 1))⟩, ⟨(some 21), none, (.len (.t 20))⟩, ⟨(some 22), none, (.bin .add (.t 21) (.c (.one (.d (.int .i64 1)))))⟩, ⟨(some 23), none, (.bin .rem (.t 19) (.t 22))⟩, ⟨(some 7), none, (.move (.t 23))⟩] []) (.seq (.reg true [⟨(some 24), none, (.move (.t 0))⟩, ⟨(some 25), none, (.move (.t 1))⟩, ⟨(some 26), none, (.move (.t 7))⟩, ⟨(some 27), none, (.slice .effect (.t 25) none (some (.t 26)) none)⟩, ⟨(some 28), none, (.call 17 [(.t 24), (.t 27)])⟩, ⟨(some 29), none, (.move (.t 0))⟩, ⟨(some 30), none, (.move (.t 1))⟩, ⟨(some 31), none, (.move (.t 7))⟩, ⟨(some 32), none, (.slice .effect (.t 30) (some (.t 31)) none none)⟩, ⟨(some 33), none, (.call 17 [(.t 29), (.t 32)])⟩, ⟨(some 8), none, (.move (.t 28))⟩, ⟨(some 9), none, (.move (.t 33))⟩] [[], [], [], [2, 1], [1, 2, 3, 0], [], [], [], [7, 6], [0, 3, 2, 1, 6, 7, 4, 8, 5], [5, 8, 7, 6, 3, 2, 1, 0, 9, 4], [8, 7, 6, 5, 4, 3, 2, 1, 0, 10, 9]]) (.seq (.reg false [⟨(some 34), none, (.move (.t 0))⟩, ⟨(some 35), none, (.move (.t 1))⟩, ⟨(some 36), none, (.call 17 [(.t 34), (.t 35)])⟩, ⟨(some 37), none, (.move (.t 8))⟩, ⟨(some 38), none, (.move (.t 37))⟩, ⟨(some 39), (some (38, true)), (.move (.t 9))⟩, ⟨(some 40), none, (.and (.t 38) (.t 39))⟩, ⟨(some 41), none, (.move (.t 40))⟩, ⟨(some 42), (some (41, true)), (.move (.t 1))⟩, ⟨(some 43), (some (41, true)), (.len (.t 42))⟩, ⟨(some 44), (some (41, true)), (.bin .leq (.t 43) (.c (.one (.d (.int .i64 160)))))⟩, ⟨(some 45), none, (.and (.t 41) (.t 44))⟩, ⟨(some 46), none, (.eqb false (.t 36) (.t 45))⟩, ⟨(some 6), none, (.move (.t 46))⟩] []) .ret))))), 47, [(.t 6)]⟩
theorem g7 (fu : Nat) : GoodR Tryd.prog cu19 47 (F7 fu).pc := (.seq .triv (.seq (.seq .triv (.cond (.seq .triv .triv) .triv)) (.seq .triv (.seq .triv (.seq .triv .triv)))))
theorem x7 : (fun fu : Nat => compFn Tryd.prog cu19 7) = fun fu => some (eraseFn (F7 fu)) := by kernel_rfl
theorem y7 (fu : Nat) : TextOK Tryd.prog cu19 7 (F7 fu) := ⟨congrFun x7 fu, (g7 fu).good, by kernel_rfl⟩
abbrev A7 : List (Lp C19) := [(.one (.int .i64)), (.one (.sl U19.effect)), (.one (.int .u8))]
abbrev R7 : List (Lp C19) := [(.one .bool)]
def s7 (fu : Nat) (a0 : Int) (a1 : List Effect19) (a2 : Int) : Option (Bool × Unit) := (match (s10 fu) with | .none => none | .some y0 => (bif (bif y0.1 then false else true) then (match (s10 fu) with | .none => none | .some y8 => (some (y8.1, ()))) else (match (s16 fu a1) with | .none => none | .some y1 => (bif (bif y1.1 then false else true) then (match (s10 fu) with | .none => none | .some y7 => (some (y7.1, ()))) else (bif (ieq (iadd .i64 (dlen a1) 1) 0) then none else (match (dsub a1 0 (irem .i64 (iwrap .i64 a2) (iadd .i64 (dlen a1) 1))) with | .none => none | .some y2 => (match (s17 fu a0 y2) with | .none => none | .some y3 => (match (dsub a1 (irem .i64 (iwrap .i64 a2) (iadd .i64 (dlen a1) 1)) (dlen a1)) with | .none => none | .some y4 => (match (s17 fu a0 y4) with | .none => none | .some y5 => (match (s17 fu a0 a1) with | .none => none | .some y6 => (bif y3.1 then (bif y5.1 then (some ((beqb y6.1 (ile (dlen a1) 160)), ())) else (some ((beqb y6.1 false), ()))) else (some ((beqb y6.1 false), ())))))))))))))
def k7 (fu : Nat) : tyL A7 → Option (tyL R7) := fun x => s7 fu x.1 x.2.1 x.2.2.1
def ents19_7 (fu : Nat) : List (FuncId × Ent C19) := [
  (10, .con (conD A10 R10 (k10 fu))),
  (16, .con (conD A16 R16 (k16 fu))),
  (17, .con (conD A17 R17 (k17 fu)))]
theorem e7 (fu : Nat) : EntsR Tryd.prog cu19 (ents19_7 fu) := (.cons (c10 fu) (.cons (c16 fu) (.cons (c17 fu) .nil)))
theorem z7 : (fun (fu : Nat) x => evFn (callH (ents19_7 fu) 12) LIM (F7 fu) (embPs A7 x) [] 0 (finR R7)) = fun fu => k7 fu := by kernel_rfl
theorem d7 (fu : Nat) : DataOK Tryd.prog 7 A7 R7 (k7 fu) := data_of_ev (y7 fu) (callH_sound (e7 fu).ok 12) LIM (congrFun z7 fu)
theorem c7 (fu : Nat) : ConOK Tryd.prog 7 (conD A7 R7 (k7 fu)) := con_of_data (by kernel_rfl) (d7 fu) (dataL R7 rfl)
end Go.G
