import Derived.Test.YtgnkomiicpahcaaDoorOn19
import Derived.KernelRfl
import Derived.Test.YtgnkomiicpahcaaDoorProg
set_option linter.unusedVariables false
set_option linter.unusedSimpArgs false
set_option maxRecDepth 100000
set_option maxHeartbeats 0
set_option linter.unusedVariables false
namespace Go.G
open Go.Proofs

-- 3 ratoon/ratoonlaw19.MessagePermitted
def F3 (fu : Nat) : AFn C19 := ⟨(.seq (.reg false [⟨(some 2), none, (.box (.t 0))⟩, ⟨(some 4), none, (.move (.c (.one (.d (.bool false)))))⟩] []) (.seq (.seq (.reg false [⟨(some 9), none, (.call 10 [])⟩, ⟨(some 10), none, (.not (.t 9))⟩, ⟨(some 11), none, (.move (.t 10))⟩, ⟨(some 12), (some (11, false)), (.faddr 8 (.t 2))⟩, ⟨(some 13), (some (11, false)), (.load 1 false (.t 12))⟩, ⟨(some 14), (some (11, false)), (.len (.t 13))⟩, ⟨(some 15), (some (11, false)), (.bin .gtr (.t 14) (.c (.one (.d (.int .i64 2000)))))⟩, ⟨(some 16), none, (.or (.t 11) (.t 15))⟩] []) (.cond (.t 16) (.seq (.reg false [⟨(some 17), none, (.call 10 [])⟩, ⟨(some 4), none, (.move (.t 17))⟩] []) .ret) .skip)) (.seq (.reg false [⟨(some 19), none, (.move (.t 1))⟩, ⟨(some 20), none, (.call 11 [(.t 19)])⟩, ⟨(some 18), none, (.move (.t 20))⟩, ⟨(some 21), none, (.ext 0 (.t 18))⟩, ⟨(some 22), none, (.ext 1 (.t 18))⟩, ⟨(some 5), none, (.move (.t 21))⟩, ⟨(some 6), none, (.move (.t 22))⟩] []) (.seq (.reg false [⟨(some 24), none, (.move (.t 1))⟩, ⟨(some 25), none, (.call 12 [(.t 24)])⟩, ⟨(some 23), none, (.move (.t 25))⟩, ⟨(some 26), none, (.ext 0 (.t 23))⟩, ⟨(some 27), none, (.ext 1 (.t 23))⟩, ⟨(some 7), none, (.move (.t 26))⟩, ⟨(some 8), none, (.move (.t 27))⟩] []) (.seq (.reg true [⟨(some 28), none, (.load 9 true (.t 2))⟩, ⟨(some 29), none, (.call 13 [(.t 28)])⟩, ⟨(some 30), none, (.load 9 true (.t 2))⟩, ⟨(some 31), none, (.call 14 [(.t 30)])⟩, ⟨(some 32), none, (.eqb false (.t 29) (.t 31))⟩, ⟨(some 33), none, (.move (.t 32))⟩, ⟨(some 34), (some (33, true)), (.move (.t 5))⟩, ⟨(some 35), (some (33, true)), (.move (.t 7))⟩, ⟨(some 36), (some (33, true)), (.bin .eql (.t 34) (.t 35))⟩, ⟨(some 37), none, (.and (.t 33) (.t 36))⟩, ⟨(some 38), none, (.move (.t 37))⟩, ⟨(some 39), (some (38, true)), (.move (.t 6))⟩, ⟨(some 40), (some (38, true)), (.move (.t 8))⟩, ⟨(some 41), (some (38, true)), (.eqb false (.t 39) (.t 40))⟩, ⟨(some 42), none, (.and (.t 38) (.t 41))⟩, ⟨(some 4), none, (.move (.t 42))⟩] [[], [0], [], [0, 1, 2], [2, 0, 3, 1], [1, 0, 2, 3, 4], [4, 3, 2, 0, 1, 5], [4, 3, 2, 0, 1, 5], [1, 0, 2, 3, 4, 5, 7, 6], [6, 7, 4, 3, 2, 0, 1, 8, 5], [8, 1, 0, 2, 3, 4, 7, 6, 5, 9], [9, 5, 6, 7, 4, 3, 2, 0, 1, 8, 10], [9, 5, 6, 7, 4, 3, 2, 0, 1, 8, 10], [8, 1, 0, 2, 3, 4, 7, 6, 5, 9, 10, 12, 11], [11, 12, 9, 5, 6, 7, 4, 3, 2, 0, 1, 8, 13, 10], [13, 12, 11, 9, 8, 7, 6, 5, 4, 3, 2, 1, 0, 10, 14]]) .ret))))), 43, [(.t 4)]⟩
theorem g3 (fu : Nat) : GoodR Tryd.prog cu19 43 (F3 fu).pc := (.seq .triv (.seq (.seq .triv (.cond (.seq .triv .triv) .triv)) (.seq .triv (.seq .triv (.seq .triv .triv)))))
theorem x3 : (fun fu : Nat => compFn Tryd.prog cu19 3) = fun fu => some (eraseFn (F3 fu)) := by kernel_rfl
theorem y3 (fu : Nat) : TextOK Tryd.prog cu19 3 (F3 fu) := ⟨congrFun x3 fu, (g3 fu).good, by kernel_rfl⟩
abbrev A3 : List (Lp C19) := [(.agg [(.int .i64), (.int .i64), (.int .i64), (.int .i64), (.int .i64), (.int .i64), (.int .i64), (.int .i64), (.sl U19.u8)]), (.one (.int .i64))]
abbrev R3 : List (Lp C19) := [(.one .bool)]
def s3 (fu : Nat) (a0_Src : Int) (a0_Dst : Int) (a0_Kind : Int) (a0_Seq : Int) (a0_Args_0 : Int) (a0_Args_1 : Int) (a0_Args_2 : Int) (a0_Args_3 : Int) (a0_Data : List Int) (a1 : Int) : Option (Bool × Unit) := (match (s10 fu) with | .none => none | .some y0 => (bif (bif y0.1 then false else true) then (match (s10 fu) with | .none => none | .some y6 => (some (y6.1, ()))) else (bif (ilt 2000 (dlen a0_Data)) then (match (s10 fu) with | .none => none | .some y5 => (some (y5.1, ()))) else (match (s11 fu a1) with | .none => none | .some y1 => (match (s12 fu a1) with | .none => none | .some y2 => (match (s13 fu a0_Src a0_Dst a0_Kind a0_Seq a0_Args_0 a0_Args_1 a0_Args_2 a0_Args_3 a0_Data) with | .none => none | .some y3 => (match (s14 fu a0_Src a0_Dst a0_Kind a0_Seq a0_Args_0 a0_Args_1 a0_Args_2 a0_Args_3 a0_Data) with | .none => none | .some y4 => (bif (beqb y3.1 y4.1) then (bif (ieq y1.1 y2.1) then (some ((beqb y1.2.1 y2.2.1), ())) else (some (false, ()))) else (some (false, ()))))))))))
def k3 (fu : Nat) : tyL A3 → Option (tyL R3) := fun x => s3 fu x.1.1 x.1.2.1 x.1.2.2.1 x.1.2.2.2.1 x.1.2.2.2.2.1 x.1.2.2.2.2.2.1 x.1.2.2.2.2.2.2.1 x.1.2.2.2.2.2.2.2.1 x.1.2.2.2.2.2.2.2.2.1 x.2.1
def ents19_3 (fu : Nat) : List (FuncId × Ent C19) := [
  (10, .con (conD A10 R10 (k10 fu))),
  (11, .con (conD A11 R11 (k11 fu))),
  (12, .con (conD A12 R12 (k12 fu))),
  (13, .con (conD A13 R13 (k13 fu))),
  (14, .con (conD A14 R14 (k14 fu)))]
theorem e3 (fu : Nat) : EntsR Tryd.prog cu19 (ents19_3 fu) := (.cons (c10 fu) (.cons (c11 fu) (.cons (c12 fu) (.cons (c13 fu) (.cons (c14 fu) .nil)))))
theorem z3 : (fun (fu : Nat) x => evFn (callH (ents19_3 fu) 12) LIM (F3 fu) (embPs A3 x) [] 0 (finR R3)) = fun fu => k3 fu := by kernel_rfl
theorem d3 (fu : Nat) : DataOK Tryd.prog 3 A3 R3 (k3 fu) := data_of_ev (y3 fu) (callH_sound (e3 fu).ok 12) LIM (congrFun z3 fu)
theorem c3 (fu : Nat) : ConOK Tryd.prog 3 (conD A3 R3 (k3 fu)) := con_of_data (by kernel_rfl) (d3 fu) (dataL R3 rfl)
end Go.G
