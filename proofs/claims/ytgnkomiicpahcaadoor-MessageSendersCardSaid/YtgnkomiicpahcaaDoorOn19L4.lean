import Derived.Test.YtgnkomiicpahcaaDoorOn19
import Derived.KernelRfl
import Derived.Test.YtgnkomiicpahcaaDoorProg
set_option linter.unusedVariables false
set_option linter.unusedSimpArgs false
set_option maxRecDepth 100000
set_option maxHeartbeats 0
set_option linter.unusedVariables false
namespace Go.G
open Go.Proofs

-- 4 ratoon/ratoonlaw19.MessageSenders
def F4 (fu : Nat) : AFn C19 := ⟨(.seq (.reg false [⟨(some 4), none, (.box (.t 1))⟩, ⟨(some 6), none, (.move (.c (.one (.d (.bool false)))))⟩] []) (.seq (.seq (.reg false [⟨(some 8), none, (.call 10 [])⟩, ⟨(some 9), none, (.not (.t 8))⟩, ⟨(some 10), none, (.move (.t 9))⟩, ⟨(some 11), (some (10, false)), (.faddr 8 (.t 4))⟩, ⟨(some 12), (some (10, false)), (.load 1 false (.t 11))⟩, ⟨(some 13), (some (10, false)), (.len (.t 12))⟩, ⟨(some 14), (some (10, false)), (.bin .gtr (.t 13) (.c (.one (.d (.int .i64 2000)))))⟩, ⟨(some 15), none, (.or (.t 10) (.t 14))⟩] []) (.cond (.t 15) (.seq (.reg false [⟨(some 16), none, (.call 10 [])⟩, ⟨(some 6), none, (.move (.t 16))⟩] []) .ret) .skip)) (.seq (.reg false [⟨(some 17), none, (.load 9 true (.t 4))⟩, ⟨(some 18), none, (.build [(.d (.int .i64 0)), (.d (.int .i64 0)), (.d (.int .i64 0)), (.d (.int .i64 0)), (.d (.int .i64 0)), (.d (.int .i64 0)), (.d (.int .i64 0)), (.d (.int .i64 0)), (.d (.int .i64 0)), (.d (.int .i64 0)), (.d (.int .i64 0)), (.d (.int .i64 0)), (.d (.int .i64 0)), .nl, .nl] [(0, (1, (.c (.one (.d (.int .i64 1)))))), (5, (9, (.t 17)))])⟩, ⟨(some 7), none, (.alloc [(.d (.int .i64 0)), (.d (.int .i64 0)), (.d (.int .i64 0)), (.d (.int .i64 0)), (.d (.int .i64 0)), (.d (.int .i64 0)), (.d (.int .i64 0)), (.d (.int .i64 0)), (.d (.int .i64 0)), (.d (.int .i64 0)), (.d (.int .i64 0)), (.d (.int .i64 0)), (.d (.int .i64 0)), .nl, .nl])⟩, ⟨none, none, (.store 15 (.t 7) (.t 18))⟩] []) (.seq (.reg false [⟨(some 19), none, (.move (.t 2))⟩, ⟨(some 20), none, (.bin .rem (.t 19) (.c (.one (.d (.int .u8 5)))))⟩, ⟨(some 21), none, (.conv .i64 (.t 20))⟩, ⟨(some 22), none, (.bin .add (.c (.one (.d (.int .i64 1)))) (.t 21))⟩, ⟨(some 23), none, (.faddr 5 (.t 7))⟩, ⟨(some 24), none, (.faddr 2 (.t 23))⟩, ⟨none, none, (.store 1 (.t 24) (.t 22))⟩] []) (.seq (.reg false [⟨(some 25), none, (.move (.t 0))⟩, ⟨(some 26), none, (.load 15 true (.t 7))⟩, ⟨(some 27), none, (.call 15 [(.t 25), (.t 26)])⟩, ⟨(some 28), none, (.not (.t 27))⟩, ⟨(some 6), none, (.move (.t 28))⟩] []) .ret))))), 29, [(.t 6)]⟩
theorem g4 (fu : Nat) : GoodR Tryd.prog cu19 29 (F4 fu).pc := (.seq .triv (.seq (.seq .triv (.cond (.seq .triv .triv) .triv)) (.seq .triv (.seq .triv (.seq .triv .triv)))))
theorem x4 : (fun fu : Nat => compFn Tryd.prog cu19 4) = fun fu => some (eraseFn (F4 fu)) := by kernel_rfl
theorem y4 (fu : Nat) : TextOK Tryd.prog cu19 4 (F4 fu) := ⟨congrFun x4 fu, (g4 fu).good, by kernel_rfl⟩
abbrev A4 : List (Lp C19) := [(.one (.int .i64)), (.agg [(.int .i64), (.int .i64), (.int .i64), (.int .i64), (.int .i64), (.int .i64), (.int .i64), (.int .i64), (.sl U19.u8)]), (.one (.int .u8))]
abbrev R4 : List (Lp C19) := [(.one .bool)]
def s4 (fu : Nat) (a0 : Int) (a1_Src : Int) (a1_Dst : Int) (a1_Kind : Int) (a1_Seq : Int) (a1_Args_0 : Int) (a1_Args_1 : Int) (a1_Args_2 : Int) (a1_Args_3 : Int) (a1_Data : List Int) (a2 : Int) : Option (Bool × Unit) := (match (s10 fu) with | .none => none | .some y0 => (bif (bif y0.1 then false else true) then (match (s10 fu) with | .none => none | .some y3 => (some (y3.1, ()))) else (bif (ilt 2000 (dlen a1_Data)) then (match (s10 fu) with | .none => none | .some y2 => (some (y2.1, ()))) else (bif (ieq 5 0) then none else (match (s15 fu a0 1 0 0 0 0 a1_Src a1_Dst (iadd .i64 1 (iwrap .i64 (irem .u8 a2 5))) a1_Seq a1_Args_0 a1_Args_1 a1_Args_2 a1_Args_3 a1_Data []) with | .none => none | .some y1 => (some ((bif y1.1 then false else true), ())))))))
def k4 (fu : Nat) : tyL A4 → Option (tyL R4) := fun x => s4 fu x.1 x.2.1.1 x.2.1.2.1 x.2.1.2.2.1 x.2.1.2.2.2.1 x.2.1.2.2.2.2.1 x.2.1.2.2.2.2.2.1 x.2.1.2.2.2.2.2.2.1 x.2.1.2.2.2.2.2.2.2.1 x.2.1.2.2.2.2.2.2.2.2.1 x.2.2.1
def ents19_4 (fu : Nat) : List (FuncId × Ent C19) := [
  (10, .con (conD A10 R10 (k10 fu))),
  (15, .con (conD A15 R15 (k15 fu)))]
theorem e4 (fu : Nat) : EntsR Tryd.prog cu19 (ents19_4 fu) := (.cons (c10 fu) (.cons (c15 fu) .nil))
theorem z4 : (fun (fu : Nat) x => evFn (callH (ents19_4 fu) 12) LIM (F4 fu) (embPs A4 x) [] 0 (finR R4)) = fun fu => k4 fu := by kernel_rfl
theorem d4 (fu : Nat) : DataOK Tryd.prog 4 A4 R4 (k4 fu) := data_of_ev (y4 fu) (callH_sound (e4 fu).ok 12) LIM (congrFun z4 fu)
theorem c4 (fu : Nat) : ConOK Tryd.prog 4 (conD A4 R4 (k4 fu)) := con_of_data (by kernel_rfl) (d4 fu) (dataL R4 rfl)
end Go.G
