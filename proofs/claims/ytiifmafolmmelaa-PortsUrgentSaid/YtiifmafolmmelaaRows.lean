/-
  No cell of these rows narrows 'for every input' (looked for: loops, veiled, ifaces, maps, wideKeys, modest, calm, conditions, laid).
  DERIVED. THE GIVEN ROWS OF THIS SEAT. 6 by the template 'for every input the law returns true; each argument reads behind the call as it read before'; 0 by the template 'total and deterministic' (their statements: YtiifmafolmmelaaTotals.lean).
  GIVEN WITH THE SEED: the statements are not yours to turn. If you find one false, say at which input.
  Laid BY PROGRAM, IN A SANDBOX (cutbox-rows.mjs): the forced cells as the released guide's own fill.sh prints them over the translation c29d71e071bce62b… (all of the seat's roots in one cut). By AI agents, Wed Nov 11 2026. No macro, syntax, notation, axiom, sorry.
-/
import Derived.Test.YtiifmafolmmelaaChecked
import GoSem.Claim
import GoSem.ClaimJoined
import GoSem.ClaimMapViews
import Derived.JoinedTies
import Derived.KernelRfl
namespace Go.Proofs.Ytiifmafolmmelaa
/- THE CELL 'sum', in the pinned program and in every row, IS THE sha256 OF THE DUMP (.gsa) THAT YtiifmafolmmelaaProg.lean LOADS. Nothing in Lean hashes anything: it is a label: what it is worth is what the hold of that sum in a sandbox is worth. -/
noncomputable def Try.pinned : Pinned := { name := "ytiifmafolmmelaa", sum := "c29d71e071bce62b681573679e72a04ae68012f794bef06d2c46673e56ed437b", checked := Try.checked }
namespace Rows
def none {H : Type} : Left H := { results := [], args := [] }

/-- 'ratoonlaw20.PortsOrder': WHATEVER THE INPUT: true; the input reads as it did. -/
def portsOrderSpec : ChangeSpec := { name := "portsOrder", fn := fun _ => fun
  | [d] => { results := [.lit (.bool true)], args := [d] }
  | _ => none }
def portsOrderRow : OpenClaim := { program := "ytiifmafolmmelaa", sum := "c29d71e071bce62b681573679e72a04ae68012f794bef06d2c46673e56ed437b", func := "ratoon/ratoonlaw20.PortsOrder", spec := "portsOrder", inPlace := ["slices.overlaps[ratoon/ports.Pair]"], unfollowed := true, recurses := true, plainKeys := false, apart := false }
def PortsOrderSaid : Prop := portsOrderRow.holds Try.pinned (OpenSpec.ofChange portsOrderSpec)

/-- ITS FALSE NEIGHBOUR: 'it returns false'. Refute it at one input. -/
def portsOrderWrong : ChangeSpec := { name := "portsOrder", fn := fun _ => fun
  | [d] => { results := [.lit (.bool false)], args := [d] }
  | _ => none }
def PortsOrderWrongFalsely : Prop := portsOrderRow.holds Try.pinned (OpenSpec.ofChange portsOrderWrong)

/-- 'ratoonlaw20.PortsUndo': WHATEVER THE INPUT: true; the input reads as it did. -/
def portsUndoSpec : ChangeSpec := { name := "portsUndo", fn := fun _ => fun
  | [d1, d2] => { results := [.lit (.bool true)], args := [d1, d2] }
  | _ => none }
def portsUndoRow : OpenClaim := { program := "ytiifmafolmmelaa", sum := "c29d71e071bce62b681573679e72a04ae68012f794bef06d2c46673e56ed437b", func := "ratoon/ratoonlaw20.PortsUndo", spec := "portsUndo", inPlace := ["slices.overlaps[ratoon/ports.Pair]"], unfollowed := true, recurses := true, plainKeys := false, apart := false }
def PortsUndoSaid : Prop := portsUndoRow.holds Try.pinned (OpenSpec.ofChange portsUndoSpec)

/-- ITS FALSE NEIGHBOUR: 'it returns false'. Refute it at one input. -/
def portsUndoWrong : ChangeSpec := { name := "portsUndo", fn := fun _ => fun
  | [d1, d2] => { results := [.lit (.bool false)], args := [d1, d2] }
  | _ => none }
def PortsUndoWrongFalsely : Prop := portsUndoRow.holds Try.pinned (OpenSpec.ofChange portsUndoWrong)

/-- 'ratoonlaw20.PortsValues': WHATEVER THE INPUT: true; the input reads as it did. -/
def portsValuesSpec : ChangeSpec := { name := "portsValues", fn := fun _ => fun
  | [d] => { results := [.lit (.bool true)], args := [d] }
  | _ => none }
def portsValuesRow : OpenClaim := { program := "ytiifmafolmmelaa", sum := "c29d71e071bce62b681573679e72a04ae68012f794bef06d2c46673e56ed437b", func := "ratoon/ratoonlaw20.PortsValues", spec := "portsValues", inPlace := ["slices.overlaps[ratoon/ports.Pair]"], unfollowed := true, recurses := true, plainKeys := false, apart := false }
def PortsValuesSaid : Prop := portsValuesRow.holds Try.pinned (OpenSpec.ofChange portsValuesSpec)

/-- ITS FALSE NEIGHBOUR: 'it returns false'. Refute it at one input. -/
def portsValuesWrong : ChangeSpec := { name := "portsValues", fn := fun _ => fun
  | [d] => { results := [.lit (.bool false)], args := [d] }
  | _ => none }
def PortsValuesWrongFalsely : Prop := portsValuesRow.holds Try.pinned (OpenSpec.ofChange portsValuesWrong)

/-- 'ratoonlaw20.PortsOthers': WHATEVER THE INPUT: true; the input reads as it did. -/
def portsOthersSpec : ChangeSpec := { name := "portsOthers", fn := fun _ => fun
  | [d1, d2, d3] => { results := [.lit (.bool true)], args := [d1, d2, d3] }
  | _ => none }
def portsOthersRow : OpenClaim := { program := "ytiifmafolmmelaa", sum := "c29d71e071bce62b681573679e72a04ae68012f794bef06d2c46673e56ed437b", func := "ratoon/ratoonlaw20.PortsOthers", spec := "portsOthers", inPlace := ["slices.overlaps[ratoon/ports.Pair]"], unfollowed := true, recurses := true, plainKeys := false, apart := false }
def PortsOthersSaid : Prop := portsOthersRow.holds Try.pinned (OpenSpec.ofChange portsOthersSpec)

/-- ITS FALSE NEIGHBOUR: 'it returns false'. Refute it at one input. -/
def portsOthersWrong : ChangeSpec := { name := "portsOthers", fn := fun _ => fun
  | [d1, d2, d3] => { results := [.lit (.bool false)], args := [d1, d2, d3] }
  | _ => none }
def PortsOthersWrongFalsely : Prop := portsOthersRow.holds Try.pinned (OpenSpec.ofChange portsOthersWrong)

/-- 'ratoonlaw20.PortsUrgent': WHATEVER THE INPUT: true; the input reads as it did. -/
def portsUrgentSpec : ChangeSpec := { name := "portsUrgent", fn := fun _ => fun
  | [d1, d2] => { results := [.lit (.bool true)], args := [d1, d2] }
  | _ => none }
def portsUrgentRow : OpenClaim := { program := "ytiifmafolmmelaa", sum := "c29d71e071bce62b681573679e72a04ae68012f794bef06d2c46673e56ed437b", func := "ratoon/ratoonlaw20.PortsUrgent", spec := "portsUrgent", inPlace := ["slices.overlaps[ratoon/ports.Pair]", "slices.overlaps[ratoon/api.Msg]"], unfollowed := true, recurses := true, plainKeys := false, apart := false }
def PortsUrgentSaid : Prop := portsUrgentRow.holds Try.pinned (OpenSpec.ofChange portsUrgentSpec)

/-- ITS FALSE NEIGHBOUR: 'it returns false'. Refute it at one input. -/
def portsUrgentWrong : ChangeSpec := { name := "portsUrgent", fn := fun _ => fun
  | [d1, d2] => { results := [.lit (.bool false)], args := [d1, d2] }
  | _ => none }
def PortsUrgentWrongFalsely : Prop := portsUrgentRow.holds Try.pinned (OpenSpec.ofChange portsUrgentWrong)

/-- 'ratoonlaw20.PortsSend': WHATEVER THE INPUT: true; the input reads as it did. -/
def portsSendSpec : ChangeSpec := { name := "portsSend", fn := fun _ => fun
  | [d1, d2] => { results := [.lit (.bool true)], args := [d1, d2] }
  | _ => none }
def portsSendRow : OpenClaim := { program := "ytiifmafolmmelaa", sum := "c29d71e071bce62b681573679e72a04ae68012f794bef06d2c46673e56ed437b", func := "ratoon/ratoonlaw20.PortsSend", spec := "portsSend", inPlace := ["slices.overlaps[ratoon/ports.Pair]"], unfollowed := true, recurses := true, plainKeys := false, apart := false }
def PortsSendSaid : Prop := portsSendRow.holds Try.pinned (OpenSpec.ofChange portsSendSpec)

/-- ITS FALSE NEIGHBOUR: 'it returns false'. Refute it at one input. -/
def portsSendWrong : ChangeSpec := { name := "portsSend", fn := fun _ => fun
  | [d1, d2] => { results := [.lit (.bool false)], args := [d1, d2] }
  | _ => none }
def PortsSendWrongFalsely : Prop := portsSendRow.holds Try.pinned (OpenSpec.ofChange portsSendWrong)

/- THE SECOND FORM. 'bulk': how many values and letters a reading holds, each counted each time it is reached (what is shared counts as often as it is met; a slice's spare places count too). A statement '..UptoSaid' is the law's where the arguments, and the package variables that the reading takes, are together of bulk at most 1048576: NARROWER than '..Said'. Prove '..Said' where nothing that the law and all that it calls make is longer than what came in: it says more and counts as full. Else prove '..UptoSaid'. A law counts once. -/
mutual
def uptoBulk {H : Type} : DataW H → Nat
  | .lit (.string bytes) => bytes.length + 1
  | .lit _ => 1
  | .nil => 1
  | .ptr d => uptoBulk d + 1
  | .slice elems spare => uptoBulkAll elems + uptoBulkAll spare + 1
  | .agg parts => uptoBulkAll parts + 1
  | .iface _ d => uptoBulk d + 1
  | .map entries => uptoBulkEntries entries + 1
  | .held _ => 1
def uptoBulkAll {H : Type} : List (DataW H) → Nat
  | [] => 0
  | d :: r => uptoBulk d + uptoBulkAll r
def uptoBulkEntries {H : Type} : List (Lit × DataW H) → Nat
  | [] => 0
  | x :: r => uptoBulkEntry x + uptoBulkEntries r
def uptoBulkEntry {H : Type} : Lit × DataW H → Nat
  | (.string bytes, d) => bytes.length + uptoBulk d + 1
  | (_, d) => uptoBulk d + 1
 end
def uptoSmall : (H : Type) → List (DataW H) → Bool := fun _ ds => decide (uptoBulkAll ds ≤ 1048576)
def OpenSpec.upto (s : _root_.Go.ChangeSpec) : _root_.Go.OpenSpec := { _root_.Go.OpenSpec.ofChange s with cond := some uptoSmall }

/-- 'ratoonlaw20.PortsOrder', WHERE WHAT IT READS IS OF BULK AT MOST 1048576: true; the input reads as it did. -/
def portsOrderUptoRow : OpenClaim := { program := "ytiifmafolmmelaa", sum := "c29d71e071bce62b681573679e72a04ae68012f794bef06d2c46673e56ed437b", func := "ratoon/ratoonlaw20.PortsOrder", spec := "portsOrder", inPlace := ["slices.overlaps[ratoon/ports.Pair]"], unfollowed := true, recurses := true, plainKeys := false, apart := false, narrowed := true }
def PortsOrderUptoSaid : Prop := portsOrderUptoRow.holds Try.pinned (OpenSpec.upto portsOrderSpec)

/-- 'ratoonlaw20.PortsUndo', WHERE WHAT IT READS IS OF BULK AT MOST 1048576: true; the input reads as it did. -/
def portsUndoUptoRow : OpenClaim := { program := "ytiifmafolmmelaa", sum := "c29d71e071bce62b681573679e72a04ae68012f794bef06d2c46673e56ed437b", func := "ratoon/ratoonlaw20.PortsUndo", spec := "portsUndo", inPlace := ["slices.overlaps[ratoon/ports.Pair]"], unfollowed := true, recurses := true, plainKeys := false, apart := false, narrowed := true }
def PortsUndoUptoSaid : Prop := portsUndoUptoRow.holds Try.pinned (OpenSpec.upto portsUndoSpec)

/-- 'ratoonlaw20.PortsValues', WHERE WHAT IT READS IS OF BULK AT MOST 1048576: true; the input reads as it did. -/
def portsValuesUptoRow : OpenClaim := { program := "ytiifmafolmmelaa", sum := "c29d71e071bce62b681573679e72a04ae68012f794bef06d2c46673e56ed437b", func := "ratoon/ratoonlaw20.PortsValues", spec := "portsValues", inPlace := ["slices.overlaps[ratoon/ports.Pair]"], unfollowed := true, recurses := true, plainKeys := false, apart := false, narrowed := true }
def PortsValuesUptoSaid : Prop := portsValuesUptoRow.holds Try.pinned (OpenSpec.upto portsValuesSpec)

/-- 'ratoonlaw20.PortsOthers', WHERE WHAT IT READS IS OF BULK AT MOST 1048576: true; the input reads as it did. -/
def portsOthersUptoRow : OpenClaim := { program := "ytiifmafolmmelaa", sum := "c29d71e071bce62b681573679e72a04ae68012f794bef06d2c46673e56ed437b", func := "ratoon/ratoonlaw20.PortsOthers", spec := "portsOthers", inPlace := ["slices.overlaps[ratoon/ports.Pair]"], unfollowed := true, recurses := true, plainKeys := false, apart := false, narrowed := true }
def PortsOthersUptoSaid : Prop := portsOthersUptoRow.holds Try.pinned (OpenSpec.upto portsOthersSpec)

/-- 'ratoonlaw20.PortsUrgent', WHERE WHAT IT READS IS OF BULK AT MOST 1048576: true; the input reads as it did. -/
def portsUrgentUptoRow : OpenClaim := { program := "ytiifmafolmmelaa", sum := "c29d71e071bce62b681573679e72a04ae68012f794bef06d2c46673e56ed437b", func := "ratoon/ratoonlaw20.PortsUrgent", spec := "portsUrgent", inPlace := ["slices.overlaps[ratoon/ports.Pair]", "slices.overlaps[ratoon/api.Msg]"], unfollowed := true, recurses := true, plainKeys := false, apart := false, narrowed := true }
def PortsUrgentUptoSaid : Prop := portsUrgentUptoRow.holds Try.pinned (OpenSpec.upto portsUrgentSpec)

/-- 'ratoonlaw20.PortsSend', WHERE WHAT IT READS IS OF BULK AT MOST 1048576: true; the input reads as it did. -/
def portsSendUptoRow : OpenClaim := { program := "ytiifmafolmmelaa", sum := "c29d71e071bce62b681573679e72a04ae68012f794bef06d2c46673e56ed437b", func := "ratoon/ratoonlaw20.PortsSend", spec := "portsSend", inPlace := ["slices.overlaps[ratoon/ports.Pair]"], unfollowed := true, recurses := true, plainKeys := false, apart := false, narrowed := true }
def PortsSendUptoSaid : Prop := portsSendUptoRow.holds Try.pinned (OpenSpec.upto portsSendSpec)

end Rows
end Go.Proofs.Ytiifmafolmmelaa
