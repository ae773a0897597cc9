/-
  No cell of these rows narrows 'for every input' (looked for: loops, veiled, ifaces, maps, wideKeys, modest, calm, conditions, laid).
  DERIVED. THE GIVEN ROWS OF THIS SEAT. 6 by the template 'for every input the law returns true; each argument reads behind the call as it read before'; 0 by the template 'total and deterministic' (their statements: YtbldiioafmcbmaaTotals.lean).
  GIVEN WITH THE SEED: the statements are not yours to turn. If you find one false, say at which input.
  Laid BY PROGRAM, IN A SANDBOX (cutbox-rows.mjs): the forced cells as the released guide's own fill.sh prints them over the translation 6a0f80b9e95d6449… (all of the seat's roots in one cut). By AI agents, Wed Nov 11 2026. No macro, syntax, notation, axiom, sorry.
-/
import Derived.Test.YtbldiioafmcbmaaChecked
import GoSem.Claim
import GoSem.ClaimJoined
import GoSem.ClaimMapViews
import Derived.JoinedTies
import Derived.KernelRfl
namespace Go.Proofs.Ytbldiioafmcbmaa
/- THE CELL 'sum', in the pinned program and in every row, IS THE sha256 OF THE DUMP (.gsa) THAT YtbldiioafmcbmaaProg.lean LOADS. Nothing in Lean hashes anything: it is a label: what it is worth is what the hold of that sum in a sandbox is worth. -/
noncomputable def Try.pinned : Pinned := { name := "ytbldiioafmcbmaa", sum := "6a0f80b9e95d64490bf5d4584aa9f6c10aaa7046c340a1827ff29a3472eba306", checked := Try.checked }
namespace Rows
def none {H : Type} : Left H := { results := [], args := [] }

/-- 'ratoonlaw14.ClockTick': WHATEVER THE INPUT: true; the input reads as it did. -/
def clockTickSpec : ChangeSpec := { name := "clockTick", fn := fun _ => fun
  | [d] => { results := [.lit (.bool true)], args := [d] }
  | _ => none }
def clockTickRow : OpenClaim := { program := "ytbldiioafmcbmaa", sum := "6a0f80b9e95d64490bf5d4584aa9f6c10aaa7046c340a1827ff29a3472eba306", func := "ratoon/ratoonlaw14.ClockTick", spec := "clockTick", inPlace := ["slices.overlaps[ratoon/clock.Alarm]"], unfollowed := true, recurses := true, apart := false }
def ClockTickSaid : Prop := clockTickRow.holds Try.pinned (OpenSpec.ofChange clockTickSpec)

/-- ITS FALSE NEIGHBOUR: 'it returns false'. Refute it at one input. -/
def clockTickWrong : ChangeSpec := { name := "clockTick", fn := fun _ => fun
  | [d] => { results := [.lit (.bool false)], args := [d] }
  | _ => none }
def ClockTickWrongFalsely : Prop := clockTickRow.holds Try.pinned (OpenSpec.ofChange clockTickWrong)

/-- 'ratoonlaw14.ClockOnce': WHATEVER THE INPUT: true; the input reads as it did. -/
def clockOnceSpec : ChangeSpec := { name := "clockOnce", fn := fun _ => fun
  | [d1, d2, d3] => { results := [.lit (.bool true)], args := [d1, d2, d3] }
  | _ => none }
def clockOnceRow : OpenClaim := { program := "ytbldiioafmcbmaa", sum := "6a0f80b9e95d64490bf5d4584aa9f6c10aaa7046c340a1827ff29a3472eba306", func := "ratoon/ratoonlaw14.ClockOnce", spec := "clockOnce", inPlace := ["slices.overlaps[ratoon/clock.Alarm]"], unfollowed := true, recurses := true, apart := false }
def ClockOnceSaid : Prop := clockOnceRow.holds Try.pinned (OpenSpec.ofChange clockOnceSpec)

/-- ITS FALSE NEIGHBOUR: 'it returns false'. Refute it at one input. -/
def clockOnceWrong : ChangeSpec := { name := "clockOnce", fn := fun _ => fun
  | [d1, d2, d3] => { results := [.lit (.bool false)], args := [d1, d2, d3] }
  | _ => none }
def ClockOnceWrongFalsely : Prop := clockOnceRow.holds Try.pinned (OpenSpec.ofChange clockOnceWrong)

/-- 'ratoonlaw14.ClockSet': WHATEVER THE INPUT: true; the input reads as it did. -/
def clockSetSpec : ChangeSpec := { name := "clockSet", fn := fun _ => fun
  | [d1, d2, d3] => { results := [.lit (.bool true)], args := [d1, d2, d3] }
  | _ => none }
def clockSetRow : OpenClaim := { program := "ytbldiioafmcbmaa", sum := "6a0f80b9e95d64490bf5d4584aa9f6c10aaa7046c340a1827ff29a3472eba306", func := "ratoon/ratoonlaw14.ClockSet", spec := "clockSet", inPlace := ["slices.overlaps[ratoon/clock.Alarm]"], unfollowed := true, recurses := true, apart := false }
def ClockSetSaid : Prop := clockSetRow.holds Try.pinned (OpenSpec.ofChange clockSetSpec)

/-- ITS FALSE NEIGHBOUR: 'it returns false'. Refute it at one input. -/
def clockSetWrong : ChangeSpec := { name := "clockSet", fn := fun _ => fun
  | [d1, d2, d3] => { results := [.lit (.bool false)], args := [d1, d2, d3] }
  | _ => none }
def ClockSetWrongFalsely : Prop := clockSetRow.holds Try.pinned (OpenSpec.ofChange clockSetWrong)

/-- 'ratoonlaw14.ClockNext': WHATEVER THE INPUT: true; the input reads as it did. -/
def clockNextSpec : ChangeSpec := { name := "clockNext", fn := fun _ => fun
  | [d] => { results := [.lit (.bool true)], args := [d] }
  | _ => none }
def clockNextRow : OpenClaim := { program := "ytbldiioafmcbmaa", sum := "6a0f80b9e95d64490bf5d4584aa9f6c10aaa7046c340a1827ff29a3472eba306", func := "ratoon/ratoonlaw14.ClockNext", spec := "clockNext", inPlace := ["slices.overlaps[ratoon/clock.Alarm]"], unfollowed := true, recurses := true, apart := false }
def ClockNextSaid : Prop := clockNextRow.holds Try.pinned (OpenSpec.ofChange clockNextSpec)

/-- ITS FALSE NEIGHBOUR: 'it returns false'. Refute it at one input. -/
def clockNextWrong : ChangeSpec := { name := "clockNext", fn := fun _ => fun
  | [d] => { results := [.lit (.bool false)], args := [d] }
  | _ => none }
def ClockNextWrongFalsely : Prop := clockNextRow.holds Try.pinned (OpenSpec.ofChange clockNextWrong)

/-- 'ratoonlaw14.ClockOthers': WHATEVER THE INPUT: true; the input reads as it did. -/
def clockOthersSpec : ChangeSpec := { name := "clockOthers", fn := fun _ => fun
  | [d1, d2, d3] => { results := [.lit (.bool true)], args := [d1, d2, d3] }
  | _ => none }
def clockOthersRow : OpenClaim := { program := "ytbldiioafmcbmaa", sum := "6a0f80b9e95d64490bf5d4584aa9f6c10aaa7046c340a1827ff29a3472eba306", func := "ratoon/ratoonlaw14.ClockOthers", spec := "clockOthers", inPlace := ["slices.overlaps[ratoon/clock.Alarm]"], unfollowed := true, recurses := true, apart := false }
def ClockOthersSaid : Prop := clockOthersRow.holds Try.pinned (OpenSpec.ofChange clockOthersSpec)

/-- ITS FALSE NEIGHBOUR: 'it returns false'. Refute it at one input. -/
def clockOthersWrong : ChangeSpec := { name := "clockOthers", fn := fun _ => fun
  | [d1, d2, d3] => { results := [.lit (.bool false)], args := [d1, d2, d3] }
  | _ => none }
def ClockOthersWrongFalsely : Prop := clockOthersRow.holds Try.pinned (OpenSpec.ofChange clockOthersWrong)

/-- 'ratoonlaw14.ClockCancel': WHATEVER THE INPUT: true; the input reads as it did. -/
def clockCancelSpec : ChangeSpec := { name := "clockCancel", fn := fun _ => fun
  | [d1, d2] => { results := [.lit (.bool true)], args := [d1, d2] }
  | _ => none }
def clockCancelRow : OpenClaim := { program := "ytbldiioafmcbmaa", sum := "6a0f80b9e95d64490bf5d4584aa9f6c10aaa7046c340a1827ff29a3472eba306", func := "ratoon/ratoonlaw14.ClockCancel", spec := "clockCancel", inPlace := ["slices.overlaps[ratoon/clock.Alarm]"], unfollowed := true, recurses := true, apart := false }
def ClockCancelSaid : Prop := clockCancelRow.holds Try.pinned (OpenSpec.ofChange clockCancelSpec)

/-- ITS FALSE NEIGHBOUR: 'it returns false'. Refute it at one input. -/
def clockCancelWrong : ChangeSpec := { name := "clockCancel", fn := fun _ => fun
  | [d1, d2] => { results := [.lit (.bool false)], args := [d1, d2] }
  | _ => none }
def ClockCancelWrongFalsely : Prop := clockCancelRow.holds Try.pinned (OpenSpec.ofChange clockCancelWrong)

/- THE SECOND FORM. 'bulk': how many values and letters a reading holds, each counted each time it is reached (what is shared counts as often as it is met; a slice's spare places count too). A statement '..UptoSaid' is the law's where the arguments, and the package variables that the reading takes, are together of bulk at most 1048576: NARROWER than '..Said'. Prove '..Said' where nothing that the law and all that it calls make is longer than what came in: it says more and counts as full. Else prove '..UptoSaid'. A law counts once. -/
mutual
def uptoBulk {H : Type} : DataW H → Nat
  | .lit (.string bytes) => bytes.length + 1
  | .lit _ => 1
  | .nil => 1
  | .ptr d => uptoBulk d + 1
  | .slice elems spare => uptoBulkAll elems + uptoBulkAll spare + 1
  | .agg parts => uptoBulkAll parts + 1
  | .iface _ d => uptoBulk d + 1
  | .map entries => uptoBulkEntries entries + 1
  | .held _ => 1
def uptoBulkAll {H : Type} : List (DataW H) → Nat
  | [] => 0
  | d :: r => uptoBulk d + uptoBulkAll r
def uptoBulkEntries {H : Type} : List (Lit × DataW H) → Nat
  | [] => 0
  | x :: r => uptoBulkEntry x + uptoBulkEntries r
def uptoBulkEntry {H : Type} : Lit × DataW H → Nat
  | (.string bytes, d) => bytes.length + uptoBulk d + 1
  | (_, d) => uptoBulk d + 1
 end
def uptoSmall : (H : Type) → List (DataW H) → Bool := fun _ ds => decide (uptoBulkAll ds ≤ 1048576)
def OpenSpec.upto (s : _root_.Go.ChangeSpec) : _root_.Go.OpenSpec := { _root_.Go.OpenSpec.ofChange s with cond := some uptoSmall }

/-- 'ratoonlaw14.ClockTick', WHERE WHAT IT READS IS OF BULK AT MOST 1048576: true; the input reads as it did. -/
def clockTickUptoRow : OpenClaim := { program := "ytbldiioafmcbmaa", sum := "6a0f80b9e95d64490bf5d4584aa9f6c10aaa7046c340a1827ff29a3472eba306", func := "ratoon/ratoonlaw14.ClockTick", spec := "clockTick", inPlace := ["slices.overlaps[ratoon/clock.Alarm]"], unfollowed := true, recurses := true, apart := false, narrowed := true }
def ClockTickUptoSaid : Prop := clockTickUptoRow.holds Try.pinned (OpenSpec.upto clockTickSpec)

/-- 'ratoonlaw14.ClockOnce', WHERE WHAT IT READS IS OF BULK AT MOST 1048576: true; the input reads as it did. -/
def clockOnceUptoRow : OpenClaim := { program := "ytbldiioafmcbmaa", sum := "6a0f80b9e95d64490bf5d4584aa9f6c10aaa7046c340a1827ff29a3472eba306", func := "ratoon/ratoonlaw14.ClockOnce", spec := "clockOnce", inPlace := ["slices.overlaps[ratoon/clock.Alarm]"], unfollowed := true, recurses := true, apart := false, narrowed := true }
def ClockOnceUptoSaid : Prop := clockOnceUptoRow.holds Try.pinned (OpenSpec.upto clockOnceSpec)

/-- 'ratoonlaw14.ClockSet', WHERE WHAT IT READS IS OF BULK AT MOST 1048576: true; the input reads as it did. -/
def clockSetUptoRow : OpenClaim := { program := "ytbldiioafmcbmaa", sum := "6a0f80b9e95d64490bf5d4584aa9f6c10aaa7046c340a1827ff29a3472eba306", func := "ratoon/ratoonlaw14.ClockSet", spec := "clockSet", inPlace := ["slices.overlaps[ratoon/clock.Alarm]"], unfollowed := true, recurses := true, apart := false, narrowed := true }
def ClockSetUptoSaid : Prop := clockSetUptoRow.holds Try.pinned (OpenSpec.upto clockSetSpec)

/-- 'ratoonlaw14.ClockNext', WHERE WHAT IT READS IS OF BULK AT MOST 1048576: true; the input reads as it did. -/
def clockNextUptoRow : OpenClaim := { program := "ytbldiioafmcbmaa", sum := "6a0f80b9e95d64490bf5d4584aa9f6c10aaa7046c340a1827ff29a3472eba306", func := "ratoon/ratoonlaw14.ClockNext", spec := "clockNext", inPlace := ["slices.overlaps[ratoon/clock.Alarm]"], unfollowed := true, recurses := true, apart := false, narrowed := true }
def ClockNextUptoSaid : Prop := clockNextUptoRow.holds Try.pinned (OpenSpec.upto clockNextSpec)

/-- 'ratoonlaw14.ClockOthers', WHERE WHAT IT READS IS OF BULK AT MOST 1048576: true; the input reads as it did. -/
def clockOthersUptoRow : OpenClaim := { program := "ytbldiioafmcbmaa", sum := "6a0f80b9e95d64490bf5d4584aa9f6c10aaa7046c340a1827ff29a3472eba306", func := "ratoon/ratoonlaw14.ClockOthers", spec := "clockOthers", inPlace := ["slices.overlaps[ratoon/clock.Alarm]"], unfollowed := true, recurses := true, apart := false, narrowed := true }
def ClockOthersUptoSaid : Prop := clockOthersUptoRow.holds Try.pinned (OpenSpec.upto clockOthersSpec)

/-- 'ratoonlaw14.ClockCancel', WHERE WHAT IT READS IS OF BULK AT MOST 1048576: true; the input reads as it did. -/
def clockCancelUptoRow : OpenClaim := { program := "ytbldiioafmcbmaa", sum := "6a0f80b9e95d64490bf5d4584aa9f6c10aaa7046c340a1827ff29a3472eba306", func := "ratoon/ratoonlaw14.ClockCancel", spec := "clockCancel", inPlace := ["slices.overlaps[ratoon/clock.Alarm]"], unfollowed := true, recurses := true, apart := false, narrowed := true }
def ClockCancelUptoSaid : Prop := clockCancelUptoRow.holds Try.pinned (OpenSpec.upto clockCancelSpec)

end Rows
end Go.Proofs.Ytbldiioafmcbmaa
