/-
  No cell of these rows narrows 'for every input' (looked for: loops, veiled, ifaces, maps, wideKeys, modest, calm, conditions, laid).
  DERIVED. THE GIVEN ROWS OF THIS SEAT. 7 by the template 'for every input the law returns true; each argument reads behind the call as it read before'; 0 by the template 'total and deterministic' (their statements: YtffmffcnfhcgbaaTotals.lean).
  GIVEN WITH THE SEED: the statements are not yours to turn. If you find one false, say at which input.
  Laid BY PROGRAM, IN A SANDBOX (cutbox-rows.mjs): the forced cells as the released guide's own fill.sh prints them over the translation a9cee7c94fb96098… (all of the seat's roots in one cut). By AI agents, Wed Nov 11 2026. No macro, syntax, notation, axiom, sorry.
-/
import Derived.Test.YtffmffcnfhcgbaaChecked
import GoSem.Claim
import GoSem.ClaimJoined
import GoSem.ClaimMapViews
import Derived.JoinedTies
import Derived.KernelRfl
namespace Go.Proofs.Ytffmffcnfhcgbaa
/- THE CELL 'sum', in the pinned program and in every row, IS THE sha256 OF THE DUMP (.gsa) THAT YtffmffcnfhcgbaaProg.lean LOADS. Nothing in Lean hashes anything: it is a label: what it is worth is what the hold of that sum in a sandbox is worth. -/
noncomputable def Try.pinned : Pinned := { name := "ytffmffcnfhcgbaa", sum := "a9cee7c94fb9609839c4be73433480cdfbbe15c5e22699e99e98877e420e7683", checked := Try.checked }
namespace Rows
def none {H : Type} : Left H := { results := [], args := [] }

/-- 'ratoonlaw22.TimersDrop': WHATEVER THE INPUT: true; the input reads as it did. -/
def timersDropSpec : ChangeSpec := { name := "timersDrop", fn := fun _ => fun
  | [d1, d2, d3] => { results := [.lit (.bool true)], args := [d1, d2, d3] }
  | _ => none }
def timersDropRow : OpenClaim := { program := "ytffmffcnfhcgbaa", sum := "a9cee7c94fb9609839c4be73433480cdfbbe15c5e22699e99e98877e420e7683", func := "ratoon/ratoonlaw22.TimersDrop", spec := "timersDrop", inPlace := ["slices.overlaps[ratoon/timers.Timer]"], unfollowed := true, recurses := true, apart := false }
def TimersDropSaid : Prop := timersDropRow.holds Try.pinned (OpenSpec.ofChange timersDropSpec)

/-- ITS FALSE NEIGHBOUR: 'it returns false'. Refute it at one input. -/
def timersDropWrong : ChangeSpec := { name := "timersDrop", fn := fun _ => fun
  | [d1, d2, d3] => { results := [.lit (.bool false)], args := [d1, d2, d3] }
  | _ => none }
def TimersDropWrongFalsely : Prop := timersDropRow.holds Try.pinned (OpenSpec.ofChange timersDropWrong)

/-- 'ratoonlaw22.TimersExpire': WHATEVER THE INPUT: true; the input reads as it did. -/
def timersExpireSpec : ChangeSpec := { name := "timersExpire", fn := fun _ => fun
  | [d1, d2, d3] => { results := [.lit (.bool true)], args := [d1, d2, d3] }
  | _ => none }
def timersExpireRow : OpenClaim := { program := "ytffmffcnfhcgbaa", sum := "a9cee7c94fb9609839c4be73433480cdfbbe15c5e22699e99e98877e420e7683", func := "ratoon/ratoonlaw22.TimersExpire", spec := "timersExpire", inPlace := ["slices.overlaps[ratoon/timers.Timer]"], unfollowed := true, recurses := true, apart := false }
def TimersExpireSaid : Prop := timersExpireRow.holds Try.pinned (OpenSpec.ofChange timersExpireSpec)

/-- ITS FALSE NEIGHBOUR: 'it returns false'. Refute it at one input. -/
def timersExpireWrong : ChangeSpec := { name := "timersExpire", fn := fun _ => fun
  | [d1, d2, d3] => { results := [.lit (.bool false)], args := [d1, d2, d3] }
  | _ => none }
def TimersExpireWrongFalsely : Prop := timersExpireRow.holds Try.pinned (OpenSpec.ofChange timersExpireWrong)

/-- 'ratoonlaw22.TimersSet': WHATEVER THE INPUT: true; the input reads as it did. -/
def timersSetSpec : ChangeSpec := { name := "timersSet", fn := fun _ => fun
  | [d1, d2] => { results := [.lit (.bool true)], args := [d1, d2] }
  | _ => none }
def timersSetRow : OpenClaim := { program := "ytffmffcnfhcgbaa", sum := "a9cee7c94fb9609839c4be73433480cdfbbe15c5e22699e99e98877e420e7683", func := "ratoon/ratoonlaw22.TimersSet", spec := "timersSet", inPlace := ["slices.overlaps[ratoon/timers.Timer]"], unfollowed := true, recurses := true, apart := false }
def TimersSetSaid : Prop := timersSetRow.holds Try.pinned (OpenSpec.ofChange timersSetSpec)

/-- ITS FALSE NEIGHBOUR: 'it returns false'. Refute it at one input. -/
def timersSetWrong : ChangeSpec := { name := "timersSet", fn := fun _ => fun
  | [d1, d2] => { results := [.lit (.bool false)], args := [d1, d2] }
  | _ => none }
def TimersSetWrongFalsely : Prop := timersSetRow.holds Try.pinned (OpenSpec.ofChange timersSetWrong)

/-- 'ratoonlaw22.TimersOnce': WHATEVER THE INPUT: true; the input reads as it did. -/
def timersOnceSpec : ChangeSpec := { name := "timersOnce", fn := fun _ => fun
  | [d1, d2, d3] => { results := [.lit (.bool true)], args := [d1, d2, d3] }
  | _ => none }
def timersOnceRow : OpenClaim := { program := "ytffmffcnfhcgbaa", sum := "a9cee7c94fb9609839c4be73433480cdfbbe15c5e22699e99e98877e420e7683", func := "ratoon/ratoonlaw22.TimersOnce", spec := "timersOnce", inPlace := ["slices.overlaps[ratoon/timers.Timer]"], unfollowed := true, recurses := true, apart := false }
def TimersOnceSaid : Prop := timersOnceRow.holds Try.pinned (OpenSpec.ofChange timersOnceSpec)

/-- ITS FALSE NEIGHBOUR: 'it returns false'. Refute it at one input. -/
def timersOnceWrong : ChangeSpec := { name := "timersOnce", fn := fun _ => fun
  | [d1, d2, d3] => { results := [.lit (.bool false)], args := [d1, d2, d3] }
  | _ => none }
def TimersOnceWrongFalsely : Prop := timersOnceRow.holds Try.pinned (OpenSpec.ofChange timersOnceWrong)

/-- 'ratoonlaw22.TimersOthers': WHATEVER THE INPUT: true; the input reads as it did. -/
def timersOthersSpec : ChangeSpec := { name := "timersOthers", fn := fun _ => fun
  | [d1, d2] => { results := [.lit (.bool true)], args := [d1, d2] }
  | _ => none }
def timersOthersRow : OpenClaim := { program := "ytffmffcnfhcgbaa", sum := "a9cee7c94fb9609839c4be73433480cdfbbe15c5e22699e99e98877e420e7683", func := "ratoon/ratoonlaw22.TimersOthers", spec := "timersOthers", inPlace := ["slices.overlaps[ratoon/timers.Timer]"], unfollowed := true, recurses := true, apart := false }
def TimersOthersSaid : Prop := timersOthersRow.holds Try.pinned (OpenSpec.ofChange timersOthersSpec)

/-- ITS FALSE NEIGHBOUR: 'it returns false'. Refute it at one input. -/
def timersOthersWrong : ChangeSpec := { name := "timersOthers", fn := fun _ => fun
  | [d1, d2] => { results := [.lit (.bool false)], args := [d1, d2] }
  | _ => none }
def TimersOthersWrongFalsely : Prop := timersOthersRow.holds Try.pinned (OpenSpec.ofChange timersOthersWrong)

/-- 'ratoonlaw22.TimersOrder': WHATEVER THE INPUT: true; the input reads as it did. -/
def timersOrderSpec : ChangeSpec := { name := "timersOrder", fn := fun _ => fun
  | [d1, d2] => { results := [.lit (.bool true)], args := [d1, d2] }
  | _ => none }
def timersOrderRow : OpenClaim := { program := "ytffmffcnfhcgbaa", sum := "a9cee7c94fb9609839c4be73433480cdfbbe15c5e22699e99e98877e420e7683", func := "ratoon/ratoonlaw22.TimersOrder", spec := "timersOrder", inPlace := ["slices.overlaps[ratoon/timers.Timer]"], unfollowed := true, recurses := true, apart := false }
def TimersOrderSaid : Prop := timersOrderRow.holds Try.pinned (OpenSpec.ofChange timersOrderSpec)

/-- ITS FALSE NEIGHBOUR: 'it returns false'. Refute it at one input. -/
def timersOrderWrong : ChangeSpec := { name := "timersOrder", fn := fun _ => fun
  | [d1, d2] => { results := [.lit (.bool false)], args := [d1, d2] }
  | _ => none }
def TimersOrderWrongFalsely : Prop := timersOrderRow.holds Try.pinned (OpenSpec.ofChange timersOrderWrong)

/-- 'ratoonlaw22.TimersNext': WHATEVER THE INPUT: true; the input reads as it did. -/
def timersNextSpec : ChangeSpec := { name := "timersNext", fn := fun _ => fun
  | [d] => { results := [.lit (.bool true)], args := [d] }
  | _ => none }
def timersNextRow : OpenClaim := { program := "ytffmffcnfhcgbaa", sum := "a9cee7c94fb9609839c4be73433480cdfbbe15c5e22699e99e98877e420e7683", func := "ratoon/ratoonlaw22.TimersNext", spec := "timersNext", inPlace := ["slices.overlaps[ratoon/timers.Timer]"], unfollowed := true, recurses := true, apart := false }
def TimersNextSaid : Prop := timersNextRow.holds Try.pinned (OpenSpec.ofChange timersNextSpec)

/-- ITS FALSE NEIGHBOUR: 'it returns false'. Refute it at one input. -/
def timersNextWrong : ChangeSpec := { name := "timersNext", fn := fun _ => fun
  | [d] => { results := [.lit (.bool false)], args := [d] }
  | _ => none }
def TimersNextWrongFalsely : Prop := timersNextRow.holds Try.pinned (OpenSpec.ofChange timersNextWrong)

/- THE SECOND FORM. 'bulk': how many values and letters a reading holds, each counted each time it is reached (what is shared counts as often as it is met; a slice's spare places count too). A statement '..UptoSaid' is the law's where the arguments, and the package variables that the reading takes, are together of bulk at most 1048576: NARROWER than '..Said'. Prove '..Said' where nothing that the law and all that it calls make is longer than what came in: it says more and counts as full. Else prove '..UptoSaid'. A law counts once. -/
mutual
def uptoBulk {H : Type} : DataW H → Nat
  | .lit (.string bytes) => bytes.length + 1
  | .lit _ => 1
  | .nil => 1
  | .ptr d => uptoBulk d + 1
  | .slice elems spare => uptoBulkAll elems + uptoBulkAll spare + 1
  | .agg parts => uptoBulkAll parts + 1
  | .iface _ d => uptoBulk d + 1
  | .map entries => uptoBulkEntries entries + 1
  | .held _ => 1
def uptoBulkAll {H : Type} : List (DataW H) → Nat
  | [] => 0
  | d :: r => uptoBulk d + uptoBulkAll r
def uptoBulkEntries {H : Type} : List (Lit × DataW H) → Nat
  | [] => 0
  | x :: r => uptoBulkEntry x + uptoBulkEntries r
def uptoBulkEntry {H : Type} : Lit × DataW H → Nat
  | (.string bytes, d) => bytes.length + uptoBulk d + 1
  | (_, d) => uptoBulk d + 1
 end
def uptoSmall : (H : Type) → List (DataW H) → Bool := fun _ ds => decide (uptoBulkAll ds ≤ 1048576)
def OpenSpec.upto (s : _root_.Go.ChangeSpec) : _root_.Go.OpenSpec := { _root_.Go.OpenSpec.ofChange s with cond := some uptoSmall }

/-- 'ratoonlaw22.TimersDrop', WHERE WHAT IT READS IS OF BULK AT MOST 1048576: true; the input reads as it did. -/
def timersDropUptoRow : OpenClaim := { program := "ytffmffcnfhcgbaa", sum := "a9cee7c94fb9609839c4be73433480cdfbbe15c5e22699e99e98877e420e7683", func := "ratoon/ratoonlaw22.TimersDrop", spec := "timersDrop", inPlace := ["slices.overlaps[ratoon/timers.Timer]"], unfollowed := true, recurses := true, apart := false, narrowed := true }
def TimersDropUptoSaid : Prop := timersDropUptoRow.holds Try.pinned (OpenSpec.upto timersDropSpec)

/-- 'ratoonlaw22.TimersExpire', WHERE WHAT IT READS IS OF BULK AT MOST 1048576: true; the input reads as it did. -/
def timersExpireUptoRow : OpenClaim := { program := "ytffmffcnfhcgbaa", sum := "a9cee7c94fb9609839c4be73433480cdfbbe15c5e22699e99e98877e420e7683", func := "ratoon/ratoonlaw22.TimersExpire", spec := "timersExpire", inPlace := ["slices.overlaps[ratoon/timers.Timer]"], unfollowed := true, recurses := true, apart := false, narrowed := true }
def TimersExpireUptoSaid : Prop := timersExpireUptoRow.holds Try.pinned (OpenSpec.upto timersExpireSpec)

/-- 'ratoonlaw22.TimersSet', WHERE WHAT IT READS IS OF BULK AT MOST 1048576: true; the input reads as it did. -/
def timersSetUptoRow : OpenClaim := { program := "ytffmffcnfhcgbaa", sum := "a9cee7c94fb9609839c4be73433480cdfbbe15c5e22699e99e98877e420e7683", func := "ratoon/ratoonlaw22.TimersSet", spec := "timersSet", inPlace := ["slices.overlaps[ratoon/timers.Timer]"], unfollowed := true, recurses := true, apart := false, narrowed := true }
def TimersSetUptoSaid : Prop := timersSetUptoRow.holds Try.pinned (OpenSpec.upto timersSetSpec)

/-- 'ratoonlaw22.TimersOnce', WHERE WHAT IT READS IS OF BULK AT MOST 1048576: true; the input reads as it did. -/
def timersOnceUptoRow : OpenClaim := { program := "ytffmffcnfhcgbaa", sum := "a9cee7c94fb9609839c4be73433480cdfbbe15c5e22699e99e98877e420e7683", func := "ratoon/ratoonlaw22.TimersOnce", spec := "timersOnce", inPlace := ["slices.overlaps[ratoon/timers.Timer]"], unfollowed := true, recurses := true, apart := false, narrowed := true }
def TimersOnceUptoSaid : Prop := timersOnceUptoRow.holds Try.pinned (OpenSpec.upto timersOnceSpec)

/-- 'ratoonlaw22.TimersOthers', WHERE WHAT IT READS IS OF BULK AT MOST 1048576: true; the input reads as it did. -/
def timersOthersUptoRow : OpenClaim := { program := "ytffmffcnfhcgbaa", sum := "a9cee7c94fb9609839c4be73433480cdfbbe15c5e22699e99e98877e420e7683", func := "ratoon/ratoonlaw22.TimersOthers", spec := "timersOthers", inPlace := ["slices.overlaps[ratoon/timers.Timer]"], unfollowed := true, recurses := true, apart := false, narrowed := true }
def TimersOthersUptoSaid : Prop := timersOthersUptoRow.holds Try.pinned (OpenSpec.upto timersOthersSpec)

/-- 'ratoonlaw22.TimersOrder', WHERE WHAT IT READS IS OF BULK AT MOST 1048576: true; the input reads as it did. -/
def timersOrderUptoRow : OpenClaim := { program := "ytffmffcnfhcgbaa", sum := "a9cee7c94fb9609839c4be73433480cdfbbe15c5e22699e99e98877e420e7683", func := "ratoon/ratoonlaw22.TimersOrder", spec := "timersOrder", inPlace := ["slices.overlaps[ratoon/timers.Timer]"], unfollowed := true, recurses := true, apart := false, narrowed := true }
def TimersOrderUptoSaid : Prop := timersOrderUptoRow.holds Try.pinned (OpenSpec.upto timersOrderSpec)

/-- 'ratoonlaw22.TimersNext', WHERE WHAT IT READS IS OF BULK AT MOST 1048576: true; the input reads as it did. -/
def timersNextUptoRow : OpenClaim := { program := "ytffmffcnfhcgbaa", sum := "a9cee7c94fb9609839c4be73433480cdfbbe15c5e22699e99e98877e420e7683", func := "ratoon/ratoonlaw22.TimersNext", spec := "timersNext", inPlace := ["slices.overlaps[ratoon/timers.Timer]"], unfollowed := true, recurses := true, apart := false, narrowed := true }
def TimersNextUptoSaid : Prop := timersNextUptoRow.holds Try.pinned (OpenSpec.upto timersNextSpec)

end Rows
end Go.Proofs.Ytffmffcnfhcgbaa
