/-
  No cell of these rows narrows 'for every input' (looked for: loops, veiled, ifaces, maps, wideKeys, modest, calm, conditions, laid).
  DERIVED. THE GIVEN ROWS OF THIS SEAT. 8 by the template 'for every input the law returns true; each argument reads behind the call as it read before'; 0 by the template 'total and deterministic' (their statements: YtmhleddbamfheaaTotals.lean).
  GIVEN WITH THE SEED: the statements are not yours to turn. If you find one false, say at which input.
  Laid BY PROGRAM, IN A SANDBOX (cutbox-rows.mjs): the forced cells as the released guide's own fill.sh prints them over the translation 5e69a571263c8c19… (all of the seat's roots in one cut). By AI agents, Wed Nov 11 2026. No macro, syntax, notation, axiom, sorry.
-/
import Derived.Test.YtmhleddbamfheaaChecked
import GoSem.Claim
import GoSem.ClaimJoined
import GoSem.ClaimMapViews
import Derived.JoinedTies
import Derived.KernelRfl
namespace Go.Proofs.Ytmhleddbamfheaa
/- THE CELL 'sum', in the pinned program and in every row, IS THE sha256 OF THE DUMP (.gsa) THAT YtmhleddbamfheaaProg.lean LOADS. Nothing in Lean hashes anything: it is a label: what it is worth is what the hold of that sum in a sandbox is worth. -/
noncomputable def Try.pinned : Pinned := { name := "ytmhleddbamfheaa", sum := "5e69a571263c8c196aea1734eefac96bbdf4840c1ad99d578288fc55b23a4c68", checked := Try.checked }
namespace Rows
def none {H : Type} : Left H := { results := [], args := [] }

/-- 'ratoonlaw18.CapsBoot': WHATEVER THE INPUT: true; the input reads as it did. -/
def capsBootSpec : ChangeSpec := { name := "capsBoot", fn := fun _ => fun
  | [d1, d2] => { results := [.lit (.bool true)], args := [d1, d2] }
  | _ => none }
def capsBootRow : OpenClaim := { program := "ytmhleddbamfheaa", sum := "5e69a571263c8c196aea1734eefac96bbdf4840c1ad99d578288fc55b23a4c68", func := "ratoon/ratoonlaw18.CapsBoot", spec := "capsBoot", unfollowed := true, recurses := true, plainKeys := false, apart := false }
def CapsBootSaid : Prop := capsBootRow.holds Try.pinned (OpenSpec.ofChange capsBootSpec)

/-- ITS FALSE NEIGHBOUR: 'it returns false'. Refute it at one input. -/
def capsBootWrong : ChangeSpec := { name := "capsBoot", fn := fun _ => fun
  | [d1, d2] => { results := [.lit (.bool false)], args := [d1, d2] }
  | _ => none }
def CapsBootWrongFalsely : Prop := capsBootRow.holds Try.pinned (OpenSpec.ofChange capsBootWrong)

/-- 'ratoonlaw18.CapsTasks': WHATEVER THE INPUT: true; the input reads as it did. -/
def capsTasksSpec : ChangeSpec := { name := "capsTasks", fn := fun _ => fun
  | [d1, d2, d3] => { results := [.lit (.bool true)], args := [d1, d2, d3] }
  | _ => none }
def capsTasksRow : OpenClaim := { program := "ytmhleddbamfheaa", sum := "5e69a571263c8c196aea1734eefac96bbdf4840c1ad99d578288fc55b23a4c68", func := "ratoon/ratoonlaw18.CapsTasks", spec := "capsTasks", unfollowed := true, recurses := true, plainKeys := false, apart := false }
def CapsTasksSaid : Prop := capsTasksRow.holds Try.pinned (OpenSpec.ofChange capsTasksSpec)

/-- ITS FALSE NEIGHBOUR: 'it returns false'. Refute it at one input. -/
def capsTasksWrong : ChangeSpec := { name := "capsTasks", fn := fun _ => fun
  | [d1, d2, d3] => { results := [.lit (.bool false)], args := [d1, d2, d3] }
  | _ => none }
def CapsTasksWrongFalsely : Prop := capsTasksRow.holds Try.pinned (OpenSpec.ofChange capsTasksWrong)

/-- 'ratoonlaw18.CapsTakes': WHATEVER THE INPUT: true; the input reads as it did. -/
def capsTakesSpec : ChangeSpec := { name := "capsTakes", fn := fun _ => fun
  | [d1, d2] => { results := [.lit (.bool true)], args := [d1, d2] }
  | _ => none }
def capsTakesRow : OpenClaim := { program := "ytmhleddbamfheaa", sum := "5e69a571263c8c196aea1734eefac96bbdf4840c1ad99d578288fc55b23a4c68", func := "ratoon/ratoonlaw18.CapsTakes", spec := "capsTakes", unfollowed := true, recurses := true, plainKeys := false, apart := false }
def CapsTakesSaid : Prop := capsTakesRow.holds Try.pinned (OpenSpec.ofChange capsTakesSpec)

/-- ITS FALSE NEIGHBOUR: 'it returns false'. Refute it at one input. -/
def capsTakesWrong : ChangeSpec := { name := "capsTakes", fn := fun _ => fun
  | [d1, d2] => { results := [.lit (.bool false)], args := [d1, d2] }
  | _ => none }
def CapsTakesWrongFalsely : Prop := capsTakesRow.holds Try.pinned (OpenSpec.ofChange capsTakesWrong)

/-- 'ratoonlaw18.CapsRevoke': WHATEVER THE INPUT: true; the input reads as it did. -/
def capsRevokeSpec : ChangeSpec := { name := "capsRevoke", fn := fun _ => fun
  | [d1, d2, d3] => { results := [.lit (.bool true)], args := [d1, d2, d3] }
  | _ => none }
def capsRevokeRow : OpenClaim := { program := "ytmhleddbamfheaa", sum := "5e69a571263c8c196aea1734eefac96bbdf4840c1ad99d578288fc55b23a4c68", func := "ratoon/ratoonlaw18.CapsRevoke", spec := "capsRevoke", unfollowed := true, recurses := true, plainKeys := false, apart := false }
def CapsRevokeSaid : Prop := capsRevokeRow.holds Try.pinned (OpenSpec.ofChange capsRevokeSpec)

/-- ITS FALSE NEIGHBOUR: 'it returns false'. Refute it at one input. -/
def capsRevokeWrong : ChangeSpec := { name := "capsRevoke", fn := fun _ => fun
  | [d1, d2, d3] => { results := [.lit (.bool false)], args := [d1, d2, d3] }
  | _ => none }
def CapsRevokeWrongFalsely : Prop := capsRevokeRow.holds Try.pinned (OpenSpec.ofChange capsRevokeWrong)

/-- 'ratoonlaw18.CapsDerive': WHATEVER THE INPUT: true; the input reads as it did. -/
def capsDeriveSpec : ChangeSpec := { name := "capsDerive", fn := fun _ => fun
  | [d1, d2, d3] => { results := [.lit (.bool true)], args := [d1, d2, d3] }
  | _ => none }
def capsDeriveRow : OpenClaim := { program := "ytmhleddbamfheaa", sum := "5e69a571263c8c196aea1734eefac96bbdf4840c1ad99d578288fc55b23a4c68", func := "ratoon/ratoonlaw18.CapsDerive", spec := "capsDerive", unfollowed := true, recurses := true, plainKeys := false, apart := false }
def CapsDeriveSaid : Prop := capsDeriveRow.holds Try.pinned (OpenSpec.ofChange capsDeriveSpec)

/-- ITS FALSE NEIGHBOUR: 'it returns false'. Refute it at one input. -/
def capsDeriveWrong : ChangeSpec := { name := "capsDerive", fn := fun _ => fun
  | [d1, d2, d3] => { results := [.lit (.bool false)], args := [d1, d2, d3] }
  | _ => none }
def CapsDeriveWrongFalsely : Prop := capsDeriveRow.holds Try.pinned (OpenSpec.ofChange capsDeriveWrong)

/-- 'ratoonlaw18.CapsGives': WHATEVER THE INPUT: true; the input reads as it did. -/
def capsGivesSpec : ChangeSpec := { name := "capsGives", fn := fun _ => fun
  | [d1, d2, d3] => { results := [.lit (.bool true)], args := [d1, d2, d3] }
  | _ => none }
def capsGivesRow : OpenClaim := { program := "ytmhleddbamfheaa", sum := "5e69a571263c8c196aea1734eefac96bbdf4840c1ad99d578288fc55b23a4c68", func := "ratoon/ratoonlaw18.CapsGives", spec := "capsGives", unfollowed := true, recurses := true, plainKeys := false, apart := false }
def CapsGivesSaid : Prop := capsGivesRow.holds Try.pinned (OpenSpec.ofChange capsGivesSpec)

/-- ITS FALSE NEIGHBOUR: 'it returns false'. Refute it at one input. -/
def capsGivesWrong : ChangeSpec := { name := "capsGives", fn := fun _ => fun
  | [d1, d2, d3] => { results := [.lit (.bool false)], args := [d1, d2, d3] }
  | _ => none }
def CapsGivesWrongFalsely : Prop := capsGivesRow.holds Try.pinned (OpenSpec.ofChange capsGivesWrong)

/-- 'ratoonlaw18.CapsRoots': WHATEVER THE INPUT: true; the input reads as it did. -/
def capsRootsSpec : ChangeSpec := { name := "capsRoots", fn := fun _ => fun
  | [d1, d2, d3] => { results := [.lit (.bool true)], args := [d1, d2, d3] }
  | _ => none }
def capsRootsRow : OpenClaim := { program := "ytmhleddbamfheaa", sum := "5e69a571263c8c196aea1734eefac96bbdf4840c1ad99d578288fc55b23a4c68", func := "ratoon/ratoonlaw18.CapsRoots", spec := "capsRoots", unfollowed := true, recurses := true, plainKeys := false, apart := false }
def CapsRootsSaid : Prop := capsRootsRow.holds Try.pinned (OpenSpec.ofChange capsRootsSpec)

/-- ITS FALSE NEIGHBOUR: 'it returns false'. Refute it at one input. -/
def capsRootsWrong : ChangeSpec := { name := "capsRoots", fn := fun _ => fun
  | [d1, d2, d3] => { results := [.lit (.bool false)], args := [d1, d2, d3] }
  | _ => none }
def CapsRootsWrongFalsely : Prop := capsRootsRow.holds Try.pinned (OpenSpec.ofChange capsRootsWrong)

/-- 'ratoonlaw18.CapsChain': WHATEVER THE INPUT: true; the input reads as it did. -/
def capsChainSpec : ChangeSpec := { name := "capsChain", fn := fun _ => fun
  | [d1, d2] => { results := [.lit (.bool true)], args := [d1, d2] }
  | _ => none }
def capsChainRow : OpenClaim := { program := "ytmhleddbamfheaa", sum := "5e69a571263c8c196aea1734eefac96bbdf4840c1ad99d578288fc55b23a4c68", func := "ratoon/ratoonlaw18.CapsChain", spec := "capsChain", unfollowed := true, recurses := true, plainKeys := false, apart := false }
def CapsChainSaid : Prop := capsChainRow.holds Try.pinned (OpenSpec.ofChange capsChainSpec)

/-- ITS FALSE NEIGHBOUR: 'it returns false'. Refute it at one input. -/
def capsChainWrong : ChangeSpec := { name := "capsChain", fn := fun _ => fun
  | [d1, d2] => { results := [.lit (.bool false)], args := [d1, d2] }
  | _ => none }
def CapsChainWrongFalsely : Prop := capsChainRow.holds Try.pinned (OpenSpec.ofChange capsChainWrong)

/- THE SECOND FORM. 'bulk': how many values and letters a reading holds, each counted each time it is reached (what is shared counts as often as it is met; a slice's spare places count too). A statement '..UptoSaid' is the law's where the arguments, and the package variables that the reading takes, are together of bulk at most 1048576: NARROWER than '..Said'. Prove '..Said' where nothing that the law and all that it calls make is longer than what came in: it says more and counts as full. Else prove '..UptoSaid'. A law counts once. -/
mutual
def uptoBulk {H : Type} : DataW H → Nat
  | .lit (.string bytes) => bytes.length + 1
  | .lit _ => 1
  | .nil => 1
  | .ptr d => uptoBulk d + 1
  | .slice elems spare => uptoBulkAll elems + uptoBulkAll spare + 1
  | .agg parts => uptoBulkAll parts + 1
  | .iface _ d => uptoBulk d + 1
  | .map entries => uptoBulkEntries entries + 1
  | .held _ => 1
def uptoBulkAll {H : Type} : List (DataW H) → Nat
  | [] => 0
  | d :: r => uptoBulk d + uptoBulkAll r
def uptoBulkEntries {H : Type} : List (Lit × DataW H) → Nat
  | [] => 0
  | x :: r => uptoBulkEntry x + uptoBulkEntries r
def uptoBulkEntry {H : Type} : Lit × DataW H → Nat
  | (.string bytes, d) => bytes.length + uptoBulk d + 1
  | (_, d) => uptoBulk d + 1
 end
def uptoSmall : (H : Type) → List (DataW H) → Bool := fun _ ds => decide (uptoBulkAll ds ≤ 1048576)
def OpenSpec.upto (s : _root_.Go.ChangeSpec) : _root_.Go.OpenSpec := { _root_.Go.OpenSpec.ofChange s with cond := some uptoSmall }

/-- 'ratoonlaw18.CapsBoot', WHERE WHAT IT READS IS OF BULK AT MOST 1048576: true; the input reads as it did. -/
def capsBootUptoRow : OpenClaim := { program := "ytmhleddbamfheaa", sum := "5e69a571263c8c196aea1734eefac96bbdf4840c1ad99d578288fc55b23a4c68", func := "ratoon/ratoonlaw18.CapsBoot", spec := "capsBoot", unfollowed := true, recurses := true, plainKeys := false, apart := false, narrowed := true }
def CapsBootUptoSaid : Prop := capsBootUptoRow.holds Try.pinned (OpenSpec.upto capsBootSpec)

/-- 'ratoonlaw18.CapsTasks', WHERE WHAT IT READS IS OF BULK AT MOST 1048576: true; the input reads as it did. -/
def capsTasksUptoRow : OpenClaim := { program := "ytmhleddbamfheaa", sum := "5e69a571263c8c196aea1734eefac96bbdf4840c1ad99d578288fc55b23a4c68", func := "ratoon/ratoonlaw18.CapsTasks", spec := "capsTasks", unfollowed := true, recurses := true, plainKeys := false, apart := false, narrowed := true }
def CapsTasksUptoSaid : Prop := capsTasksUptoRow.holds Try.pinned (OpenSpec.upto capsTasksSpec)

/-- 'ratoonlaw18.CapsTakes', WHERE WHAT IT READS IS OF BULK AT MOST 1048576: true; the input reads as it did. -/
def capsTakesUptoRow : OpenClaim := { program := "ytmhleddbamfheaa", sum := "5e69a571263c8c196aea1734eefac96bbdf4840c1ad99d578288fc55b23a4c68", func := "ratoon/ratoonlaw18.CapsTakes", spec := "capsTakes", unfollowed := true, recurses := true, plainKeys := false, apart := false, narrowed := true }
def CapsTakesUptoSaid : Prop := capsTakesUptoRow.holds Try.pinned (OpenSpec.upto capsTakesSpec)

/-- 'ratoonlaw18.CapsRevoke', WHERE WHAT IT READS IS OF BULK AT MOST 1048576: true; the input reads as it did. -/
def capsRevokeUptoRow : OpenClaim := { program := "ytmhleddbamfheaa", sum := "5e69a571263c8c196aea1734eefac96bbdf4840c1ad99d578288fc55b23a4c68", func := "ratoon/ratoonlaw18.CapsRevoke", spec := "capsRevoke", unfollowed := true, recurses := true, plainKeys := false, apart := false, narrowed := true }
def CapsRevokeUptoSaid : Prop := capsRevokeUptoRow.holds Try.pinned (OpenSpec.upto capsRevokeSpec)

/-- 'ratoonlaw18.CapsDerive', WHERE WHAT IT READS IS OF BULK AT MOST 1048576: true; the input reads as it did. -/
def capsDeriveUptoRow : OpenClaim := { program := "ytmhleddbamfheaa", sum := "5e69a571263c8c196aea1734eefac96bbdf4840c1ad99d578288fc55b23a4c68", func := "ratoon/ratoonlaw18.CapsDerive", spec := "capsDerive", unfollowed := true, recurses := true, plainKeys := false, apart := false, narrowed := true }
def CapsDeriveUptoSaid : Prop := capsDeriveUptoRow.holds Try.pinned (OpenSpec.upto capsDeriveSpec)

/-- 'ratoonlaw18.CapsGives', WHERE WHAT IT READS IS OF BULK AT MOST 1048576: true; the input reads as it did. -/
def capsGivesUptoRow : OpenClaim := { program := "ytmhleddbamfheaa", sum := "5e69a571263c8c196aea1734eefac96bbdf4840c1ad99d578288fc55b23a4c68", func := "ratoon/ratoonlaw18.CapsGives", spec := "capsGives", unfollowed := true, recurses := true, plainKeys := false, apart := false, narrowed := true }
def CapsGivesUptoSaid : Prop := capsGivesUptoRow.holds Try.pinned (OpenSpec.upto capsGivesSpec)

/-- 'ratoonlaw18.CapsRoots', WHERE WHAT IT READS IS OF BULK AT MOST 1048576: true; the input reads as it did. -/
def capsRootsUptoRow : OpenClaim := { program := "ytmhleddbamfheaa", sum := "5e69a571263c8c196aea1734eefac96bbdf4840c1ad99d578288fc55b23a4c68", func := "ratoon/ratoonlaw18.CapsRoots", spec := "capsRoots", unfollowed := true, recurses := true, plainKeys := false, apart := false, narrowed := true }
def CapsRootsUptoSaid : Prop := capsRootsUptoRow.holds Try.pinned (OpenSpec.upto capsRootsSpec)

/-- 'ratoonlaw18.CapsChain', WHERE WHAT IT READS IS OF BULK AT MOST 1048576: true; the input reads as it did. -/
def capsChainUptoRow : OpenClaim := { program := "ytmhleddbamfheaa", sum := "5e69a571263c8c196aea1734eefac96bbdf4840c1ad99d578288fc55b23a4c68", func := "ratoon/ratoonlaw18.CapsChain", spec := "capsChain", unfollowed := true, recurses := true, plainKeys := false, apart := false, narrowed := true }
def CapsChainUptoSaid : Prop := capsChainUptoRow.holds Try.pinned (OpenSpec.upto capsChainSpec)

end Rows
end Go.Proofs.Ytmhleddbamfheaa
