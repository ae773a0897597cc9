/-
  No cell of these rows narrows 'for every input' (looked for: loops, veiled, ifaces, maps, wideKeys, modest, calm, conditions, laid).
  DERIVED. THE GIVEN ROWS OF THIS SEAT. 8 by the template 'for every input the law returns true; each argument reads behind the call as it read before'; 0 by the template 'total and deterministic' (their statements: YtmknondapmmehaaTotals.lean).
  GIVEN WITH THE SEED: the statements are not yours to turn. If you find one false, say at which input.
  Laid BY PROGRAM, IN A SANDBOX (cutbox-rows.mjs): the forced cells as the released guide's own fill.sh prints them over the translation 972879d89f0096d4… (all of the seat's roots in one cut). By AI agents, Wed Nov 11 2026. No macro, syntax, notation, axiom, sorry.
-/
import Derived.Test.YtmknondapmmehaaChecked
import GoSem.Claim
import GoSem.ClaimJoined
import GoSem.ClaimMapViews
import Derived.JoinedTies
import Derived.KernelRfl
namespace Go.Proofs.Ytmknondapmmehaa
/- THE CELL 'sum', in the pinned program and in every row, IS THE sha256 OF THE DUMP (.gsa) THAT YtmknondapmmehaaProg.lean LOADS. Nothing in Lean hashes anything: it is a label: what it is worth is what the hold of that sum in a sandbox is worth. -/
noncomputable def Try.pinned : Pinned := { name := "ytmknondapmmehaa", sum := "972879d89f0096d4dd347d159bce3ae61bc4ec9a7b30473cbc7eba3583cbf5f8", checked := Try.checked }
namespace Rows
def none {H : Type} : Left H := { results := [], args := [] }

/-- 'ratoonlaw21.GrantsGive': WHATEVER THE INPUT: true; the input reads as it did. -/
def grantsGiveSpec : ChangeSpec := { name := "grantsGive", fn := fun _ => fun
  | [d1, d2] => { results := [.lit (.bool true)], args := [d1, d2] }
  | _ => none }
def grantsGiveRow : OpenClaim := { program := "ytmknondapmmehaa", sum := "972879d89f0096d4dd347d159bce3ae61bc4ec9a7b30473cbc7eba3583cbf5f8", func := "ratoon/ratoonlaw21.GrantsGive", spec := "grantsGive", inPlace := ["slices.overlaps[ratoon/grants.Grant]"], unfollowed := true, recurses := true, apart := false }
def GrantsGiveSaid : Prop := grantsGiveRow.holds Try.pinned (OpenSpec.ofChange grantsGiveSpec)

/-- ITS FALSE NEIGHBOUR: 'it returns false'. Refute it at one input. -/
def grantsGiveWrong : ChangeSpec := { name := "grantsGive", fn := fun _ => fun
  | [d1, d2] => { results := [.lit (.bool false)], args := [d1, d2] }
  | _ => none }
def GrantsGiveWrongFalsely : Prop := grantsGiveRow.holds Try.pinned (OpenSpec.ofChange grantsGiveWrong)

/-- 'ratoonlaw21.GrantsRights': WHATEVER THE INPUT: true; the input reads as it did. -/
def grantsRightsSpec : ChangeSpec := { name := "grantsRights", fn := fun _ => fun
  | [d1, d2, d3] => { results := [.lit (.bool true)], args := [d1, d2, d3] }
  | _ => none }
def grantsRightsRow : OpenClaim := { program := "ytmknondapmmehaa", sum := "972879d89f0096d4dd347d159bce3ae61bc4ec9a7b30473cbc7eba3583cbf5f8", func := "ratoon/ratoonlaw21.GrantsRights", spec := "grantsRights", inPlace := ["slices.overlaps[ratoon/grants.Grant]"], unfollowed := true, recurses := true, apart := false }
def GrantsRightsSaid : Prop := grantsRightsRow.holds Try.pinned (OpenSpec.ofChange grantsRightsSpec)

/-- ITS FALSE NEIGHBOUR: 'it returns false'. Refute it at one input. -/
def grantsRightsWrong : ChangeSpec := { name := "grantsRights", fn := fun _ => fun
  | [d1, d2, d3] => { results := [.lit (.bool false)], args := [d1, d2, d3] }
  | _ => none }
def GrantsRightsWrongFalsely : Prop := grantsRightsRow.holds Try.pinned (OpenSpec.ofChange grantsRightsWrong)

/-- 'ratoonlaw21.GrantsTakes': WHATEVER THE INPUT: true; the input reads as it did. -/
def grantsTakesSpec : ChangeSpec := { name := "grantsTakes", fn := fun _ => fun
  | [d1, d2, d3] => { results := [.lit (.bool true)], args := [d1, d2, d3] }
  | _ => none }
def grantsTakesRow : OpenClaim := { program := "ytmknondapmmehaa", sum := "972879d89f0096d4dd347d159bce3ae61bc4ec9a7b30473cbc7eba3583cbf5f8", func := "ratoon/ratoonlaw21.GrantsTakes", spec := "grantsTakes", inPlace := ["slices.overlaps[ratoon/grants.Grant]"], unfollowed := true, recurses := true, apart := false }
def GrantsTakesSaid : Prop := grantsTakesRow.holds Try.pinned (OpenSpec.ofChange grantsTakesSpec)

/-- ITS FALSE NEIGHBOUR: 'it returns false'. Refute it at one input. -/
def grantsTakesWrong : ChangeSpec := { name := "grantsTakes", fn := fun _ => fun
  | [d1, d2, d3] => { results := [.lit (.bool false)], args := [d1, d2, d3] }
  | _ => none }
def GrantsTakesWrongFalsely : Prop := grantsTakesRow.holds Try.pinned (OpenSpec.ofChange grantsTakesWrong)

/-- 'ratoonlaw21.GrantsAnyOrder': WHATEVER THE INPUT: true; the input reads as it did. -/
def grantsAnyOrderSpec : ChangeSpec := { name := "grantsAnyOrder", fn := fun _ => fun
  | [d1, d2, d3] => { results := [.lit (.bool true)], args := [d1, d2, d3] }
  | _ => none }
def grantsAnyOrderRow : OpenClaim := { program := "ytmknondapmmehaa", sum := "972879d89f0096d4dd347d159bce3ae61bc4ec9a7b30473cbc7eba3583cbf5f8", func := "ratoon/ratoonlaw21.GrantsAnyOrder", spec := "grantsAnyOrder", inPlace := ["slices.overlaps[ratoon/grants.Grant]"], unfollowed := true, recurses := true, apart := false }
def GrantsAnyOrderSaid : Prop := grantsAnyOrderRow.holds Try.pinned (OpenSpec.ofChange grantsAnyOrderSpec)

/-- ITS FALSE NEIGHBOUR: 'it returns false'. Refute it at one input. -/
def grantsAnyOrderWrong : ChangeSpec := { name := "grantsAnyOrder", fn := fun _ => fun
  | [d1, d2, d3] => { results := [.lit (.bool false)], args := [d1, d2, d3] }
  | _ => none }
def GrantsAnyOrderWrongFalsely : Prop := grantsAnyOrderRow.holds Try.pinned (OpenSpec.ofChange grantsAnyOrderWrong)

/-- 'ratoonlaw21.GrantsRevoke': WHATEVER THE INPUT: true; the input reads as it did. -/
def grantsRevokeSpec : ChangeSpec := { name := "grantsRevoke", fn := fun _ => fun
  | [d1, d2, d3] => { results := [.lit (.bool true)], args := [d1, d2, d3] }
  | _ => none }
def grantsRevokeRow : OpenClaim := { program := "ytmknondapmmehaa", sum := "972879d89f0096d4dd347d159bce3ae61bc4ec9a7b30473cbc7eba3583cbf5f8", func := "ratoon/ratoonlaw21.GrantsRevoke", spec := "grantsRevoke", inPlace := ["slices.overlaps[ratoon/grants.Grant]"], unfollowed := true, recurses := true, apart := false }
def GrantsRevokeSaid : Prop := grantsRevokeRow.holds Try.pinned (OpenSpec.ofChange grantsRevokeSpec)

/-- ITS FALSE NEIGHBOUR: 'it returns false'. Refute it at one input. -/
def grantsRevokeWrong : ChangeSpec := { name := "grantsRevoke", fn := fun _ => fun
  | [d1, d2, d3] => { results := [.lit (.bool false)], args := [d1, d2, d3] }
  | _ => none }
def GrantsRevokeWrongFalsely : Prop := grantsRevokeRow.holds Try.pinned (OpenSpec.ofChange grantsRevokeWrong)

/-- 'ratoonlaw21.GrantsHas': WHATEVER THE INPUT: true; the input reads as it did. -/
def grantsHasSpec : ChangeSpec := { name := "grantsHas", fn := fun _ => fun
  | [d1, d2] => { results := [.lit (.bool true)], args := [d1, d2] }
  | _ => none }
def grantsHasRow : OpenClaim := { program := "ytmknondapmmehaa", sum := "972879d89f0096d4dd347d159bce3ae61bc4ec9a7b30473cbc7eba3583cbf5f8", func := "ratoon/ratoonlaw21.GrantsHas", spec := "grantsHas", inPlace := ["slices.overlaps[ratoon/grants.Grant]"], unfollowed := true, recurses := true, apart := false }
def GrantsHasSaid : Prop := grantsHasRow.holds Try.pinned (OpenSpec.ofChange grantsHasSpec)

/-- ITS FALSE NEIGHBOUR: 'it returns false'. Refute it at one input. -/
def grantsHasWrong : ChangeSpec := { name := "grantsHas", fn := fun _ => fun
  | [d1, d2] => { results := [.lit (.bool false)], args := [d1, d2] }
  | _ => none }
def GrantsHasWrongFalsely : Prop := grantsHasRow.holds Try.pinned (OpenSpec.ofChange grantsHasWrong)

/-- 'ratoonlaw21.GrantsLeave': WHATEVER THE INPUT: true; the input reads as it did. -/
def grantsLeaveSpec : ChangeSpec := { name := "grantsLeave", fn := fun _ => fun
  | [d1, d2] => { results := [.lit (.bool true)], args := [d1, d2] }
  | _ => none }
def grantsLeaveRow : OpenClaim := { program := "ytmknondapmmehaa", sum := "972879d89f0096d4dd347d159bce3ae61bc4ec9a7b30473cbc7eba3583cbf5f8", func := "ratoon/ratoonlaw21.GrantsLeave", spec := "grantsLeave", inPlace := ["slices.overlaps[ratoon/grants.Grant]"], unfollowed := true, recurses := true, apart := false }
def GrantsLeaveSaid : Prop := grantsLeaveRow.holds Try.pinned (OpenSpec.ofChange grantsLeaveSpec)

/-- ITS FALSE NEIGHBOUR: 'it returns false'. Refute it at one input. -/
def grantsLeaveWrong : ChangeSpec := { name := "grantsLeave", fn := fun _ => fun
  | [d1, d2] => { results := [.lit (.bool false)], args := [d1, d2] }
  | _ => none }
def GrantsLeaveWrongFalsely : Prop := grantsLeaveRow.holds Try.pinned (OpenSpec.ofChange grantsLeaveWrong)

/-- 'ratoonlaw21.GrantsEach': WHATEVER THE INPUT: true; the input reads as it did. -/
def grantsEachSpec : ChangeSpec := { name := "grantsEach", fn := fun _ => fun
  | [d1, d2] => { results := [.lit (.bool true)], args := [d1, d2] }
  | _ => none }
def grantsEachRow : OpenClaim := { program := "ytmknondapmmehaa", sum := "972879d89f0096d4dd347d159bce3ae61bc4ec9a7b30473cbc7eba3583cbf5f8", func := "ratoon/ratoonlaw21.GrantsEach", spec := "grantsEach", inPlace := ["slices.overlaps[ratoon/grants.Grant]"], unfollowed := true, recurses := true, apart := false }
def GrantsEachSaid : Prop := grantsEachRow.holds Try.pinned (OpenSpec.ofChange grantsEachSpec)

/-- ITS FALSE NEIGHBOUR: 'it returns false'. Refute it at one input. -/
def grantsEachWrong : ChangeSpec := { name := "grantsEach", fn := fun _ => fun
  | [d1, d2] => { results := [.lit (.bool false)], args := [d1, d2] }
  | _ => none }
def GrantsEachWrongFalsely : Prop := grantsEachRow.holds Try.pinned (OpenSpec.ofChange grantsEachWrong)

/- THE SECOND FORM. 'bulk': how many values and letters a reading holds, each counted each time it is reached (what is shared counts as often as it is met; a slice's spare places count too). A statement '..UptoSaid' is the law's where the arguments, and the package variables that the reading takes, are together of bulk at most 1048576: NARROWER than '..Said'. Prove '..Said' where nothing that the law and all that it calls make is longer than what came in: it says more and counts as full. Else prove '..UptoSaid'. A law counts once. -/
mutual
def uptoBulk {H : Type} : DataW H → Nat
  | .lit (.string bytes) => bytes.length + 1
  | .lit _ => 1
  | .nil => 1
  | .ptr d => uptoBulk d + 1
  | .slice elems spare => uptoBulkAll elems + uptoBulkAll spare + 1
  | .agg parts => uptoBulkAll parts + 1
  | .iface _ d => uptoBulk d + 1
  | .map entries => uptoBulkEntries entries + 1
  | .held _ => 1
def uptoBulkAll {H : Type} : List (DataW H) → Nat
  | [] => 0
  | d :: r => uptoBulk d + uptoBulkAll r
def uptoBulkEntries {H : Type} : List (Lit × DataW H) → Nat
  | [] => 0
  | x :: r => uptoBulkEntry x + uptoBulkEntries r
def uptoBulkEntry {H : Type} : Lit × DataW H → Nat
  | (.string bytes, d) => bytes.length + uptoBulk d + 1
  | (_, d) => uptoBulk d + 1
 end
def uptoSmall : (H : Type) → List (DataW H) → Bool := fun _ ds => decide (uptoBulkAll ds ≤ 1048576)
def OpenSpec.upto (s : _root_.Go.ChangeSpec) : _root_.Go.OpenSpec := { _root_.Go.OpenSpec.ofChange s with cond := some uptoSmall }

/-- 'ratoonlaw21.GrantsGive', WHERE WHAT IT READS IS OF BULK AT MOST 1048576: true; the input reads as it did. -/
def grantsGiveUptoRow : OpenClaim := { program := "ytmknondapmmehaa", sum := "972879d89f0096d4dd347d159bce3ae61bc4ec9a7b30473cbc7eba3583cbf5f8", func := "ratoon/ratoonlaw21.GrantsGive", spec := "grantsGive", inPlace := ["slices.overlaps[ratoon/grants.Grant]"], unfollowed := true, recurses := true, apart := false, narrowed := true }
def GrantsGiveUptoSaid : Prop := grantsGiveUptoRow.holds Try.pinned (OpenSpec.upto grantsGiveSpec)

/-- 'ratoonlaw21.GrantsRights', WHERE WHAT IT READS IS OF BULK AT MOST 1048576: true; the input reads as it did. -/
def grantsRightsUptoRow : OpenClaim := { program := "ytmknondapmmehaa", sum := "972879d89f0096d4dd347d159bce3ae61bc4ec9a7b30473cbc7eba3583cbf5f8", func := "ratoon/ratoonlaw21.GrantsRights", spec := "grantsRights", inPlace := ["slices.overlaps[ratoon/grants.Grant]"], unfollowed := true, recurses := true, apart := false, narrowed := true }
def GrantsRightsUptoSaid : Prop := grantsRightsUptoRow.holds Try.pinned (OpenSpec.upto grantsRightsSpec)

/-- 'ratoonlaw21.GrantsTakes', WHERE WHAT IT READS IS OF BULK AT MOST 1048576: true; the input reads as it did. -/
def grantsTakesUptoRow : OpenClaim := { program := "ytmknondapmmehaa", sum := "972879d89f0096d4dd347d159bce3ae61bc4ec9a7b30473cbc7eba3583cbf5f8", func := "ratoon/ratoonlaw21.GrantsTakes", spec := "grantsTakes", inPlace := ["slices.overlaps[ratoon/grants.Grant]"], unfollowed := true, recurses := true, apart := false, narrowed := true }
def GrantsTakesUptoSaid : Prop := grantsTakesUptoRow.holds Try.pinned (OpenSpec.upto grantsTakesSpec)

/-- 'ratoonlaw21.GrantsAnyOrder', WHERE WHAT IT READS IS OF BULK AT MOST 1048576: true; the input reads as it did. -/
def grantsAnyOrderUptoRow : OpenClaim := { program := "ytmknondapmmehaa", sum := "972879d89f0096d4dd347d159bce3ae61bc4ec9a7b30473cbc7eba3583cbf5f8", func := "ratoon/ratoonlaw21.GrantsAnyOrder", spec := "grantsAnyOrder", inPlace := ["slices.overlaps[ratoon/grants.Grant]"], unfollowed := true, recurses := true, apart := false, narrowed := true }
def GrantsAnyOrderUptoSaid : Prop := grantsAnyOrderUptoRow.holds Try.pinned (OpenSpec.upto grantsAnyOrderSpec)

/-- 'ratoonlaw21.GrantsRevoke', WHERE WHAT IT READS IS OF BULK AT MOST 1048576: true; the input reads as it did. -/
def grantsRevokeUptoRow : OpenClaim := { program := "ytmknondapmmehaa", sum := "972879d89f0096d4dd347d159bce3ae61bc4ec9a7b30473cbc7eba3583cbf5f8", func := "ratoon/ratoonlaw21.GrantsRevoke", spec := "grantsRevoke", inPlace := ["slices.overlaps[ratoon/grants.Grant]"], unfollowed := true, recurses := true, apart := false, narrowed := true }
def GrantsRevokeUptoSaid : Prop := grantsRevokeUptoRow.holds Try.pinned (OpenSpec.upto grantsRevokeSpec)

/-- 'ratoonlaw21.GrantsHas', WHERE WHAT IT READS IS OF BULK AT MOST 1048576: true; the input reads as it did. -/
def grantsHasUptoRow : OpenClaim := { program := "ytmknondapmmehaa", sum := "972879d89f0096d4dd347d159bce3ae61bc4ec9a7b30473cbc7eba3583cbf5f8", func := "ratoon/ratoonlaw21.GrantsHas", spec := "grantsHas", inPlace := ["slices.overlaps[ratoon/grants.Grant]"], unfollowed := true, recurses := true, apart := false, narrowed := true }
def GrantsHasUptoSaid : Prop := grantsHasUptoRow.holds Try.pinned (OpenSpec.upto grantsHasSpec)

/-- 'ratoonlaw21.GrantsLeave', WHERE WHAT IT READS IS OF BULK AT MOST 1048576: true; the input reads as it did. -/
def grantsLeaveUptoRow : OpenClaim := { program := "ytmknondapmmehaa", sum := "972879d89f0096d4dd347d159bce3ae61bc4ec9a7b30473cbc7eba3583cbf5f8", func := "ratoon/ratoonlaw21.GrantsLeave", spec := "grantsLeave", inPlace := ["slices.overlaps[ratoon/grants.Grant]"], unfollowed := true, recurses := true, apart := false, narrowed := true }
def GrantsLeaveUptoSaid : Prop := grantsLeaveUptoRow.holds Try.pinned (OpenSpec.upto grantsLeaveSpec)

/-- 'ratoonlaw21.GrantsEach', WHERE WHAT IT READS IS OF BULK AT MOST 1048576: true; the input reads as it did. -/
def grantsEachUptoRow : OpenClaim := { program := "ytmknondapmmehaa", sum := "972879d89f0096d4dd347d159bce3ae61bc4ec9a7b30473cbc7eba3583cbf5f8", func := "ratoon/ratoonlaw21.GrantsEach", spec := "grantsEach", inPlace := ["slices.overlaps[ratoon/grants.Grant]"], unfollowed := true, recurses := true, apart := false, narrowed := true }
def GrantsEachUptoSaid : Prop := grantsEachUptoRow.holds Try.pinned (OpenSpec.upto grantsEachSpec)

end Rows
end Go.Proofs.Ytmknondapmmehaa
