/-
  No cell of these rows narrows 'for every input' (looked for: loops, veiled, ifaces, maps, wideKeys, modest, calm, conditions, laid).
  DERIVED. THE GIVEN ROWS OF THIS SEAT. 6 by the template 'for every input the law returns true; each argument reads behind the call as it read before'; 0 by the template 'total and deterministic' (their statements: YtmbblacaodapcaaTotals.lean).
  GIVEN WITH THE SEED: the statements are not yours to turn. If you find one false, say at which input.
  Laid BY PROGRAM, IN A SANDBOX (cutbox-rows.mjs): the forced cells as the released guide's own fill.sh prints them over the translation 4971315ae17508df… (all of the seat's roots in one cut). By AI agents, Wed Nov 11 2026. No macro, syntax, notation, axiom, sorry.
-/
import Derived.Test.YtmbblacaodapcaaChecked
import GoSem.Claim
import GoSem.ClaimJoined
import GoSem.ClaimMapViews
import Derived.JoinedTies
import Derived.KernelRfl
namespace Go.Proofs.Ytmbblacaodapcaa
/- THE CELL 'sum', in the pinned program and in every row, IS THE sha256 OF THE DUMP (.gsa) THAT YtmbblacaodapcaaProg.lean LOADS. Nothing in Lean hashes anything: it is a label: what it is worth is what the hold of that sum in a sandbox is worth. -/
noncomputable def Try.pinned : Pinned := { name := "ytmbblacaodapcaa", sum := "4971315ae17508df95764a8011d4f4a1178d0ccc2c094c95c07b6ae6b36b1501", checked := Try.checked }
namespace Rows
def none {H : Type} : Left H := { results := [], args := [] }

/-- 'ratoonlaw10.IommuOpen': WHATEVER THE INPUT: true; the input reads as it did. -/
def iommuOpenSpec : ChangeSpec := { name := "iommuOpen", fn := fun _ => fun
  | [d1, d2] => { results := [.lit (.bool true)], args := [d1, d2] }
  | _ => none }
def iommuOpenRow : OpenClaim := { program := "ytmbblacaodapcaa", sum := "4971315ae17508df95764a8011d4f4a1178d0ccc2c094c95c07b6ae6b36b1501", func := "ratoon/ratoonlaw10.IommuOpen", spec := "iommuOpen", inPlace := ["slices.overlaps[ratoon/iommu.Window]"], unfollowed := true, recurses := true, apart := false }
def IommuOpenSaid : Prop := iommuOpenRow.holds Try.pinned (OpenSpec.ofChange iommuOpenSpec)

/-- ITS FALSE NEIGHBOUR: 'it returns false'. Refute it at one input. -/
def iommuOpenWrong : ChangeSpec := { name := "iommuOpen", fn := fun _ => fun
  | [d1, d2] => { results := [.lit (.bool false)], args := [d1, d2] }
  | _ => none }
def IommuOpenWrongFalsely : Prop := iommuOpenRow.holds Try.pinned (OpenSpec.ofChange iommuOpenWrong)

/-- 'ratoonlaw10.IommuCheck': WHATEVER THE INPUT: true; the input reads as it did. -/
def iommuCheckSpec : ChangeSpec := { name := "iommuCheck", fn := fun _ => fun
  | [d1, d2, d3] => { results := [.lit (.bool true)], args := [d1, d2, d3] }
  | _ => none }
def iommuCheckRow : OpenClaim := { program := "ytmbblacaodapcaa", sum := "4971315ae17508df95764a8011d4f4a1178d0ccc2c094c95c07b6ae6b36b1501", func := "ratoon/ratoonlaw10.IommuCheck", spec := "iommuCheck", inPlace := ["slices.overlaps[ratoon/iommu.Window]"], unfollowed := true, recurses := true, apart := false }
def IommuCheckSaid : Prop := iommuCheckRow.holds Try.pinned (OpenSpec.ofChange iommuCheckSpec)

/-- ITS FALSE NEIGHBOUR: 'it returns false'. Refute it at one input. -/
def iommuCheckWrong : ChangeSpec := { name := "iommuCheck", fn := fun _ => fun
  | [d1, d2, d3] => { results := [.lit (.bool false)], args := [d1, d2, d3] }
  | _ => none }
def IommuCheckWrongFalsely : Prop := iommuCheckRow.holds Try.pinned (OpenSpec.ofChange iommuCheckWrong)

/-- 'ratoonlaw10.IommuExclusion': WHATEVER THE INPUT: true; the input reads as it did. -/
def iommuExclusionSpec : ChangeSpec := { name := "iommuExclusion", fn := fun _ => fun
  | [d1, d2] => { results := [.lit (.bool true)], args := [d1, d2] }
  | _ => none }
def iommuExclusionRow : OpenClaim := { program := "ytmbblacaodapcaa", sum := "4971315ae17508df95764a8011d4f4a1178d0ccc2c094c95c07b6ae6b36b1501", func := "ratoon/ratoonlaw10.IommuExclusion", spec := "iommuExclusion", inPlace := ["slices.overlaps[ratoon/iommu.Window]"], unfollowed := true, recurses := true, apart := false }
def IommuExclusionSaid : Prop := iommuExclusionRow.holds Try.pinned (OpenSpec.ofChange iommuExclusionSpec)

/-- ITS FALSE NEIGHBOUR: 'it returns false'. Refute it at one input. -/
def iommuExclusionWrong : ChangeSpec := { name := "iommuExclusion", fn := fun _ => fun
  | [d1, d2] => { results := [.lit (.bool false)], args := [d1, d2] }
  | _ => none }
def IommuExclusionWrongFalsely : Prop := iommuExclusionRow.holds Try.pinned (OpenSpec.ofChange iommuExclusionWrong)

/-- 'ratoonlaw10.IommuOrder': WHATEVER THE INPUT: true; the input reads as it did. -/
def iommuOrderSpec : ChangeSpec := { name := "iommuOrder", fn := fun _ => fun
  | [d1, d2] => { results := [.lit (.bool true)], args := [d1, d2] }
  | _ => none }
def iommuOrderRow : OpenClaim := { program := "ytmbblacaodapcaa", sum := "4971315ae17508df95764a8011d4f4a1178d0ccc2c094c95c07b6ae6b36b1501", func := "ratoon/ratoonlaw10.IommuOrder", spec := "iommuOrder", inPlace := ["slices.overlaps[ratoon/iommu.Window]"], unfollowed := true, recurses := true, apart := false }
def IommuOrderSaid : Prop := iommuOrderRow.holds Try.pinned (OpenSpec.ofChange iommuOrderSpec)

/-- ITS FALSE NEIGHBOUR: 'it returns false'. Refute it at one input. -/
def iommuOrderWrong : ChangeSpec := { name := "iommuOrder", fn := fun _ => fun
  | [d1, d2] => { results := [.lit (.bool false)], args := [d1, d2] }
  | _ => none }
def IommuOrderWrongFalsely : Prop := iommuOrderRow.holds Try.pinned (OpenSpec.ofChange iommuOrderWrong)

/-- 'ratoonlaw10.IommuAccess': WHATEVER THE INPUT: true; the input reads as it did. -/
def iommuAccessSpec : ChangeSpec := { name := "iommuAccess", fn := fun _ => fun
  | [d1, d2, d3] => { results := [.lit (.bool true)], args := [d1, d2, d3] }
  | _ => none }
def iommuAccessRow : OpenClaim := { program := "ytmbblacaodapcaa", sum := "4971315ae17508df95764a8011d4f4a1178d0ccc2c094c95c07b6ae6b36b1501", func := "ratoon/ratoonlaw10.IommuAccess", spec := "iommuAccess", inPlace := ["slices.overlaps[ratoon/iommu.Window]"], unfollowed := true, recurses := true, apart := false }
def IommuAccessSaid : Prop := iommuAccessRow.holds Try.pinned (OpenSpec.ofChange iommuAccessSpec)

/-- ITS FALSE NEIGHBOUR: 'it returns false'. Refute it at one input. -/
def iommuAccessWrong : ChangeSpec := { name := "iommuAccess", fn := fun _ => fun
  | [d1, d2, d3] => { results := [.lit (.bool false)], args := [d1, d2, d3] }
  | _ => none }
def IommuAccessWrongFalsely : Prop := iommuAccessRow.holds Try.pinned (OpenSpec.ofChange iommuAccessWrong)

/-- 'ratoonlaw10.IommuClose': WHATEVER THE INPUT: true; the input reads as it did. -/
def iommuCloseSpec : ChangeSpec := { name := "iommuClose", fn := fun _ => fun
  | [d1, d2, d3] => { results := [.lit (.bool true)], args := [d1, d2, d3] }
  | _ => none }
def iommuCloseRow : OpenClaim := { program := "ytmbblacaodapcaa", sum := "4971315ae17508df95764a8011d4f4a1178d0ccc2c094c95c07b6ae6b36b1501", func := "ratoon/ratoonlaw10.IommuClose", spec := "iommuClose", inPlace := ["slices.overlaps[ratoon/iommu.Window]"], unfollowed := true, recurses := true, apart := false }
def IommuCloseSaid : Prop := iommuCloseRow.holds Try.pinned (OpenSpec.ofChange iommuCloseSpec)

/-- ITS FALSE NEIGHBOUR: 'it returns false'. Refute it at one input. -/
def iommuCloseWrong : ChangeSpec := { name := "iommuClose", fn := fun _ => fun
  | [d1, d2, d3] => { results := [.lit (.bool false)], args := [d1, d2, d3] }
  | _ => none }
def IommuCloseWrongFalsely : Prop := iommuCloseRow.holds Try.pinned (OpenSpec.ofChange iommuCloseWrong)

/- THE SECOND FORM. 'bulk': how many values and letters a reading holds, each counted each time it is reached (what is shared counts as often as it is met; a slice's spare places count too). A statement '..UptoSaid' is the law's where the arguments, and the package variables that the reading takes, are together of bulk at most 1048576: NARROWER than '..Said'. Prove '..Said' where nothing that the law and all that it calls make is longer than what came in: it says more and counts as full. Else prove '..UptoSaid'. A law counts once. -/
mutual
def uptoBulk {H : Type} : DataW H → Nat
  | .lit (.string bytes) => bytes.length + 1
  | .lit _ => 1
  | .nil => 1
  | .ptr d => uptoBulk d + 1
  | .slice elems spare => uptoBulkAll elems + uptoBulkAll spare + 1
  | .agg parts => uptoBulkAll parts + 1
  | .iface _ d => uptoBulk d + 1
  | .map entries => uptoBulkEntries entries + 1
  | .held _ => 1
def uptoBulkAll {H : Type} : List (DataW H) → Nat
  | [] => 0
  | d :: r => uptoBulk d + uptoBulkAll r
def uptoBulkEntries {H : Type} : List (Lit × DataW H) → Nat
  | [] => 0
  | x :: r => uptoBulkEntry x + uptoBulkEntries r
def uptoBulkEntry {H : Type} : Lit × DataW H → Nat
  | (.string bytes, d) => bytes.length + uptoBulk d + 1
  | (_, d) => uptoBulk d + 1
 end
def uptoSmall : (H : Type) → List (DataW H) → Bool := fun _ ds => decide (uptoBulkAll ds ≤ 1048576)
def OpenSpec.upto (s : _root_.Go.ChangeSpec) : _root_.Go.OpenSpec := { _root_.Go.OpenSpec.ofChange s with cond := some uptoSmall }

/-- 'ratoonlaw10.IommuOpen', WHERE WHAT IT READS IS OF BULK AT MOST 1048576: true; the input reads as it did. -/
def iommuOpenUptoRow : OpenClaim := { program := "ytmbblacaodapcaa", sum := "4971315ae17508df95764a8011d4f4a1178d0ccc2c094c95c07b6ae6b36b1501", func := "ratoon/ratoonlaw10.IommuOpen", spec := "iommuOpen", inPlace := ["slices.overlaps[ratoon/iommu.Window]"], unfollowed := true, recurses := true, apart := false, narrowed := true }
def IommuOpenUptoSaid : Prop := iommuOpenUptoRow.holds Try.pinned (OpenSpec.upto iommuOpenSpec)

/-- 'ratoonlaw10.IommuCheck', WHERE WHAT IT READS IS OF BULK AT MOST 1048576: true; the input reads as it did. -/
def iommuCheckUptoRow : OpenClaim := { program := "ytmbblacaodapcaa", sum := "4971315ae17508df95764a8011d4f4a1178d0ccc2c094c95c07b6ae6b36b1501", func := "ratoon/ratoonlaw10.IommuCheck", spec := "iommuCheck", inPlace := ["slices.overlaps[ratoon/iommu.Window]"], unfollowed := true, recurses := true, apart := false, narrowed := true }
def IommuCheckUptoSaid : Prop := iommuCheckUptoRow.holds Try.pinned (OpenSpec.upto iommuCheckSpec)

/-- 'ratoonlaw10.IommuExclusion', WHERE WHAT IT READS IS OF BULK AT MOST 1048576: true; the input reads as it did. -/
def iommuExclusionUptoRow : OpenClaim := { program := "ytmbblacaodapcaa", sum := "4971315ae17508df95764a8011d4f4a1178d0ccc2c094c95c07b6ae6b36b1501", func := "ratoon/ratoonlaw10.IommuExclusion", spec := "iommuExclusion", inPlace := ["slices.overlaps[ratoon/iommu.Window]"], unfollowed := true, recurses := true, apart := false, narrowed := true }
def IommuExclusionUptoSaid : Prop := iommuExclusionUptoRow.holds Try.pinned (OpenSpec.upto iommuExclusionSpec)

/-- 'ratoonlaw10.IommuOrder', WHERE WHAT IT READS IS OF BULK AT MOST 1048576: true; the input reads as it did. -/
def iommuOrderUptoRow : OpenClaim := { program := "ytmbblacaodapcaa", sum := "4971315ae17508df95764a8011d4f4a1178d0ccc2c094c95c07b6ae6b36b1501", func := "ratoon/ratoonlaw10.IommuOrder", spec := "iommuOrder", inPlace := ["slices.overlaps[ratoon/iommu.Window]"], unfollowed := true, recurses := true, apart := false, narrowed := true }
def IommuOrderUptoSaid : Prop := iommuOrderUptoRow.holds Try.pinned (OpenSpec.upto iommuOrderSpec)

/-- 'ratoonlaw10.IommuAccess', WHERE WHAT IT READS IS OF BULK AT MOST 1048576: true; the input reads as it did. -/
def iommuAccessUptoRow : OpenClaim := { program := "ytmbblacaodapcaa", sum := "4971315ae17508df95764a8011d4f4a1178d0ccc2c094c95c07b6ae6b36b1501", func := "ratoon/ratoonlaw10.IommuAccess", spec := "iommuAccess", inPlace := ["slices.overlaps[ratoon/iommu.Window]"], unfollowed := true, recurses := true, apart := false, narrowed := true }
def IommuAccessUptoSaid : Prop := iommuAccessUptoRow.holds Try.pinned (OpenSpec.upto iommuAccessSpec)

/-- 'ratoonlaw10.IommuClose', WHERE WHAT IT READS IS OF BULK AT MOST 1048576: true; the input reads as it did. -/
def iommuCloseUptoRow : OpenClaim := { program := "ytmbblacaodapcaa", sum := "4971315ae17508df95764a8011d4f4a1178d0ccc2c094c95c07b6ae6b36b1501", func := "ratoon/ratoonlaw10.IommuClose", spec := "iommuClose", inPlace := ["slices.overlaps[ratoon/iommu.Window]"], unfollowed := true, recurses := true, apart := false, narrowed := true }
def IommuCloseUptoSaid : Prop := iommuCloseUptoRow.holds Try.pinned (OpenSpec.upto iommuCloseSpec)

end Rows
end Go.Proofs.Ytmbblacaodapcaa
