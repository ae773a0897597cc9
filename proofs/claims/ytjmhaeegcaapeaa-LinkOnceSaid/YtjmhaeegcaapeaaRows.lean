/-
  No cell of these rows narrows 'for every input' (looked for: loops, veiled, ifaces, maps, wideKeys, modest, calm, conditions, laid).
  DERIVED. THE GIVEN ROWS OF THIS SEAT. 8 by the template 'for every input the law returns true; each argument reads behind the call as it read before'; 0 by the template 'total and deterministic' (their statements: YtjmhaeegcaapeaaTotals.lean).
  GIVEN WITH THE SEED: the statements are not yours to turn. If you find one false, say at which input.
  Laid BY PROGRAM, IN A SANDBOX (cutbox-rows.mjs): the forced cells as the released guide's own fill.sh prints them over the translation 9ccdff430bebbeca… (all of the seat's roots in one cut). By AI agents, Wed Nov 11 2026. No macro, syntax, notation, axiom, sorry.
-/
import Derived.Test.YtjmhaeegcaapeaaChecked
import GoSem.Claim
import GoSem.ClaimJoined
import GoSem.ClaimMapViews
import Derived.JoinedTies
import Derived.KernelRfl
namespace Go.Proofs.Ytjmhaeegcaapeaa
/- THE CELL 'sum', in the pinned program and in every row, IS THE sha256 OF THE DUMP (.gsa) THAT YtjmhaeegcaapeaaProg.lean LOADS. Nothing in Lean hashes anything: it is a label: what it is worth is what the hold of that sum in a sandbox is worth. -/
noncomputable def Try.pinned : Pinned := { name := "ytjmhaeegcaapeaa", sum := "9ccdff430bebbecaec0d8bfb0b3b12dea5a8a4bfbcc5aea38a0579ec7bc52d6e", checked := Try.checked }
namespace Rows
def none {H : Type} : Left H := { results := [], args := [] }

/-- 'ratoonlaw12.LinkNew': WHATEVER THE INPUT: true; the input reads as it did. -/
def linkNewSpec : ChangeSpec := { name := "linkNew", fn := fun _ => fun
  | [d1, d2] => { results := [.lit (.bool true)], args := [d1, d2] }
  | _ => none }
def linkNewRow : OpenClaim := { program := "ytjmhaeegcaapeaa", sum := "9ccdff430bebbecaec0d8bfb0b3b12dea5a8a4bfbcc5aea38a0579ec7bc52d6e", func := "ratoon/ratoonlaw12.LinkNew", spec := "linkNew", inPlace := ["slices.overlaps[ratoon/link.Flight]"], unfollowed := true, recurses := true, apart := false }
def LinkNewSaid : Prop := linkNewRow.holds Try.pinned (OpenSpec.ofChange linkNewSpec)

/-- ITS FALSE NEIGHBOUR: 'it returns false'. Refute it at one input. -/
def linkNewWrong : ChangeSpec := { name := "linkNew", fn := fun _ => fun
  | [d1, d2] => { results := [.lit (.bool false)], args := [d1, d2] }
  | _ => none }
def LinkNewWrongFalsely : Prop := linkNewRow.holds Try.pinned (OpenSpec.ofChange linkNewWrong)

/-- 'ratoonlaw12.LinkTick': WHATEVER THE INPUT: true; the input reads as it did. -/
def linkTickSpec : ChangeSpec := { name := "linkTick", fn := fun _ => fun
  | [d] => { results := [.lit (.bool true)], args := [d] }
  | _ => none }
def linkTickRow : OpenClaim := { program := "ytjmhaeegcaapeaa", sum := "9ccdff430bebbecaec0d8bfb0b3b12dea5a8a4bfbcc5aea38a0579ec7bc52d6e", func := "ratoon/ratoonlaw12.LinkTick", spec := "linkTick", inPlace := ["slices.overlaps[ratoon/link.Flight]"], unfollowed := true, recurses := true, apart := false }
def LinkTickSaid : Prop := linkTickRow.holds Try.pinned (OpenSpec.ofChange linkTickSpec)

/-- ITS FALSE NEIGHBOUR: 'it returns false'. Refute it at one input. -/
def linkTickWrong : ChangeSpec := { name := "linkTick", fn := fun _ => fun
  | [d] => { results := [.lit (.bool false)], args := [d] }
  | _ => none }
def LinkTickWrongFalsely : Prop := linkTickRow.holds Try.pinned (OpenSpec.ofChange linkTickWrong)

/-- 'ratoonlaw12.LinkArrives': WHATEVER THE INPUT: true; the input reads as it did. -/
def linkArrivesSpec : ChangeSpec := { name := "linkArrives", fn := fun _ => fun
  | [d] => { results := [.lit (.bool true)], args := [d] }
  | _ => none }
def linkArrivesRow : OpenClaim := { program := "ytjmhaeegcaapeaa", sum := "9ccdff430bebbecaec0d8bfb0b3b12dea5a8a4bfbcc5aea38a0579ec7bc52d6e", func := "ratoon/ratoonlaw12.LinkArrives", spec := "linkArrives", inPlace := ["slices.overlaps[ratoon/link.Flight]"], unfollowed := true, recurses := true, apart := false }
def LinkArrivesSaid : Prop := linkArrivesRow.holds Try.pinned (OpenSpec.ofChange linkArrivesSpec)

/-- ITS FALSE NEIGHBOUR: 'it returns false'. Refute it at one input. -/
def linkArrivesWrong : ChangeSpec := { name := "linkArrives", fn := fun _ => fun
  | [d] => { results := [.lit (.bool false)], args := [d] }
  | _ => none }
def LinkArrivesWrongFalsely : Prop := linkArrivesRow.holds Try.pinned (OpenSpec.ofChange linkArrivesWrong)

/-- 'ratoonlaw12.LinkKept': WHATEVER THE INPUT: true; the input reads as it did. -/
def linkKeptSpec : ChangeSpec := { name := "linkKept", fn := fun _ => fun
  | [d1, d2] => { results := [.lit (.bool true)], args := [d1, d2] }
  | _ => none }
def linkKeptRow : OpenClaim := { program := "ytjmhaeegcaapeaa", sum := "9ccdff430bebbecaec0d8bfb0b3b12dea5a8a4bfbcc5aea38a0579ec7bc52d6e", func := "ratoon/ratoonlaw12.LinkKept", spec := "linkKept", inPlace := ["slices.overlaps[ratoon/link.Flight]"], unfollowed := true, recurses := true, apart := false }
def LinkKeptSaid : Prop := linkKeptRow.holds Try.pinned (OpenSpec.ofChange linkKeptSpec)

/-- ITS FALSE NEIGHBOUR: 'it returns false'. Refute it at one input. -/
def linkKeptWrong : ChangeSpec := { name := "linkKept", fn := fun _ => fun
  | [d1, d2] => { results := [.lit (.bool false)], args := [d1, d2] }
  | _ => none }
def LinkKeptWrongFalsely : Prop := linkKeptRow.holds Try.pinned (OpenSpec.ofChange linkKeptWrong)

/-- 'ratoonlaw12.LinkFate': WHATEVER THE INPUT: true; the input reads as it did. -/
def linkFateSpec : ChangeSpec := { name := "linkFate", fn := fun _ => fun
  | [d1, d2] => { results := [.lit (.bool true)], args := [d1, d2] }
  | _ => none }
def linkFateRow : OpenClaim := { program := "ytjmhaeegcaapeaa", sum := "9ccdff430bebbecaec0d8bfb0b3b12dea5a8a4bfbcc5aea38a0579ec7bc52d6e", func := "ratoon/ratoonlaw12.LinkFate", spec := "linkFate", inPlace := ["slices.overlaps[ratoon/link.Flight]"], unfollowed := true, recurses := true, apart := false }
def LinkFateSaid : Prop := linkFateRow.holds Try.pinned (OpenSpec.ofChange linkFateSpec)

/-- ITS FALSE NEIGHBOUR: 'it returns false'. Refute it at one input. -/
def linkFateWrong : ChangeSpec := { name := "linkFate", fn := fun _ => fun
  | [d1, d2] => { results := [.lit (.bool false)], args := [d1, d2] }
  | _ => none }
def LinkFateWrongFalsely : Prop := linkFateRow.holds Try.pinned (OpenSpec.ofChange linkFateWrong)

/-- 'ratoonlaw12.LinkSteady': WHATEVER THE INPUT: true; the input reads as it did. -/
def linkSteadySpec : ChangeSpec := { name := "linkSteady", fn := fun _ => fun
  | [d1, d2] => { results := [.lit (.bool true)], args := [d1, d2] }
  | _ => none }
def linkSteadyRow : OpenClaim := { program := "ytjmhaeegcaapeaa", sum := "9ccdff430bebbecaec0d8bfb0b3b12dea5a8a4bfbcc5aea38a0579ec7bc52d6e", func := "ratoon/ratoonlaw12.LinkSteady", spec := "linkSteady", inPlace := ["slices.overlaps[ratoon/link.Flight]"], unfollowed := true, recurses := true, apart := false }
def LinkSteadySaid : Prop := linkSteadyRow.holds Try.pinned (OpenSpec.ofChange linkSteadySpec)

/-- ITS FALSE NEIGHBOUR: 'it returns false'. Refute it at one input. -/
def linkSteadyWrong : ChangeSpec := { name := "linkSteady", fn := fun _ => fun
  | [d1, d2] => { results := [.lit (.bool false)], args := [d1, d2] }
  | _ => none }
def LinkSteadyWrongFalsely : Prop := linkSteadyRow.holds Try.pinned (OpenSpec.ofChange linkSteadyWrong)

/-- 'ratoonlaw12.LinkDo': WHATEVER THE INPUT: true; the input reads as it did. -/
def linkDoSpec : ChangeSpec := { name := "linkDo", fn := fun _ => fun
  | [d1, d2] => { results := [.lit (.bool true)], args := [d1, d2] }
  | _ => none }
def linkDoRow : OpenClaim := { program := "ytjmhaeegcaapeaa", sum := "9ccdff430bebbecaec0d8bfb0b3b12dea5a8a4bfbcc5aea38a0579ec7bc52d6e", func := "ratoon/ratoonlaw12.LinkDo", spec := "linkDo", inPlace := ["slices.overlaps[ratoon/link.Flight]"], unfollowed := true, recurses := true, apart := false }
def LinkDoSaid : Prop := linkDoRow.holds Try.pinned (OpenSpec.ofChange linkDoSpec)

/-- ITS FALSE NEIGHBOUR: 'it returns false'. Refute it at one input. -/
def linkDoWrong : ChangeSpec := { name := "linkDo", fn := fun _ => fun
  | [d1, d2] => { results := [.lit (.bool false)], args := [d1, d2] }
  | _ => none }
def LinkDoWrongFalsely : Prop := linkDoRow.holds Try.pinned (OpenSpec.ofChange linkDoWrong)

/-- 'ratoonlaw12.LinkOnce': WHATEVER THE INPUT: true; the input reads as it did. -/
def linkOnceSpec : ChangeSpec := { name := "linkOnce", fn := fun _ => fun
  | [d1, d2, d3] => { results := [.lit (.bool true)], args := [d1, d2, d3] }
  | _ => none }
def linkOnceRow : OpenClaim := { program := "ytjmhaeegcaapeaa", sum := "9ccdff430bebbecaec0d8bfb0b3b12dea5a8a4bfbcc5aea38a0579ec7bc52d6e", func := "ratoon/ratoonlaw12.LinkOnce", spec := "linkOnce", inPlace := ["slices.overlaps[ratoon/link.Flight]"], unfollowed := true, recurses := true, apart := false }
def LinkOnceSaid : Prop := linkOnceRow.holds Try.pinned (OpenSpec.ofChange linkOnceSpec)

/-- ITS FALSE NEIGHBOUR: 'it returns false'. Refute it at one input. -/
def linkOnceWrong : ChangeSpec := { name := "linkOnce", fn := fun _ => fun
  | [d1, d2, d3] => { results := [.lit (.bool false)], args := [d1, d2, d3] }
  | _ => none }
def LinkOnceWrongFalsely : Prop := linkOnceRow.holds Try.pinned (OpenSpec.ofChange linkOnceWrong)

/- THE SECOND FORM. 'bulk': how many values and letters a reading holds, each counted each time it is reached (what is shared counts as often as it is met; a slice's spare places count too). A statement '..UptoSaid' is the law's where the arguments, and the package variables that the reading takes, are together of bulk at most 1048576: NARROWER than '..Said'. Prove '..Said' where nothing that the law and all that it calls make is longer than what came in: it says more and counts as full. Else prove '..UptoSaid'. A law counts once. -/
mutual
def uptoBulk {H : Type} : DataW H → Nat
  | .lit (.string bytes) => bytes.length + 1
  | .lit _ => 1
  | .nil => 1
  | .ptr d => uptoBulk d + 1
  | .slice elems spare => uptoBulkAll elems + uptoBulkAll spare + 1
  | .agg parts => uptoBulkAll parts + 1
  | .iface _ d => uptoBulk d + 1
  | .map entries => uptoBulkEntries entries + 1
  | .held _ => 1
def uptoBulkAll {H : Type} : List (DataW H) → Nat
  | [] => 0
  | d :: r => uptoBulk d + uptoBulkAll r
def uptoBulkEntries {H : Type} : List (Lit × DataW H) → Nat
  | [] => 0
  | x :: r => uptoBulkEntry x + uptoBulkEntries r
def uptoBulkEntry {H : Type} : Lit × DataW H → Nat
  | (.string bytes, d) => bytes.length + uptoBulk d + 1
  | (_, d) => uptoBulk d + 1
 end
def uptoSmall : (H : Type) → List (DataW H) → Bool := fun _ ds => decide (uptoBulkAll ds ≤ 1048576)
def OpenSpec.upto (s : _root_.Go.ChangeSpec) : _root_.Go.OpenSpec := { _root_.Go.OpenSpec.ofChange s with cond := some uptoSmall }

/-- 'ratoonlaw12.LinkNew', WHERE WHAT IT READS IS OF BULK AT MOST 1048576: true; the input reads as it did. -/
def linkNewUptoRow : OpenClaim := { program := "ytjmhaeegcaapeaa", sum := "9ccdff430bebbecaec0d8bfb0b3b12dea5a8a4bfbcc5aea38a0579ec7bc52d6e", func := "ratoon/ratoonlaw12.LinkNew", spec := "linkNew", inPlace := ["slices.overlaps[ratoon/link.Flight]"], unfollowed := true, recurses := true, apart := false, narrowed := true }
def LinkNewUptoSaid : Prop := linkNewUptoRow.holds Try.pinned (OpenSpec.upto linkNewSpec)

/-- 'ratoonlaw12.LinkTick', WHERE WHAT IT READS IS OF BULK AT MOST 1048576: true; the input reads as it did. -/
def linkTickUptoRow : OpenClaim := { program := "ytjmhaeegcaapeaa", sum := "9ccdff430bebbecaec0d8bfb0b3b12dea5a8a4bfbcc5aea38a0579ec7bc52d6e", func := "ratoon/ratoonlaw12.LinkTick", spec := "linkTick", inPlace := ["slices.overlaps[ratoon/link.Flight]"], unfollowed := true, recurses := true, apart := false, narrowed := true }
def LinkTickUptoSaid : Prop := linkTickUptoRow.holds Try.pinned (OpenSpec.upto linkTickSpec)

/-- 'ratoonlaw12.LinkArrives', WHERE WHAT IT READS IS OF BULK AT MOST 1048576: true; the input reads as it did. -/
def linkArrivesUptoRow : OpenClaim := { program := "ytjmhaeegcaapeaa", sum := "9ccdff430bebbecaec0d8bfb0b3b12dea5a8a4bfbcc5aea38a0579ec7bc52d6e", func := "ratoon/ratoonlaw12.LinkArrives", spec := "linkArrives", inPlace := ["slices.overlaps[ratoon/link.Flight]"], unfollowed := true, recurses := true, apart := false, narrowed := true }
def LinkArrivesUptoSaid : Prop := linkArrivesUptoRow.holds Try.pinned (OpenSpec.upto linkArrivesSpec)

/-- 'ratoonlaw12.LinkKept', WHERE WHAT IT READS IS OF BULK AT MOST 1048576: true; the input reads as it did. -/
def linkKeptUptoRow : OpenClaim := { program := "ytjmhaeegcaapeaa", sum := "9ccdff430bebbecaec0d8bfb0b3b12dea5a8a4bfbcc5aea38a0579ec7bc52d6e", func := "ratoon/ratoonlaw12.LinkKept", spec := "linkKept", inPlace := ["slices.overlaps[ratoon/link.Flight]"], unfollowed := true, recurses := true, apart := false, narrowed := true }
def LinkKeptUptoSaid : Prop := linkKeptUptoRow.holds Try.pinned (OpenSpec.upto linkKeptSpec)

/-- 'ratoonlaw12.LinkFate', WHERE WHAT IT READS IS OF BULK AT MOST 1048576: true; the input reads as it did. -/
def linkFateUptoRow : OpenClaim := { program := "ytjmhaeegcaapeaa", sum := "9ccdff430bebbecaec0d8bfb0b3b12dea5a8a4bfbcc5aea38a0579ec7bc52d6e", func := "ratoon/ratoonlaw12.LinkFate", spec := "linkFate", inPlace := ["slices.overlaps[ratoon/link.Flight]"], unfollowed := true, recurses := true, apart := false, narrowed := true }
def LinkFateUptoSaid : Prop := linkFateUptoRow.holds Try.pinned (OpenSpec.upto linkFateSpec)

/-- 'ratoonlaw12.LinkSteady', WHERE WHAT IT READS IS OF BULK AT MOST 1048576: true; the input reads as it did. -/
def linkSteadyUptoRow : OpenClaim := { program := "ytjmhaeegcaapeaa", sum := "9ccdff430bebbecaec0d8bfb0b3b12dea5a8a4bfbcc5aea38a0579ec7bc52d6e", func := "ratoon/ratoonlaw12.LinkSteady", spec := "linkSteady", inPlace := ["slices.overlaps[ratoon/link.Flight]"], unfollowed := true, recurses := true, apart := false, narrowed := true }
def LinkSteadyUptoSaid : Prop := linkSteadyUptoRow.holds Try.pinned (OpenSpec.upto linkSteadySpec)

/-- 'ratoonlaw12.LinkDo', WHERE WHAT IT READS IS OF BULK AT MOST 1048576: true; the input reads as it did. -/
def linkDoUptoRow : OpenClaim := { program := "ytjmhaeegcaapeaa", sum := "9ccdff430bebbecaec0d8bfb0b3b12dea5a8a4bfbcc5aea38a0579ec7bc52d6e", func := "ratoon/ratoonlaw12.LinkDo", spec := "linkDo", inPlace := ["slices.overlaps[ratoon/link.Flight]"], unfollowed := true, recurses := true, apart := false, narrowed := true }
def LinkDoUptoSaid : Prop := linkDoUptoRow.holds Try.pinned (OpenSpec.upto linkDoSpec)

/-- 'ratoonlaw12.LinkOnce', WHERE WHAT IT READS IS OF BULK AT MOST 1048576: true; the input reads as it did. -/
def linkOnceUptoRow : OpenClaim := { program := "ytjmhaeegcaapeaa", sum := "9ccdff430bebbecaec0d8bfb0b3b12dea5a8a4bfbcc5aea38a0579ec7bc52d6e", func := "ratoon/ratoonlaw12.LinkOnce", spec := "linkOnce", inPlace := ["slices.overlaps[ratoon/link.Flight]"], unfollowed := true, recurses := true, apart := false, narrowed := true }
def LinkOnceUptoSaid : Prop := linkOnceUptoRow.holds Try.pinned (OpenSpec.upto linkOnceSpec)

end Rows
end Go.Proofs.Ytjmhaeegcaapeaa
