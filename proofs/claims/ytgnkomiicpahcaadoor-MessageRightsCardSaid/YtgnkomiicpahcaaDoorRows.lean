/-
  NARROWER THAN 'FOR EVERY INPUT', by the rows' own cells (each row's printed sentence says how): MessagePermitted: laid · MessageSenders: laid · MessageReceiver: laid · MessageEffects: laid · MessageParts: laid · MessageEffect: laid · MessageRights: laid.
  DERIVED. THE GIVEN ROWS OF THIS SEAT. 7 by the template 'for every input the law returns true; each argument reads behind the call as it read before'; 0 by the template 'total and deterministic' (their statements: YtgnkomiicpahcaaDoorTotals.lean).
  GIVEN WITH THE SEED: the statements are not yours to turn. If you find one false, say at which input.
  Laid BY PROGRAM, IN A SANDBOX (cutbox-rows.mjs): the forced cells as the released guide's own fill.sh prints them over the translation cda25d3ef8c06429… (all of the seat's roots in one cut). By AI agents, Wed Nov 11 2026. No macro, syntax, notation, axiom, sorry.
-/
import Derived.Test.YtgnkomiicpahcaaDoorChecked
import GoSem.Claim
import GoSem.ClaimJoined
import GoSem.ClaimMapViews
import Derived.JoinedTies
import Derived.KernelRfl
namespace Go.Proofs.YtgnkomiicpahcaaDoor
/- THE CELL 'sum', in the pinned program and in every row, IS THE sha256 OF THE DUMP (.gsa) THAT YtgnkomiicpahcaaDoorProg.lean LOADS. Nothing in Lean hashes anything: it is a label: what it is worth is what the hold of that sum in a sandbox is worth. -/
noncomputable def Tryd.pinned : Pinned := { name := "ytgnkomiicpahcaadoor", sum := "cda25d3ef8c06429798db6881130a5807f5a8048e64067a7bef11dc27c1d83db", checked := Tryd.checked }
namespace Rows
def none {H : Type} : Left H := { results := [], args := [] }

/- WHAT THE LISTED PACKAGE-LEVEL VARIABLES READ AS WHEN THE CALL BEGINS. Each datum BY PROGRAM (the guide's laid-datum.mjs) off the statement by which the dump's own 'gosem.cut.vars' lays the variable. In a bare row this is a premise. The card (YtgnkomiicpahcaaDoorCards.lean) ties it to the program's text. -/
def laid_ratoon_message_forms {H : Type} : DataW H := .agg [.agg [.lit (.int .i64 0), .lit (.int .i64 0), .lit (.string []), .lit (.int .i64 0)], .agg [.lit (.int .i64 (-1)), .lit (.int .i64 (-1)), .lit (.string [115, 42, 42, 42]), .lit (.int .i64 128)], .agg [.lit (.int .i64 (-1)), .lit (.int .i64 4), .lit (.string [112, 98]), .lit (.int .i64 0)], .agg [.lit (.int .i64 0), .lit (.int .i64 (-1)), .lit (.string [100, 110, 42, 42]), .lit (.int .i64 128)], .agg [.lit (.int .i64 0), .lit (.int .i64 (-1)), .lit (.string [42, 110]), .lit (.int .i64 0)], .agg [.lit (.int .i64 0), .lit (.int .i64 1), .lit (.string [99, 120]), .lit (.int .i64 0)], .agg [.lit (.int .i64 1), .lit (.int .i64 (-1)), .lit (.string [110]), .lit (.int .i64 0)], .agg [.lit (.int .i64 (-1)), .lit (.int .i64 1), .lit (.string [110]), .lit (.int .i64 0)], .agg [.lit (.int .i64 3), .lit (.int .i64 4), .lit (.string [117, 117]), .lit (.int .i64 0)], .agg [.lit (.int .i64 3), .lit (.int .i64 4), .lit (.string [117]), .lit (.int .i64 1536)], .agg [.lit (.int .i64 3), .lit (.int .i64 4), .lit (.string [117]), .lit (.int .i64 0)], .agg [.lit (.int .i64 4), .lit (.int .i64 3), .lit (.string [117, 101, 110]), .lit (.int .i64 0)], .agg [.lit (.int .i64 3), .lit (.int .i64 5), .lit (.string [117, 117]), .lit (.int .i64 0)], .agg [.lit (.int .i64 3), .lit (.int .i64 5), .lit (.string [117]), .lit (.int .i64 128)], .agg [.lit (.int .i64 3), .lit (.int .i64 5), .lit (.string [117]), .lit (.int .i64 0)], .agg [.lit (.int .i64 5), .lit (.int .i64 3), .lit (.string [117, 101]), .lit (.int .i64 1536)], .agg [.lit (.int .i64 3), .lit (.int .i64 10), .lit (.string [117]), .lit (.int .i64 0)], .agg [.lit (.int .i64 10), .lit (.int .i64 3), .lit (.string [117]), .lit (.int .i64 0)], .agg [.lit (.int .i64 5), .lit (.int .i64 6), .lit (.string [111, 42, 42, 42]), .lit (.int .i64 128)], .agg [.lit (.int .i64 6), .lit (.int .i64 5), .lit (.string [101, 42, 121]), .lit (.int .i64 1536)], .agg [.lit (.int .i64 (-1)), .lit (.int .i64 7), .lit (.string [98, 107, 103]), .lit (.int .i64 128)], .agg [.lit (.int .i64 7), .lit (.int .i64 (-1)), .lit (.string [101, 107]), .lit (.int .i64 128)], .agg [.lit (.int .i64 5), .lit (.int .i64 9), .lit (.string [109, 117, 110]), .lit (.int .i64 128)], .agg [.lit (.int .i64 9), .lit (.int .i64 5), .lit (.string [117, 101]), .lit (.int .i64 128)], .agg [.lit (.int .i64 5), .lit (.int .i64 8), .lit (.string [113, 42, 42, 42]), .lit (.int .i64 128)], .agg [.lit (.int .i64 8), .lit (.int .i64 5), .lit (.string [117, 101, 42]), .lit (.int .i64 128)], .agg [.lit (.int .i64 (-1)), .lit (.int .i64 2), .lit (.string [122, 42]), .lit (.int .i64 128)], .agg [.lit (.int .i64 2), .lit (.int .i64 (-1)), .lit (.string [101, 42]), .lit (.int .i64 128)]]

/-- 'ratoonlaw19.MessagePermitted': WHATEVER THE INPUT: true; the input reads as it did. -/
def messagePermittedSpec : ChangeSpec := { name := "messagePermitted", fn := fun _ => fun
  | [d1, d2] => { results := [.lit (.bool true)], args := [d1, d2] }
  | _ => none }
def messagePermittedRow : OpenClaim := { program := "ytgnkomiicpahcaadoor", sum := "cda25d3ef8c06429798db6881130a5807f5a8048e64067a7bef11dc27c1d83db", func := "ratoon/ratoonlaw19.MessagePermitted", spec := "messagePermitted", named := ["ratoon/message.forms"], plainKeys := false, apart := false, laid := [("ratoon/message.forms", laid_ratoon_message_forms)] }
def MessagePermittedSaid : Prop := messagePermittedRow.holds Tryd.pinned (OpenSpec.ofChange messagePermittedSpec)

/-- ITS FALSE NEIGHBOUR: 'it returns false'. Refute it at one input. -/
def messagePermittedWrong : ChangeSpec := { name := "messagePermitted", fn := fun _ => fun
  | [d1, d2] => { results := [.lit (.bool false)], args := [d1, d2] }
  | _ => none }
def MessagePermittedWrongFalsely : Prop := messagePermittedRow.holds Tryd.pinned (OpenSpec.ofChange messagePermittedWrong)

/-- 'ratoonlaw19.MessageSenders': WHATEVER THE INPUT: true; the input reads as it did. -/
def messageSendersSpec : ChangeSpec := { name := "messageSenders", fn := fun _ => fun
  | [d1, d2, d3] => { results := [.lit (.bool true)], args := [d1, d2, d3] }
  | _ => none }
def messageSendersRow : OpenClaim := { program := "ytgnkomiicpahcaadoor", sum := "cda25d3ef8c06429798db6881130a5807f5a8048e64067a7bef11dc27c1d83db", func := "ratoon/ratoonlaw19.MessageSenders", spec := "messageSenders", named := ["ratoon/message.forms"], plainKeys := false, apart := false, laid := [("ratoon/message.forms", laid_ratoon_message_forms)] }
def MessageSendersSaid : Prop := messageSendersRow.holds Tryd.pinned (OpenSpec.ofChange messageSendersSpec)

/-- ITS FALSE NEIGHBOUR: 'it returns false'. Refute it at one input. -/
def messageSendersWrong : ChangeSpec := { name := "messageSenders", fn := fun _ => fun
  | [d1, d2, d3] => { results := [.lit (.bool false)], args := [d1, d2, d3] }
  | _ => none }
def MessageSendersWrongFalsely : Prop := messageSendersRow.holds Tryd.pinned (OpenSpec.ofChange messageSendersWrong)

/-- 'ratoonlaw19.MessageReceiver': WHATEVER THE INPUT: true; the input reads as it did. -/
def messageReceiverSpec : ChangeSpec := { name := "messageReceiver", fn := fun _ => fun
  | [d1, d2] => { results := [.lit (.bool true)], args := [d1, d2] }
  | _ => none }
def messageReceiverRow : OpenClaim := { program := "ytgnkomiicpahcaadoor", sum := "cda25d3ef8c06429798db6881130a5807f5a8048e64067a7bef11dc27c1d83db", func := "ratoon/ratoonlaw19.MessageReceiver", spec := "messageReceiver", named := ["ratoon/message.forms"], plainKeys := false, apart := false, laid := [("ratoon/message.forms", laid_ratoon_message_forms)] }
def MessageReceiverSaid : Prop := messageReceiverRow.holds Tryd.pinned (OpenSpec.ofChange messageReceiverSpec)

/-- ITS FALSE NEIGHBOUR: 'it returns false'. Refute it at one input. -/
def messageReceiverWrong : ChangeSpec := { name := "messageReceiver", fn := fun _ => fun
  | [d1, d2] => { results := [.lit (.bool false)], args := [d1, d2] }
  | _ => none }
def MessageReceiverWrongFalsely : Prop := messageReceiverRow.holds Tryd.pinned (OpenSpec.ofChange messageReceiverWrong)

/-- 'ratoonlaw19.MessageEffects': WHATEVER THE INPUT: true; the input reads as it did. -/
def messageEffectsSpec : ChangeSpec := { name := "messageEffects", fn := fun _ => fun
  | [d1, d2] => { results := [.lit (.bool true)], args := [d1, d2] }
  | _ => none }
def messageEffectsRow : OpenClaim := { program := "ytgnkomiicpahcaadoor", sum := "cda25d3ef8c06429798db6881130a5807f5a8048e64067a7bef11dc27c1d83db", func := "ratoon/ratoonlaw19.MessageEffects", spec := "messageEffects", named := ["ratoon/message.forms"], plainKeys := false, apart := false, laid := [("ratoon/message.forms", laid_ratoon_message_forms)] }
def MessageEffectsSaid : Prop := messageEffectsRow.holds Tryd.pinned (OpenSpec.ofChange messageEffectsSpec)

/-- ITS FALSE NEIGHBOUR: 'it returns false'. Refute it at one input. -/
def messageEffectsWrong : ChangeSpec := { name := "messageEffects", fn := fun _ => fun
  | [d1, d2] => { results := [.lit (.bool false)], args := [d1, d2] }
  | _ => none }
def MessageEffectsWrongFalsely : Prop := messageEffectsRow.holds Tryd.pinned (OpenSpec.ofChange messageEffectsWrong)

/-- 'ratoonlaw19.MessageParts': WHATEVER THE INPUT: true; the input reads as it did. -/
def messagePartsSpec : ChangeSpec := { name := "messageParts", fn := fun _ => fun
  | [d1, d2, d3] => { results := [.lit (.bool true)], args := [d1, d2, d3] }
  | _ => none }
def messagePartsRow : OpenClaim := { program := "ytgnkomiicpahcaadoor", sum := "cda25d3ef8c06429798db6881130a5807f5a8048e64067a7bef11dc27c1d83db", func := "ratoon/ratoonlaw19.MessageParts", spec := "messageParts", named := ["ratoon/message.forms"], plainKeys := false, apart := false, laid := [("ratoon/message.forms", laid_ratoon_message_forms)] }
def MessagePartsSaid : Prop := messagePartsRow.holds Tryd.pinned (OpenSpec.ofChange messagePartsSpec)

/-- ITS FALSE NEIGHBOUR: 'it returns false'. Refute it at one input. -/
def messagePartsWrong : ChangeSpec := { name := "messageParts", fn := fun _ => fun
  | [d1, d2, d3] => { results := [.lit (.bool false)], args := [d1, d2, d3] }
  | _ => none }
def MessagePartsWrongFalsely : Prop := messagePartsRow.holds Tryd.pinned (OpenSpec.ofChange messagePartsWrong)

/-- 'ratoonlaw19.MessageEffect': WHATEVER THE INPUT: true; the input reads as it did. -/
def messageEffectSpec : ChangeSpec := { name := "messageEffect", fn := fun _ => fun
  | [d1, d2] => { results := [.lit (.bool true)], args := [d1, d2] }
  | _ => none }
def messageEffectRow : OpenClaim := { program := "ytgnkomiicpahcaadoor", sum := "cda25d3ef8c06429798db6881130a5807f5a8048e64067a7bef11dc27c1d83db", func := "ratoon/ratoonlaw19.MessageEffect", spec := "messageEffect", named := ["ratoon/message.forms"], plainKeys := false, apart := false, laid := [("ratoon/message.forms", laid_ratoon_message_forms)] }
def MessageEffectSaid : Prop := messageEffectRow.holds Tryd.pinned (OpenSpec.ofChange messageEffectSpec)

/-- ITS FALSE NEIGHBOUR: 'it returns false'. Refute it at one input. -/
def messageEffectWrong : ChangeSpec := { name := "messageEffect", fn := fun _ => fun
  | [d1, d2] => { results := [.lit (.bool false)], args := [d1, d2] }
  | _ => none }
def MessageEffectWrongFalsely : Prop := messageEffectRow.holds Tryd.pinned (OpenSpec.ofChange messageEffectWrong)

/-- 'ratoonlaw19.MessageRights': WHATEVER THE INPUT: true; the input reads as it did. -/
def messageRightsSpec : ChangeSpec := { name := "messageRights", fn := fun _ => fun
  | [d1, d2] => { results := [.lit (.bool true)], args := [d1, d2] }
  | _ => none }
def messageRightsRow : OpenClaim := { program := "ytgnkomiicpahcaadoor", sum := "cda25d3ef8c06429798db6881130a5807f5a8048e64067a7bef11dc27c1d83db", func := "ratoon/ratoonlaw19.MessageRights", spec := "messageRights", unfollowed := true, recurses := true, named := ["ratoon/message.forms"], plainKeys := false, apart := false, laid := [("ratoon/message.forms", laid_ratoon_message_forms)] }
def MessageRightsSaid : Prop := messageRightsRow.holds Tryd.pinned (OpenSpec.ofChange messageRightsSpec)

/-- ITS FALSE NEIGHBOUR: 'it returns false'. Refute it at one input. -/
def messageRightsWrong : ChangeSpec := { name := "messageRights", fn := fun _ => fun
  | [d1, d2] => { results := [.lit (.bool false)], args := [d1, d2] }
  | _ => none }
def MessageRightsWrongFalsely : Prop := messageRightsRow.holds Tryd.pinned (OpenSpec.ofChange messageRightsWrong)

/- THE SECOND FORM. 'bulk': how many values and letters a reading holds, each counted each time it is reached (what is shared counts as often as it is met; a slice's spare places count too). A statement '..UptoSaid' is the law's where the arguments, and the package variables that the reading takes, are together of bulk at most 1048576: NARROWER than '..Said'. Prove '..Said' where nothing that the law and all that it calls make is longer than what came in: it says more and counts as full. Else prove '..UptoSaid'. A law counts once. -/
mutual
def uptoBulk {H : Type} : DataW H → Nat
  | .lit (.string bytes) => bytes.length + 1
  | .lit _ => 1
  | .nil => 1
  | .ptr d => uptoBulk d + 1
  | .slice elems spare => uptoBulkAll elems + uptoBulkAll spare + 1
  | .agg parts => uptoBulkAll parts + 1
  | .iface _ d => uptoBulk d + 1
  | .map entries => uptoBulkEntries entries + 1
  | .held _ => 1
def uptoBulkAll {H : Type} : List (DataW H) → Nat
  | [] => 0
  | d :: r => uptoBulk d + uptoBulkAll r
def uptoBulkEntries {H : Type} : List (Lit × DataW H) → Nat
  | [] => 0
  | x :: r => uptoBulkEntry x + uptoBulkEntries r
def uptoBulkEntry {H : Type} : Lit × DataW H → Nat
  | (.string bytes, d) => bytes.length + uptoBulk d + 1
  | (_, d) => uptoBulk d + 1
 end
def uptoSmall : (H : Type) → List (DataW H) → Bool := fun _ ds => decide (uptoBulkAll ds ≤ 1048576)
def OpenSpec.upto (s : _root_.Go.ChangeSpec) : _root_.Go.OpenSpec := { _root_.Go.OpenSpec.ofChange s with cond := some uptoSmall }

/-- 'ratoonlaw19.MessagePermitted', WHERE WHAT IT READS IS OF BULK AT MOST 1048576: true; the input reads as it did. -/
def messagePermittedUptoRow : OpenClaim := { program := "ytgnkomiicpahcaadoor", sum := "cda25d3ef8c06429798db6881130a5807f5a8048e64067a7bef11dc27c1d83db", func := "ratoon/ratoonlaw19.MessagePermitted", spec := "messagePermitted", named := ["ratoon/message.forms"], plainKeys := false, apart := false, laid := [("ratoon/message.forms", laid_ratoon_message_forms)], narrowed := true }
def MessagePermittedUptoSaid : Prop := messagePermittedUptoRow.holds Tryd.pinned (OpenSpec.upto messagePermittedSpec)

/-- 'ratoonlaw19.MessageSenders', WHERE WHAT IT READS IS OF BULK AT MOST 1048576: true; the input reads as it did. -/
def messageSendersUptoRow : OpenClaim := { program := "ytgnkomiicpahcaadoor", sum := "cda25d3ef8c06429798db6881130a5807f5a8048e64067a7bef11dc27c1d83db", func := "ratoon/ratoonlaw19.MessageSenders", spec := "messageSenders", named := ["ratoon/message.forms"], plainKeys := false, apart := false, laid := [("ratoon/message.forms", laid_ratoon_message_forms)], narrowed := true }
def MessageSendersUptoSaid : Prop := messageSendersUptoRow.holds Tryd.pinned (OpenSpec.upto messageSendersSpec)

/-- 'ratoonlaw19.MessageReceiver', WHERE WHAT IT READS IS OF BULK AT MOST 1048576: true; the input reads as it did. -/
def messageReceiverUptoRow : OpenClaim := { program := "ytgnkomiicpahcaadoor", sum := "cda25d3ef8c06429798db6881130a5807f5a8048e64067a7bef11dc27c1d83db", func := "ratoon/ratoonlaw19.MessageReceiver", spec := "messageReceiver", named := ["ratoon/message.forms"], plainKeys := false, apart := false, laid := [("ratoon/message.forms", laid_ratoon_message_forms)], narrowed := true }
def MessageReceiverUptoSaid : Prop := messageReceiverUptoRow.holds Tryd.pinned (OpenSpec.upto messageReceiverSpec)

/-- 'ratoonlaw19.MessageEffects', WHERE WHAT IT READS IS OF BULK AT MOST 1048576: true; the input reads as it did. -/
def messageEffectsUptoRow : OpenClaim := { program := "ytgnkomiicpahcaadoor", sum := "cda25d3ef8c06429798db6881130a5807f5a8048e64067a7bef11dc27c1d83db", func := "ratoon/ratoonlaw19.MessageEffects", spec := "messageEffects", named := ["ratoon/message.forms"], plainKeys := false, apart := false, laid := [("ratoon/message.forms", laid_ratoon_message_forms)], narrowed := true }
def MessageEffectsUptoSaid : Prop := messageEffectsUptoRow.holds Tryd.pinned (OpenSpec.upto messageEffectsSpec)

/-- 'ratoonlaw19.MessageParts', WHERE WHAT IT READS IS OF BULK AT MOST 1048576: true; the input reads as it did. -/
def messagePartsUptoRow : OpenClaim := { program := "ytgnkomiicpahcaadoor", sum := "cda25d3ef8c06429798db6881130a5807f5a8048e64067a7bef11dc27c1d83db", func := "ratoon/ratoonlaw19.MessageParts", spec := "messageParts", named := ["ratoon/message.forms"], plainKeys := false, apart := false, laid := [("ratoon/message.forms", laid_ratoon_message_forms)], narrowed := true }
def MessagePartsUptoSaid : Prop := messagePartsUptoRow.holds Tryd.pinned (OpenSpec.upto messagePartsSpec)

/-- 'ratoonlaw19.MessageEffect', WHERE WHAT IT READS IS OF BULK AT MOST 1048576: true; the input reads as it did. -/
def messageEffectUptoRow : OpenClaim := { program := "ytgnkomiicpahcaadoor", sum := "cda25d3ef8c06429798db6881130a5807f5a8048e64067a7bef11dc27c1d83db", func := "ratoon/ratoonlaw19.MessageEffect", spec := "messageEffect", named := ["ratoon/message.forms"], plainKeys := false, apart := false, laid := [("ratoon/message.forms", laid_ratoon_message_forms)], narrowed := true }
def MessageEffectUptoSaid : Prop := messageEffectUptoRow.holds Tryd.pinned (OpenSpec.upto messageEffectSpec)

/-- 'ratoonlaw19.MessageRights', WHERE WHAT IT READS IS OF BULK AT MOST 1048576: true; the input reads as it did. -/
def messageRightsUptoRow : OpenClaim := { program := "ytgnkomiicpahcaadoor", sum := "cda25d3ef8c06429798db6881130a5807f5a8048e64067a7bef11dc27c1d83db", func := "ratoon/ratoonlaw19.MessageRights", spec := "messageRights", unfollowed := true, recurses := true, named := ["ratoon/message.forms"], plainKeys := false, apart := false, laid := [("ratoon/message.forms", laid_ratoon_message_forms)], narrowed := true }
def MessageRightsUptoSaid : Prop := messageRightsUptoRow.holds Tryd.pinned (OpenSpec.upto messageRightsSpec)

end Rows
end Go.Proofs.YtgnkomiicpahcaaDoor
