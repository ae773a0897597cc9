/-
  DERIVED. GIVEN WITH THE SEED: THE CARDS: each row of YtgnkomiicpahcaaDoorRows.lean that lists a variable, with what it lists TIED to the program's text (the seventh form; the later family's looks); each row that meets fmt, with fmt's text TOLD by the authors' own Lean function (tested against real Go, not proved from fmt's source: count such statements apart). THE CARD IS WHAT COUNTS. Prove the row's statement (the work); the ties are given (YtgnkomiicpahcaaDoorTie.lean); close each card by the builder's one call (the guide's Derived/Test/ToyasCard.lean, 'card_holds'). Laid BY PROGRAM, IN A SANDBOX (cutbox-door.mjs). By AI agents, Wed Nov 11 2026. No macro, syntax, notation, axiom, sorry.
-/
import Derived.Test.YtgnkomiicpahcaaDoorRows
import GoSem.ClaimSeven
namespace Go.Proofs.YtgnkomiicpahcaaDoor
namespace Rows

/-- THE TIED CARD OF 'ratoonlaw19.MessagePermitted'. -/
def messagePermittedCard : Claim7 := { stood := { row := messagePermittedRow, standIns := [], harness := (true, "d825edfbc835c5737214dc2e533186dc44c18e6d4e045d3ea19aa4538e76c374"), looks := false }, kinds := [], alts := [], laidByText := true, laidKinds := [.data], laidTests := true, laidLooks := .later }
def MessagePermittedCardSaid : Prop := Claim7.holds Tryd.pinned (.plain (OpenSpec.ofChange messagePermittedSpec)) messagePermittedCard

/-- THE TIED CARD OF 'ratoonlaw19.MessageSenders'. -/
def messageSendersCard : Claim7 := { stood := { row := messageSendersRow, standIns := [], harness := (true, "d825edfbc835c5737214dc2e533186dc44c18e6d4e045d3ea19aa4538e76c374"), looks := false }, kinds := [], alts := [], laidByText := true, laidKinds := [.data], laidTests := true, laidLooks := .later }
def MessageSendersCardSaid : Prop := Claim7.holds Tryd.pinned (.plain (OpenSpec.ofChange messageSendersSpec)) messageSendersCard

/-- THE TIED CARD OF 'ratoonlaw19.MessageReceiver'. -/
def messageReceiverCard : Claim7 := { stood := { row := messageReceiverRow, standIns := [], harness := (true, "d825edfbc835c5737214dc2e533186dc44c18e6d4e045d3ea19aa4538e76c374"), looks := false }, kinds := [], alts := [], laidByText := true, laidKinds := [.data], laidTests := true, laidLooks := .later }
def MessageReceiverCardSaid : Prop := Claim7.holds Tryd.pinned (.plain (OpenSpec.ofChange messageReceiverSpec)) messageReceiverCard

/-- THE TIED CARD OF 'ratoonlaw19.MessageEffects'. -/
def messageEffectsCard : Claim7 := { stood := { row := messageEffectsRow, standIns := [], harness := (true, "d825edfbc835c5737214dc2e533186dc44c18e6d4e045d3ea19aa4538e76c374"), looks := false }, kinds := [], alts := [], laidByText := true, laidKinds := [.data], laidTests := true, laidLooks := .later }
def MessageEffectsCardSaid : Prop := Claim7.holds Tryd.pinned (.plain (OpenSpec.ofChange messageEffectsSpec)) messageEffectsCard

/-- THE TIED CARD OF 'ratoonlaw19.MessageParts'. -/
def messagePartsCard : Claim7 := { stood := { row := messagePartsRow, standIns := [], harness := (true, "d825edfbc835c5737214dc2e533186dc44c18e6d4e045d3ea19aa4538e76c374"), looks := false }, kinds := [], alts := [], laidByText := true, laidKinds := [.data], laidTests := true, laidLooks := .later }
def MessagePartsCardSaid : Prop := Claim7.holds Tryd.pinned (.plain (OpenSpec.ofChange messagePartsSpec)) messagePartsCard

/-- THE TIED CARD OF 'ratoonlaw19.MessageEffect'. -/
def messageEffectCard : Claim7 := { stood := { row := messageEffectRow, standIns := [], harness := (true, "d825edfbc835c5737214dc2e533186dc44c18e6d4e045d3ea19aa4538e76c374"), looks := false }, kinds := [], alts := [], laidByText := true, laidKinds := [.data], laidTests := true, laidLooks := .later }
def MessageEffectCardSaid : Prop := Claim7.holds Tryd.pinned (.plain (OpenSpec.ofChange messageEffectSpec)) messageEffectCard

/-- THE TIED CARD OF 'ratoonlaw19.MessageRights'. -/
def messageRightsCard : Claim7 := { stood := { row := messageRightsRow, standIns := [], harness := (true, "d825edfbc835c5737214dc2e533186dc44c18e6d4e045d3ea19aa4538e76c374"), looks := false }, kinds := [], alts := [], laidByText := true, laidKinds := [.data], laidTests := true, laidLooks := .later }
def MessageRightsCardSaid : Prop := Claim7.holds Tryd.pinned (.plain (OpenSpec.ofChange messageRightsSpec)) messageRightsCard

/-- THE SECOND FORM's CARD OF 'ratoonlaw19.MessagePermitted'. -/
def messagePermittedUptoCard : Claim7 := { stood := { row := messagePermittedUptoRow, standIns := [], harness := (true, "d825edfbc835c5737214dc2e533186dc44c18e6d4e045d3ea19aa4538e76c374"), looks := false }, kinds := [], alts := [], laidByText := true, laidKinds := [.data], laidTests := true, laidLooks := .later }
def MessagePermittedUptoCardSaid : Prop := Claim7.holds Tryd.pinned (.plain (OpenSpec.upto messagePermittedSpec)) messagePermittedUptoCard

/-- THE SECOND FORM's CARD OF 'ratoonlaw19.MessageSenders'. -/
def messageSendersUptoCard : Claim7 := { stood := { row := messageSendersUptoRow, standIns := [], harness := (true, "d825edfbc835c5737214dc2e533186dc44c18e6d4e045d3ea19aa4538e76c374"), looks := false }, kinds := [], alts := [], laidByText := true, laidKinds := [.data], laidTests := true, laidLooks := .later }
def MessageSendersUptoCardSaid : Prop := Claim7.holds Tryd.pinned (.plain (OpenSpec.upto messageSendersSpec)) messageSendersUptoCard

/-- THE SECOND FORM's CARD OF 'ratoonlaw19.MessageReceiver'. -/
def messageReceiverUptoCard : Claim7 := { stood := { row := messageReceiverUptoRow, standIns := [], harness := (true, "d825edfbc835c5737214dc2e533186dc44c18e6d4e045d3ea19aa4538e76c374"), looks := false }, kinds := [], alts := [], laidByText := true, laidKinds := [.data], laidTests := true, laidLooks := .later }
def MessageReceiverUptoCardSaid : Prop := Claim7.holds Tryd.pinned (.plain (OpenSpec.upto messageReceiverSpec)) messageReceiverUptoCard

/-- THE SECOND FORM's CARD OF 'ratoonlaw19.MessageEffects'. -/
def messageEffectsUptoCard : Claim7 := { stood := { row := messageEffectsUptoRow, standIns := [], harness := (true, "d825edfbc835c5737214dc2e533186dc44c18e6d4e045d3ea19aa4538e76c374"), looks := false }, kinds := [], alts := [], laidByText := true, laidKinds := [.data], laidTests := true, laidLooks := .later }
def MessageEffectsUptoCardSaid : Prop := Claim7.holds Tryd.pinned (.plain (OpenSpec.upto messageEffectsSpec)) messageEffectsUptoCard

/-- THE SECOND FORM's CARD OF 'ratoonlaw19.MessageParts'. -/
def messagePartsUptoCard : Claim7 := { stood := { row := messagePartsUptoRow, standIns := [], harness := (true, "d825edfbc835c5737214dc2e533186dc44c18e6d4e045d3ea19aa4538e76c374"), looks := false }, kinds := [], alts := [], laidByText := true, laidKinds := [.data], laidTests := true, laidLooks := .later }
def MessagePartsUptoCardSaid : Prop := Claim7.holds Tryd.pinned (.plain (OpenSpec.upto messagePartsSpec)) messagePartsUptoCard

/-- THE SECOND FORM's CARD OF 'ratoonlaw19.MessageEffect'. -/
def messageEffectUptoCard : Claim7 := { stood := { row := messageEffectUptoRow, standIns := [], harness := (true, "d825edfbc835c5737214dc2e533186dc44c18e6d4e045d3ea19aa4538e76c374"), looks := false }, kinds := [], alts := [], laidByText := true, laidKinds := [.data], laidTests := true, laidLooks := .later }
def MessageEffectUptoCardSaid : Prop := Claim7.holds Tryd.pinned (.plain (OpenSpec.upto messageEffectSpec)) messageEffectUptoCard

/-- THE SECOND FORM's CARD OF 'ratoonlaw19.MessageRights'. -/
def messageRightsUptoCard : Claim7 := { stood := { row := messageRightsUptoRow, standIns := [], harness := (true, "d825edfbc835c5737214dc2e533186dc44c18e6d4e045d3ea19aa4538e76c374"), looks := false }, kinds := [], alts := [], laidByText := true, laidKinds := [.data], laidTests := true, laidLooks := .later }
def MessageRightsUptoCardSaid : Prop := Claim7.holds Tryd.pinned (.plain (OpenSpec.upto messageRightsSpec)) messageRightsUptoCard
end Rows
end Go.Proofs.YtgnkomiicpahcaaDoor
