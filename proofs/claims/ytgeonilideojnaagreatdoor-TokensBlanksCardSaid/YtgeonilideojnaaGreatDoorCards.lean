/-
  DERIVED. GIVEN WITH THE SEED: THE CARDS: each row of YtgeonilideojnaaGreatDoorRows.lean that lists a variable, with what it lists TIED to the program's text (the seventh form; the later family's looks); each row that meets fmt, with fmt's text TOLD by the authors' own Lean function (tested against real Go, not proved from fmt's source: count such statements apart). THE CARD IS WHAT COUNTS. Prove the row's statement (the work); the ties are given (YtgeonilideojnaaGreatDoorTie.lean); close each card by the builder's one call (the guide's Derived/Test/ToyasCard.lean, 'card_holds'). Laid BY PROGRAM, IN A SANDBOX (cutbox-door.mjs). By AI agents, Wed Nov 11 2026. No macro, syntax, notation, axiom, sorry.
-/
import Derived.Test.YtgeonilideojnaaGreatDoorRows
import GoSem.ClaimSeven
namespace Go.Proofs.YtgeonilideojnaaGreatDoor
namespace Rows

/-- THE TIED CARD OF 'cinnabarlaw01.TokensRead'. -/
def tokensReadCard : Claim7 := { stood := { row := tokensReadRow, standIns := [], harness := (true, "665b99ac99360173511c14b8ca128cfc928be2ec3ee8f78b1c704b7227bf8d04"), looks := true }, kinds := [], alts := [], laidByText := true, laidKinds := [.data, .data, .data, .data, .sentinel, .sentinel, .pinned], laidTests := true, laidLooks := .later }
def TokensReadCardSaid : Prop := Claim7.holds Tryz.pinned (.plain (OpenSpec.ofChange tokensReadSpec)) tokensReadCard

/-- THE TIED CARD OF 'cinnabarlaw01.TokensWrite'. -/
def tokensWriteCard : Claim7 := { stood := { row := tokensWriteRow, standIns := [], harness := (true, "665b99ac99360173511c14b8ca128cfc928be2ec3ee8f78b1c704b7227bf8d04"), looks := true }, kinds := [], alts := [], laidByText := true, laidKinds := [.data, .data, .data, .data, .sentinel, .sentinel, .pinned], laidTests := true, laidLooks := .later }
def TokensWriteCardSaid : Prop := Claim7.holds Tryz.pinned (.plain (OpenSpec.ofChange tokensWriteSpec)) tokensWriteCard

/-- THE TIED CARD OF 'cinnabarlaw01.TokensCheck'. -/
def tokensCheckCard : Claim7 := { stood := { row := tokensCheckRow, standIns := [], harness := (true, "665b99ac99360173511c14b8ca128cfc928be2ec3ee8f78b1c704b7227bf8d04"), looks := true }, kinds := [], alts := [], laidByText := true, laidKinds := [.data, .data, .data, .data, .sentinel, .sentinel, .pinned], laidTests := true, laidLooks := .later }
def TokensCheckCardSaid : Prop := Claim7.holds Tryz.pinned (.plain (OpenSpec.ofChange tokensCheckSpec)) tokensCheckCard

/-- THE TIED CARD OF 'cinnabarlaw01.TokensBack'. -/
def tokensBackCard : Claim7 := { stood := { row := tokensBackRow, standIns := [], harness := (true, "665b99ac99360173511c14b8ca128cfc928be2ec3ee8f78b1c704b7227bf8d04"), looks := true }, kinds := [], alts := [], laidByText := true, laidKinds := [.data, .data, .data, .data, .sentinel, .sentinel, .pinned], laidTests := true, laidLooks := .later }
def TokensBackCardSaid : Prop := Claim7.holds Tryz.pinned (.plain (OpenSpec.ofChange tokensBackSpec)) tokensBackCard

/-- THE TIED CARD OF 'cinnabarlaw01.TokensBlanks'. -/
def tokensBlanksCard : Claim7 := { stood := { row := tokensBlanksRow, standIns := [], harness := (true, "665b99ac99360173511c14b8ca128cfc928be2ec3ee8f78b1c704b7227bf8d04"), looks := true }, kinds := [], alts := [], laidByText := true, laidKinds := [.data, .data, .data, .data, .sentinel, .sentinel, .pinned], laidTests := true, laidLooks := .later }
def TokensBlanksCardSaid : Prop := Claim7.holds Tryz.pinned (.plain (OpenSpec.ofChange tokensBlanksSpec)) tokensBlanksCard

/-- THE TIED CARD OF 'cinnabarlaw01.TokensRight'. -/
def tokensRightCard : Claim7 := { stood := { row := tokensRightRow, standIns := [], harness := (true, "665b99ac99360173511c14b8ca128cfc928be2ec3ee8f78b1c704b7227bf8d04"), looks := true }, kinds := [], alts := [], laidByText := true, laidKinds := [.data, .data, .data, .data, .sentinel, .sentinel, .pinned], laidTests := true, laidLooks := .later }
def TokensRightCardSaid : Prop := Claim7.holds Tryz.pinned (.plain (OpenSpec.ofChange tokensRightSpec)) tokensRightCard

/-- THE SECOND FORM's CARD OF 'cinnabarlaw01.TokensRead'. -/
def tokensReadUptoCard : Claim7 := { stood := { row := tokensReadUptoRow, standIns := [], harness := (true, "665b99ac99360173511c14b8ca128cfc928be2ec3ee8f78b1c704b7227bf8d04"), looks := true }, kinds := [], alts := [], laidByText := true, laidKinds := [.data, .data, .data, .data, .sentinel, .sentinel, .pinned], laidTests := true, laidLooks := .later }
def TokensReadUptoCardSaid : Prop := Claim7.holds Tryz.pinned (.plain (OpenSpec.upto tokensReadSpec)) tokensReadUptoCard

/-- THE SECOND FORM's CARD OF 'cinnabarlaw01.TokensWrite'. -/
def tokensWriteUptoCard : Claim7 := { stood := { row := tokensWriteUptoRow, standIns := [], harness := (true, "665b99ac99360173511c14b8ca128cfc928be2ec3ee8f78b1c704b7227bf8d04"), looks := true }, kinds := [], alts := [], laidByText := true, laidKinds := [.data, .data, .data, .data, .sentinel, .sentinel, .pinned], laidTests := true, laidLooks := .later }
def TokensWriteUptoCardSaid : Prop := Claim7.holds Tryz.pinned (.plain (OpenSpec.upto tokensWriteSpec)) tokensWriteUptoCard

/-- THE SECOND FORM's CARD OF 'cinnabarlaw01.TokensCheck'. -/
def tokensCheckUptoCard : Claim7 := { stood := { row := tokensCheckUptoRow, standIns := [], harness := (true, "665b99ac99360173511c14b8ca128cfc928be2ec3ee8f78b1c704b7227bf8d04"), looks := true }, kinds := [], alts := [], laidByText := true, laidKinds := [.data, .data, .data, .data, .sentinel, .sentinel, .pinned], laidTests := true, laidLooks := .later }
def TokensCheckUptoCardSaid : Prop := Claim7.holds Tryz.pinned (.plain (OpenSpec.upto tokensCheckSpec)) tokensCheckUptoCard

/-- THE SECOND FORM's CARD OF 'cinnabarlaw01.TokensBack'. -/
def tokensBackUptoCard : Claim7 := { stood := { row := tokensBackUptoRow, standIns := [], harness := (true, "665b99ac99360173511c14b8ca128cfc928be2ec3ee8f78b1c704b7227bf8d04"), looks := true }, kinds := [], alts := [], laidByText := true, laidKinds := [.data, .data, .data, .data, .sentinel, .sentinel, .pinned], laidTests := true, laidLooks := .later }
def TokensBackUptoCardSaid : Prop := Claim7.holds Tryz.pinned (.plain (OpenSpec.upto tokensBackSpec)) tokensBackUptoCard

/-- THE SECOND FORM's CARD OF 'cinnabarlaw01.TokensBlanks'. -/
def tokensBlanksUptoCard : Claim7 := { stood := { row := tokensBlanksUptoRow, standIns := [], harness := (true, "665b99ac99360173511c14b8ca128cfc928be2ec3ee8f78b1c704b7227bf8d04"), looks := true }, kinds := [], alts := [], laidByText := true, laidKinds := [.data, .data, .data, .data, .sentinel, .sentinel, .pinned], laidTests := true, laidLooks := .later }
def TokensBlanksUptoCardSaid : Prop := Claim7.holds Tryz.pinned (.plain (OpenSpec.upto tokensBlanksSpec)) tokensBlanksUptoCard

/-- THE SECOND FORM's CARD OF 'cinnabarlaw01.TokensRight'. -/
def tokensRightUptoCard : Claim7 := { stood := { row := tokensRightUptoRow, standIns := [], harness := (true, "665b99ac99360173511c14b8ca128cfc928be2ec3ee8f78b1c704b7227bf8d04"), looks := true }, kinds := [], alts := [], laidByText := true, laidKinds := [.data, .data, .data, .data, .sentinel, .sentinel, .pinned], laidTests := true, laidLooks := .later }
def TokensRightUptoCardSaid : Prop := Claim7.holds Tryz.pinned (.plain (OpenSpec.upto tokensRightSpec)) tokensRightUptoCard
end Rows
end Go.Proofs.YtgeonilideojnaaGreatDoor
