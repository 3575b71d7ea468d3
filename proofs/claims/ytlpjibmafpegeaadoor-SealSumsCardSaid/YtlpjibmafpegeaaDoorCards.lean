/-
  DERIVED. GIVEN WITH THE SEED: THE CARDS: each row of YtlpjibmafpegeaaDoorRows.lean that lists a variable, with what it lists TIED to the program's text (the seventh form; the later family's looks); each row that meets fmt, with fmt's text TOLD by the authors' own Lean function (tested against real Go, not proved from fmt's source: count such statements apart). THE CARD IS WHAT COUNTS. Prove the row's statement (the work); the ties are given (YtlpjibmafpegeaaDoorTie.lean); close each card by the builder's one call (the guide's Derived/Test/ToyasCard.lean, 'card_holds'). Laid BY PROGRAM, IN A SANDBOX (cutbox-door.mjs). By AI agents, Wed Nov 11 2026. No macro, syntax, notation, axiom, sorry.
-/
import Derived.Test.YtlpjibmafpegeaaDoorRows
import GoSem.ClaimSeven
namespace Go.Proofs.YtlpjibmafpegeaaDoor
namespace Rows

/-- THE TIED CARD OF 'affluxlaw05.SealSums'. -/
def sealSumsCard : Claim7 := { stood := { row := sealSumsRow, standIns := [], harness := (true, "8b79c507bd9c485dd39b1318265c4f6623cd9c53a4f4cec3572da01d290f6dd3"), looks := false }, kinds := [], alts := [], laidByText := true, laidKinds := [.data], laidTests := true, laidLooks := .later }
def SealSumsCardSaid : Prop := Claim7.holds Tryd.pinned (.plain (OpenSpec.ofChange sealSumsSpec)) sealSumsCard

/-- THE TIED CARD OF 'affluxlaw05.SealLong'. -/
def sealLongCard : Claim7 := { stood := { row := sealLongRow, standIns := [], harness := (true, "8b79c507bd9c485dd39b1318265c4f6623cd9c53a4f4cec3572da01d290f6dd3"), looks := false }, kinds := [], alts := [], laidByText := true, laidKinds := [.data], laidTests := true, laidLooks := .later }
def SealLongCardSaid : Prop := Claim7.holds Tryd.pinned (.plain (OpenSpec.ofChange sealLongSpec)) sealLongCard

/-- THE TIED CARD OF 'affluxlaw05.SealTurned'. -/
def sealTurnedCard : Claim7 := { stood := { row := sealTurnedRow, standIns := [], harness := (true, "8b79c507bd9c485dd39b1318265c4f6623cd9c53a4f4cec3572da01d290f6dd3"), looks := false }, kinds := [], alts := [], laidByText := true, laidKinds := [.data], laidTests := true, laidLooks := .later }
def SealTurnedCardSaid : Prop := Claim7.holds Tryd.pinned (.plain (OpenSpec.ofChange sealTurnedSpec)) sealTurnedCard

/-- THE TIED CARD OF 'affluxlaw05.SealOpens'. -/
def sealOpensCard : Claim7 := { stood := { row := sealOpensRow, standIns := [], harness := (true, "8b79c507bd9c485dd39b1318265c4f6623cd9c53a4f4cec3572da01d290f6dd3"), looks := false }, kinds := [], alts := [], laidByText := true, laidKinds := [.data], laidTests := true, laidLooks := .later }
def SealOpensCardSaid : Prop := Claim7.holds Tryd.pinned (.plain (OpenSpec.ofChange sealOpensSpec)) sealOpensCard

/-- THE TIED CARD OF 'affluxlaw05.SealBack'. -/
def sealBackCard : Claim7 := { stood := { row := sealBackRow, standIns := [], harness := (true, "8b79c507bd9c485dd39b1318265c4f6623cd9c53a4f4cec3572da01d290f6dd3"), looks := false }, kinds := [], alts := [], laidByText := true, laidKinds := [.data], laidTests := true, laidLooks := .later }
def SealBackCardSaid : Prop := Claim7.holds Tryd.pinned (.plain (OpenSpec.ofChange sealBackSpec)) sealBackCard

/-- THE SECOND FORM's CARD OF 'affluxlaw05.SealSums'. -/
def sealSumsUptoCard : Claim7 := { stood := { row := sealSumsUptoRow, standIns := [], harness := (true, "8b79c507bd9c485dd39b1318265c4f6623cd9c53a4f4cec3572da01d290f6dd3"), looks := false }, kinds := [], alts := [], laidByText := true, laidKinds := [.data], laidTests := true, laidLooks := .later }
def SealSumsUptoCardSaid : Prop := Claim7.holds Tryd.pinned (.plain (OpenSpec.upto sealSumsSpec)) sealSumsUptoCard

/-- THE SECOND FORM's CARD OF 'affluxlaw05.SealLong'. -/
def sealLongUptoCard : Claim7 := { stood := { row := sealLongUptoRow, standIns := [], harness := (true, "8b79c507bd9c485dd39b1318265c4f6623cd9c53a4f4cec3572da01d290f6dd3"), looks := false }, kinds := [], alts := [], laidByText := true, laidKinds := [.data], laidTests := true, laidLooks := .later }
def SealLongUptoCardSaid : Prop := Claim7.holds Tryd.pinned (.plain (OpenSpec.upto sealLongSpec)) sealLongUptoCard

/-- THE SECOND FORM's CARD OF 'affluxlaw05.SealTurned'. -/
def sealTurnedUptoCard : Claim7 := { stood := { row := sealTurnedUptoRow, standIns := [], harness := (true, "8b79c507bd9c485dd39b1318265c4f6623cd9c53a4f4cec3572da01d290f6dd3"), looks := false }, kinds := [], alts := [], laidByText := true, laidKinds := [.data], laidTests := true, laidLooks := .later }
def SealTurnedUptoCardSaid : Prop := Claim7.holds Tryd.pinned (.plain (OpenSpec.upto sealTurnedSpec)) sealTurnedUptoCard

/-- THE SECOND FORM's CARD OF 'affluxlaw05.SealOpens'. -/
def sealOpensUptoCard : Claim7 := { stood := { row := sealOpensUptoRow, standIns := [], harness := (true, "8b79c507bd9c485dd39b1318265c4f6623cd9c53a4f4cec3572da01d290f6dd3"), looks := false }, kinds := [], alts := [], laidByText := true, laidKinds := [.data], laidTests := true, laidLooks := .later }
def SealOpensUptoCardSaid : Prop := Claim7.holds Tryd.pinned (.plain (OpenSpec.upto sealOpensSpec)) sealOpensUptoCard

/-- THE SECOND FORM's CARD OF 'affluxlaw05.SealBack'. -/
def sealBackUptoCard : Claim7 := { stood := { row := sealBackUptoRow, standIns := [], harness := (true, "8b79c507bd9c485dd39b1318265c4f6623cd9c53a4f4cec3572da01d290f6dd3"), looks := false }, kinds := [], alts := [], laidByText := true, laidKinds := [.data], laidTests := true, laidLooks := .later }
def SealBackUptoCardSaid : Prop := Claim7.holds Tryd.pinned (.plain (OpenSpec.upto sealBackSpec)) sealBackUptoCard
end Rows
end Go.Proofs.YtlpjibmafpegeaaDoor
