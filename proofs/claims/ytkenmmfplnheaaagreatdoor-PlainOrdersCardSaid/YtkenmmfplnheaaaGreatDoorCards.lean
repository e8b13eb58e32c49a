/-
  DERIVED. GIVEN WITH THE SEED: THE CARDS: each row of YtkenmmfplnheaaaGreatDoorRows.lean that lists a variable, with what it lists TIED to the program's text (the seventh form; the later family's looks); each row that meets fmt, with fmt's text TOLD by the authors' own Lean function (tested against real Go, not proved from fmt's source: count such statements apart). THE CARD IS WHAT COUNTS. Prove the row's statement (the work); the ties are given (YtkenmmfplnheaaaGreatDoorTie.lean); close each card by the builder's one call (the guide's Derived/Test/ToyasCard.lean, 'card_holds'). Laid BY PROGRAM, IN A SANDBOX (cutbox-door.mjs). By AI agents, Wed Nov 11 2026. No macro, syntax, notation, axiom, sorry.
-/
import Derived.Test.YtkenmmfplnheaaaGreatDoorRows
import GoSem.ClaimSeven
namespace Go.Proofs.YtkenmmfplnheaaaGreatDoor
namespace Rows

/-- THE TIED CARD OF 'screelaw15.PlainOrders'. -/
def plainOrdersCard : Claim7 := { stood := { row := plainOrdersRow, standIns := [], harness := (true, "f97bb968da29559e4f66652f6c5ee9401403d1345e472c38cc680f93c3f878c4"), looks := true }, kinds := [], alts := [], laidByText := true, laidKinds := [.data, .data, .widerDeep, .widerDeep, .data, .data, .data, .data, .data, .sentinel, .sentinel, .pinned, .pinned], laidTests := true, laidLooks := .later }
def PlainOrdersCardSaid : Prop := Claim7.holds Tryz.pinned (.plain (OpenSpec.ofChange plainOrdersSpec)) plainOrdersCard

/-- THE TIED CARD OF 'screelaw15.PlainAgree'. -/
def plainAgreeCard : Claim7 := { stood := { row := plainAgreeRow, standIns := [], harness := (true, "f97bb968da29559e4f66652f6c5ee9401403d1345e472c38cc680f93c3f878c4"), looks := true }, kinds := [], alts := [], laidByText := true, laidKinds := [.data, .data, .widerDeep, .widerDeep, .data, .data, .data, .data, .data, .sentinel, .sentinel, .pinned, .pinned], laidTests := true, laidLooks := .later }
def PlainAgreeCardSaid : Prop := Claim7.holds Tryz.pinned (.plain (OpenSpec.ofChange plainAgreeSpec)) plainAgreeCard

/-- THE SECOND FORM's CARD OF 'screelaw15.PlainOrders'. -/
def plainOrdersUptoCard : Claim7 := { stood := { row := plainOrdersUptoRow, standIns := [], harness := (true, "f97bb968da29559e4f66652f6c5ee9401403d1345e472c38cc680f93c3f878c4"), looks := true }, kinds := [], alts := [], laidByText := true, laidKinds := [.data, .data, .widerDeep, .widerDeep, .data, .data, .data, .data, .data, .sentinel, .sentinel, .pinned, .pinned], laidTests := true, laidLooks := .later }
def PlainOrdersUptoCardSaid : Prop := Claim7.holds Tryz.pinned (.plain (OpenSpec.upto plainOrdersSpec)) plainOrdersUptoCard

/-- THE SECOND FORM's CARD OF 'screelaw15.PlainAgree'. -/
def plainAgreeUptoCard : Claim7 := { stood := { row := plainAgreeUptoRow, standIns := [], harness := (true, "f97bb968da29559e4f66652f6c5ee9401403d1345e472c38cc680f93c3f878c4"), looks := true }, kinds := [], alts := [], laidByText := true, laidKinds := [.data, .data, .widerDeep, .widerDeep, .data, .data, .data, .data, .data, .sentinel, .sentinel, .pinned, .pinned], laidTests := true, laidLooks := .later }
def PlainAgreeUptoCardSaid : Prop := Claim7.holds Tryz.pinned (.plain (OpenSpec.upto plainAgreeSpec)) plainAgreeUptoCard
end Rows
end Go.Proofs.YtkenmmfplnheaaaGreatDoor
