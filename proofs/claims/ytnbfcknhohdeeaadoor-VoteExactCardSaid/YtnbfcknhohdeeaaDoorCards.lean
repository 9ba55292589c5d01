/-
  DERIVED. GIVEN WITH THE SEED: THE CARDS: each row of YtnbfcknhohdeeaaDoorRows.lean that lists a variable, with what it lists TIED to the program's text (the seventh form; the later family's looks); each row that meets fmt, with fmt's text TOLD by the authors' own Lean function (tested against real Go, not proved from fmt's source: count such statements apart). THE CARD IS WHAT COUNTS. Prove the row's statement (the work); the ties are given (YtnbfcknhohdeeaaDoorTie.lean); close each card by the builder's one call (the guide's Derived/Test/ToyasCard.lean, 'card_holds'). Laid BY PROGRAM, IN A SANDBOX (cutbox-door.mjs). By AI agents, Wed Nov 11 2026. No macro, syntax, notation, axiom, sorry.
-/
import Derived.Test.YtnbfcknhohdeeaaDoorRows
import GoSem.ClaimSeven
namespace Go.Proofs.YtnbfcknhohdeeaaDoor
namespace Rows

/-- THE TIED CARD OF 'dynposlaw08.VoteAgrees'. -/
def voteAgreesCard : Claim7 := { stood := { row := voteAgreesRow, standIns := [], harness := (true, "44f8d372266826c851aab70ba3230e0f906b4c556b104e8bc747df7669ee85d8"), looks := false }, kinds := [], alts := [], laidByText := true, laidKinds := [.data, .data], laidTests := true, laidLooks := .later }
def VoteAgreesCardSaid : Prop := Claim7.holds Tryd.pinned (.plain (OpenSpec.ofChange voteAgreesSpec)) voteAgreesCard

/-- THE TIED CARD OF 'dynposlaw08.VoteRight'. -/
def voteRightCard : Claim7 := { stood := { row := voteRightRow, standIns := [], harness := (true, "44f8d372266826c851aab70ba3230e0f906b4c556b104e8bc747df7669ee85d8"), looks := false }, kinds := [], alts := [], laidByText := true, laidKinds := [.data, .data], laidTests := true, laidLooks := .later }
def VoteRightCardSaid : Prop := Claim7.holds Tryd.pinned (.plain (OpenSpec.ofChange voteRightSpec)) voteRightCard

/-- THE TIED CARD OF 'dynposlaw08.VoteOrder'. -/
def voteOrderCard : Claim7 := { stood := { row := voteOrderRow, standIns := [], harness := (true, "44f8d372266826c851aab70ba3230e0f906b4c556b104e8bc747df7669ee85d8"), looks := false }, kinds := [], alts := [], laidByText := true, laidKinds := [.data, .data], laidTests := true, laidLooks := .later }
def VoteOrderCardSaid : Prop := Claim7.holds Tryd.pinned (.plain (OpenSpec.ofChange voteOrderSpec)) voteOrderCard

/-- THE TIED CARD OF 'dynposlaw08.VoteExact'. -/
def voteExactCard : Claim7 := { stood := { row := voteExactRow, standIns := [], harness := (true, "44f8d372266826c851aab70ba3230e0f906b4c556b104e8bc747df7669ee85d8"), looks := false }, kinds := [], alts := [], laidByText := true, laidKinds := [.data, .data], laidTests := true, laidLooks := .later }
def VoteExactCardSaid : Prop := Claim7.holds Tryd.pinned (.plain (OpenSpec.ofChange voteExactSpec)) voteExactCard

/-- THE TIED CARD OF 'dynposlaw08.VoteCommon'. -/
def voteCommonCard : Claim7 := { stood := { row := voteCommonRow, standIns := [], harness := (true, "44f8d372266826c851aab70ba3230e0f906b4c556b104e8bc747df7669ee85d8"), looks := false }, kinds := [], alts := [], laidByText := true, laidKinds := [.data, .data], laidTests := true, laidLooks := .later }
def VoteCommonCardSaid : Prop := Claim7.holds Tryd.pinned (.plain (OpenSpec.ofChange voteCommonSpec)) voteCommonCard

/-- THE SECOND FORM's CARD OF 'dynposlaw08.VoteAgrees'. -/
def voteAgreesUptoCard : Claim7 := { stood := { row := voteAgreesUptoRow, standIns := [], harness := (true, "44f8d372266826c851aab70ba3230e0f906b4c556b104e8bc747df7669ee85d8"), looks := false }, kinds := [], alts := [], laidByText := true, laidKinds := [.data, .data], laidTests := true, laidLooks := .later }
def VoteAgreesUptoCardSaid : Prop := Claim7.holds Tryd.pinned (.plain (OpenSpec.upto voteAgreesSpec)) voteAgreesUptoCard

/-- THE SECOND FORM's CARD OF 'dynposlaw08.VoteRight'. -/
def voteRightUptoCard : Claim7 := { stood := { row := voteRightUptoRow, standIns := [], harness := (true, "44f8d372266826c851aab70ba3230e0f906b4c556b104e8bc747df7669ee85d8"), looks := false }, kinds := [], alts := [], laidByText := true, laidKinds := [.data, .data], laidTests := true, laidLooks := .later }
def VoteRightUptoCardSaid : Prop := Claim7.holds Tryd.pinned (.plain (OpenSpec.upto voteRightSpec)) voteRightUptoCard

/-- THE SECOND FORM's CARD OF 'dynposlaw08.VoteOrder'. -/
def voteOrderUptoCard : Claim7 := { stood := { row := voteOrderUptoRow, standIns := [], harness := (true, "44f8d372266826c851aab70ba3230e0f906b4c556b104e8bc747df7669ee85d8"), looks := false }, kinds := [], alts := [], laidByText := true, laidKinds := [.data, .data], laidTests := true, laidLooks := .later }
def VoteOrderUptoCardSaid : Prop := Claim7.holds Tryd.pinned (.plain (OpenSpec.upto voteOrderSpec)) voteOrderUptoCard

/-- THE SECOND FORM's CARD OF 'dynposlaw08.VoteExact'. -/
def voteExactUptoCard : Claim7 := { stood := { row := voteExactUptoRow, standIns := [], harness := (true, "44f8d372266826c851aab70ba3230e0f906b4c556b104e8bc747df7669ee85d8"), looks := false }, kinds := [], alts := [], laidByText := true, laidKinds := [.data, .data], laidTests := true, laidLooks := .later }
def VoteExactUptoCardSaid : Prop := Claim7.holds Tryd.pinned (.plain (OpenSpec.upto voteExactSpec)) voteExactUptoCard

/-- THE SECOND FORM's CARD OF 'dynposlaw08.VoteCommon'. -/
def voteCommonUptoCard : Claim7 := { stood := { row := voteCommonUptoRow, standIns := [], harness := (true, "44f8d372266826c851aab70ba3230e0f906b4c556b104e8bc747df7669ee85d8"), looks := false }, kinds := [], alts := [], laidByText := true, laidKinds := [.data, .data], laidTests := true, laidLooks := .later }
def VoteCommonUptoCardSaid : Prop := Claim7.holds Tryd.pinned (.plain (OpenSpec.upto voteCommonSpec)) voteCommonUptoCard
end Rows
end Go.Proofs.YtnbfcknhohdeeaaDoor
