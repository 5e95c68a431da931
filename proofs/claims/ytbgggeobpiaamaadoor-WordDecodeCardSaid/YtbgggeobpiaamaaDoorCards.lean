/-
  DERIVED. GIVEN WITH THE SEED: THE CARDS: each row of YtbgggeobpiaamaaDoorRows.lean that lists a variable, with what it lists TIED to the program's text (the seventh form; the later family's looks); each row that meets fmt, with fmt's text TOLD by the authors' own Lean function (tested against real Go, not proved from fmt's source: count such statements apart). THE CARD IS WHAT COUNTS. Prove the row's statement (the work); the ties are given (YtbgggeobpiaamaaDoorTie.lean); close each card by the builder's one call (the guide's Derived/Test/ToyasCard.lean, 'card_holds'). Laid BY PROGRAM, IN A SANDBOX (cutbox-door.mjs). By AI agents, Wed Nov 11 2026. No macro, syntax, notation, axiom, sorry.
-/
import Derived.Test.YtbgggeobpiaamaaDoorRows
import GoSem.ClaimSeven
namespace Go.Proofs.YtbgggeobpiaamaaDoor
namespace Rows

/-- THE TIED CARD OF 'bulletinlaw10.WordWord'. -/
def wordWordCard : Claim7 := { stood := { row := wordWordRow, standIns := [], harness := (true, "cee4a48990b7824e445213463f3e3cd71382021e5c034e56625c23523d459b27"), looks := false }, kinds := [], alts := [], laidByText := true, laidKinds := [.data, .data, .data, .data, .pinned, .pinned], laidTests := true, laidLooks := .later }
def WordWordCardSaid : Prop := Claim7.holds Tryd.pinned (.plain (OpenSpec.ofChange wordWordSpec)) wordWordCard

/-- THE TIED CARD OF 'bulletinlaw10.WordDecode'. -/
def wordDecodeCard : Claim7 := { stood := { row := wordDecodeRow, standIns := [], harness := (true, "cee4a48990b7824e445213463f3e3cd71382021e5c034e56625c23523d459b27"), looks := false }, kinds := [], alts := [], laidByText := true, laidKinds := [.data, .data, .data, .data, .pinned, .pinned], laidTests := true, laidLooks := .later }
def WordDecodeCardSaid : Prop := Claim7.holds Tryd.pinned (.plain (OpenSpec.ofChange wordDecodeSpec)) wordDecodeCard

/-- THE TIED CARD OF 'bulletinlaw10.WordRoundTrip'. -/
def wordRoundTripCard : Claim7 := { stood := { row := wordRoundTripRow, standIns := [], harness := (true, "cee4a48990b7824e445213463f3e3cd71382021e5c034e56625c23523d459b27"), looks := false }, kinds := [], alts := [], laidByText := true, laidKinds := [.data, .data, .data, .data, .pinned, .pinned], laidTests := true, laidLooks := .later }
def WordRoundTripCardSaid : Prop := Claim7.holds Tryd.pinned (.plain (OpenSpec.ofChange wordRoundTripSpec)) wordRoundTripCard

/-- THE TIED CARD OF 'bulletinlaw10.WordMaximal'. -/
def wordMaximalCard : Claim7 := { stood := { row := wordMaximalRow, standIns := [], harness := (true, "cee4a48990b7824e445213463f3e3cd71382021e5c034e56625c23523d459b27"), looks := false }, kinds := [], alts := [], laidByText := true, laidKinds := [.data, .data, .data, .data, .pinned, .pinned], laidTests := true, laidLooks := .later }
def WordMaximalCardSaid : Prop := Claim7.holds Tryd.pinned (.plain (OpenSpec.ofChange wordMaximalSpec)) wordMaximalCard

/-- THE TIED CARD OF 'bulletinlaw10.WordUnchanged'. -/
def wordUnchangedCard : Claim7 := { stood := { row := wordUnchangedRow, standIns := [], harness := (true, "cee4a48990b7824e445213463f3e3cd71382021e5c034e56625c23523d459b27"), looks := false }, kinds := [], alts := [], laidByText := true, laidKinds := [.data, .data, .data, .data, .pinned, .pinned], laidTests := true, laidLooks := .later }
def WordUnchangedCardSaid : Prop := Claim7.holds Tryd.pinned (.plain (OpenSpec.ofChange wordUnchangedSpec)) wordUnchangedCard

/-- THE TIED CARD OF 'bulletinlaw10.WordAgain'. -/
def wordAgainCard : Claim7 := { stood := { row := wordAgainRow, standIns := [], harness := (true, "cee4a48990b7824e445213463f3e3cd71382021e5c034e56625c23523d459b27"), looks := false }, kinds := [], alts := [], laidByText := true, laidKinds := [.data, .data, .data, .data, .pinned, .pinned], laidTests := true, laidLooks := .later }
def WordAgainCardSaid : Prop := Claim7.holds Tryd.pinned (.plain (OpenSpec.ofChange wordAgainSpec)) wordAgainCard

/-- THE TIED CARD OF 'bulletinlaw10.WordLimits'. -/
def wordLimitsCard : Claim7 := { stood := { row := wordLimitsRow, standIns := [], harness := (true, "cee4a48990b7824e445213463f3e3cd71382021e5c034e56625c23523d459b27"), looks := false }, kinds := [], alts := [], laidByText := true, laidKinds := [.data, .data, .data, .data, .pinned, .pinned], laidTests := true, laidLooks := .later }
def WordLimitsCardSaid : Prop := Claim7.holds Tryd.pinned (.plain (OpenSpec.ofChange wordLimitsSpec)) wordLimitsCard

/-- THE TIED CARD OF 'bulletinlaw10.WordEncode'. -/
def wordEncodeCard : Claim7 := { stood := { row := wordEncodeRow, standIns := [], harness := (true, "cee4a48990b7824e445213463f3e3cd71382021e5c034e56625c23523d459b27"), looks := false }, kinds := [], alts := [], laidByText := true, laidKinds := [.data, .data, .data, .data, .pinned, .pinned], laidTests := true, laidLooks := .later }
def WordEncodeCardSaid : Prop := Claim7.holds Tryd.pinned (.plain (OpenSpec.ofChange wordEncodeSpec)) wordEncodeCard

/-- THE SECOND FORM's CARD OF 'bulletinlaw10.WordWord'. -/
def wordWordUptoCard : Claim7 := { stood := { row := wordWordUptoRow, standIns := [], harness := (true, "cee4a48990b7824e445213463f3e3cd71382021e5c034e56625c23523d459b27"), looks := false }, kinds := [], alts := [], laidByText := true, laidKinds := [.data, .data, .data, .data, .pinned, .pinned], laidTests := true, laidLooks := .later }
def WordWordUptoCardSaid : Prop := Claim7.holds Tryd.pinned (.plain (OpenSpec.upto wordWordSpec)) wordWordUptoCard

/-- THE SECOND FORM's CARD OF 'bulletinlaw10.WordDecode'. -/
def wordDecodeUptoCard : Claim7 := { stood := { row := wordDecodeUptoRow, standIns := [], harness := (true, "cee4a48990b7824e445213463f3e3cd71382021e5c034e56625c23523d459b27"), looks := false }, kinds := [], alts := [], laidByText := true, laidKinds := [.data, .data, .data, .data, .pinned, .pinned], laidTests := true, laidLooks := .later }
def WordDecodeUptoCardSaid : Prop := Claim7.holds Tryd.pinned (.plain (OpenSpec.upto wordDecodeSpec)) wordDecodeUptoCard

/-- THE SECOND FORM's CARD OF 'bulletinlaw10.WordRoundTrip'. -/
def wordRoundTripUptoCard : Claim7 := { stood := { row := wordRoundTripUptoRow, standIns := [], harness := (true, "cee4a48990b7824e445213463f3e3cd71382021e5c034e56625c23523d459b27"), looks := false }, kinds := [], alts := [], laidByText := true, laidKinds := [.data, .data, .data, .data, .pinned, .pinned], laidTests := true, laidLooks := .later }
def WordRoundTripUptoCardSaid : Prop := Claim7.holds Tryd.pinned (.plain (OpenSpec.upto wordRoundTripSpec)) wordRoundTripUptoCard

/-- THE SECOND FORM's CARD OF 'bulletinlaw10.WordMaximal'. -/
def wordMaximalUptoCard : Claim7 := { stood := { row := wordMaximalUptoRow, standIns := [], harness := (true, "cee4a48990b7824e445213463f3e3cd71382021e5c034e56625c23523d459b27"), looks := false }, kinds := [], alts := [], laidByText := true, laidKinds := [.data, .data, .data, .data, .pinned, .pinned], laidTests := true, laidLooks := .later }
def WordMaximalUptoCardSaid : Prop := Claim7.holds Tryd.pinned (.plain (OpenSpec.upto wordMaximalSpec)) wordMaximalUptoCard

/-- THE SECOND FORM's CARD OF 'bulletinlaw10.WordUnchanged'. -/
def wordUnchangedUptoCard : Claim7 := { stood := { row := wordUnchangedUptoRow, standIns := [], harness := (true, "cee4a48990b7824e445213463f3e3cd71382021e5c034e56625c23523d459b27"), looks := false }, kinds := [], alts := [], laidByText := true, laidKinds := [.data, .data, .data, .data, .pinned, .pinned], laidTests := true, laidLooks := .later }
def WordUnchangedUptoCardSaid : Prop := Claim7.holds Tryd.pinned (.plain (OpenSpec.upto wordUnchangedSpec)) wordUnchangedUptoCard

/-- THE SECOND FORM's CARD OF 'bulletinlaw10.WordAgain'. -/
def wordAgainUptoCard : Claim7 := { stood := { row := wordAgainUptoRow, standIns := [], harness := (true, "cee4a48990b7824e445213463f3e3cd71382021e5c034e56625c23523d459b27"), looks := false }, kinds := [], alts := [], laidByText := true, laidKinds := [.data, .data, .data, .data, .pinned, .pinned], laidTests := true, laidLooks := .later }
def WordAgainUptoCardSaid : Prop := Claim7.holds Tryd.pinned (.plain (OpenSpec.upto wordAgainSpec)) wordAgainUptoCard

/-- THE SECOND FORM's CARD OF 'bulletinlaw10.WordLimits'. -/
def wordLimitsUptoCard : Claim7 := { stood := { row := wordLimitsUptoRow, standIns := [], harness := (true, "cee4a48990b7824e445213463f3e3cd71382021e5c034e56625c23523d459b27"), looks := false }, kinds := [], alts := [], laidByText := true, laidKinds := [.data, .data, .data, .data, .pinned, .pinned], laidTests := true, laidLooks := .later }
def WordLimitsUptoCardSaid : Prop := Claim7.holds Tryd.pinned (.plain (OpenSpec.upto wordLimitsSpec)) wordLimitsUptoCard

/-- THE SECOND FORM's CARD OF 'bulletinlaw10.WordEncode'. -/
def wordEncodeUptoCard : Claim7 := { stood := { row := wordEncodeUptoRow, standIns := [], harness := (true, "cee4a48990b7824e445213463f3e3cd71382021e5c034e56625c23523d459b27"), looks := false }, kinds := [], alts := [], laidByText := true, laidKinds := [.data, .data, .data, .data, .pinned, .pinned], laidTests := true, laidLooks := .later }
def WordEncodeUptoCardSaid : Prop := Claim7.holds Tryd.pinned (.plain (OpenSpec.upto wordEncodeSpec)) wordEncodeUptoCard
end Rows
end Go.Proofs.YtbgggeobpiaamaaDoor
