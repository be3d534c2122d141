/-
  DERIVED. GIVEN WITH THE SEED: THE CARDS: each row of YtplpmndchdockaaDoorRows.lean that lists a variable, with what it lists TIED to the program's text (the seventh form; the later family's looks); each row that meets fmt, with fmt's text TOLD by the authors' own Lean function (tested against real Go, not proved from fmt's source: count such statements apart). THE CARD IS WHAT COUNTS. Prove the row's statement (the work); the ties are given (YtplpmndchdockaaDoorTie.lean); close each card by the builder's one call (the guide's Derived/Test/ToyasCard.lean, 'card_holds'). Laid BY PROGRAM, IN A SANDBOX (cutbox-door.mjs). By AI agents, Wed Nov 11 2026. No macro, syntax, notation, axiom, sorry.
-/
import Derived.Test.YtplpmndchdockaaDoorRows
import GoSem.ClaimSeven
namespace Go.Proofs.YtplpmndchdockaaDoor
namespace Rows

/-- THE TIED CARD OF 'flagstonelaw36.RationalScales'. -/
def rationalScalesCard : Claim7 := { stood := { row := rationalScalesRow, standIns := [], harness := (true, "9ccc2eb9d850de3f5cb57d3e76151f01792f281e9b3dae89400325c658ba51ae"), looks := false }, kinds := [], alts := [], laidByText := true, laidKinds := [.data, .pinned], laidTests := true, laidLooks := .later }
def RationalScalesCardSaid : Prop := Claim7.holds Tryd.pinned (.plain (OpenSpec.ofChange rationalScalesSpec)) rationalScalesCard

/-- THE TIED CARD OF 'flagstonelaw36.RationalForms'. -/
def rationalFormsCard : Claim7 := { stood := { row := rationalFormsRow, standIns := [], harness := (true, "9ccc2eb9d850de3f5cb57d3e76151f01792f281e9b3dae89400325c658ba51ae"), looks := false }, kinds := [], alts := [], laidByText := true, laidKinds := [.data, .pinned], laidTests := true, laidLooks := .later }
def RationalFormsCardSaid : Prop := Claim7.holds Tryd.pinned (.plain (OpenSpec.ofChange rationalFormsSpec)) rationalFormsCard

/-- THE TIED CARD OF 'flagstonelaw36.RationalSpoilt'. -/
def rationalSpoiltCard : Claim7 := { stood := { row := rationalSpoiltRow, standIns := [], harness := (true, "9ccc2eb9d850de3f5cb57d3e76151f01792f281e9b3dae89400325c658ba51ae"), looks := false }, kinds := [], alts := [], laidByText := true, laidKinds := [.data, .pinned], laidTests := true, laidLooks := .later }
def RationalSpoiltCardSaid : Prop := Claim7.holds Tryd.pinned (.plain (OpenSpec.ofChange rationalSpoiltSpec)) rationalSpoiltCard

/-- THE TIED CARD OF 'flagstonelaw36.RationalDigits'. -/
def rationalDigitsCard : Claim7 := { stood := { row := rationalDigitsRow, standIns := [], harness := (true, "9ccc2eb9d850de3f5cb57d3e76151f01792f281e9b3dae89400325c658ba51ae"), looks := false }, kinds := [], alts := [], laidByText := true, laidKinds := [.data, .pinned], laidTests := true, laidLooks := .later }
def RationalDigitsCardSaid : Prop := Claim7.holds Tryd.pinned (.plain (OpenSpec.ofChange rationalDigitsSpec)) rationalDigitsCard

/-- THE TIED CARD OF 'flagstonelaw36.RationalField'. -/
def rationalFieldCard : Claim7 := { stood := { row := rationalFieldRow, standIns := [], harness := (true, "9ccc2eb9d850de3f5cb57d3e76151f01792f281e9b3dae89400325c658ba51ae"), looks := false }, kinds := [], alts := [], laidByText := true, laidKinds := [.data, .pinned], laidTests := true, laidLooks := .later }
def RationalFieldCardSaid : Prop := Claim7.holds Tryd.pinned (.plain (OpenSpec.ofChange rationalFieldSpec)) rationalFieldCard

/-- THE TIED CARD OF 'flagstonelaw36.RationalOrder'. -/
def rationalOrderCard : Claim7 := { stood := { row := rationalOrderRow, standIns := [], harness := (true, "9ccc2eb9d850de3f5cb57d3e76151f01792f281e9b3dae89400325c658ba51ae"), looks := false }, kinds := [], alts := [], laidByText := true, laidKinds := [.data, .pinned], laidTests := true, laidLooks := .later }
def RationalOrderCardSaid : Prop := Claim7.holds Tryd.pinned (.plain (OpenSpec.ofChange rationalOrderSpec)) rationalOrderCard

/-- THE TIED CARD OF 'flagstonelaw36.RationalTells'. -/
def rationalTellsCard : Claim7 := { stood := { row := rationalTellsRow, standIns := [], harness := (true, "9ccc2eb9d850de3f5cb57d3e76151f01792f281e9b3dae89400325c658ba51ae"), looks := false }, kinds := [], alts := [], laidByText := true, laidKinds := [.data, .pinned], laidTests := true, laidLooks := .later }
def RationalTellsCardSaid : Prop := Claim7.holds Tryd.pinned (.plain (OpenSpec.ofChange rationalTellsSpec)) rationalTellsCard

/-- THE TIED CARD OF 'flagstonelaw38.EstimateShifts'. -/
def estimateShiftsCard : Claim7 := { stood := { row := estimateShiftsRow, standIns := [], harness := (true, "9ccc2eb9d850de3f5cb57d3e76151f01792f281e9b3dae89400325c658ba51ae"), looks := false }, kinds := [], alts := [], laidByText := true, laidKinds := [.data, .pinned], laidTests := true, laidLooks := .later }
def EstimateShiftsCardSaid : Prop := Claim7.holds Tryd.pinned (.plain (OpenSpec.ofChange estimateShiftsSpec)) estimateShiftsCard

/-- THE TIED CARD OF 'flagstonelaw38.EstimateArms'. -/
def estimateArmsCard : Claim7 := { stood := { row := estimateArmsRow, standIns := [], harness := (true, "9ccc2eb9d850de3f5cb57d3e76151f01792f281e9b3dae89400325c658ba51ae"), looks := false }, kinds := [], alts := [], laidByText := true, laidKinds := [.data, .pinned], laidTests := true, laidLooks := .later }
def EstimateArmsCardSaid : Prop := Claim7.holds Tryd.pinned (.plain (OpenSpec.ofChange estimateArmsSpec)) estimateArmsCard

/-- THE TIED CARD OF 'flagstonelaw38.EstimateCovariances'. -/
def estimateCovariancesCard : Claim7 := { stood := { row := estimateCovariancesRow, standIns := [], harness := (true, "9ccc2eb9d850de3f5cb57d3e76151f01792f281e9b3dae89400325c658ba51ae"), looks := false }, kinds := [], alts := [], laidByText := true, laidKinds := [.data, .pinned], laidTests := true, laidLooks := .later }
def EstimateCovariancesCardSaid : Prop := Claim7.holds Tryd.pinned (.plain (OpenSpec.ofChange estimateCovariancesSpec)) estimateCovariancesCard

/-- THE TIED CARD OF 'flagstonelaw38.EstimateLimits'. -/
def estimateLimitsCard : Claim7 := { stood := { row := estimateLimitsRow, standIns := [], harness := (true, "9ccc2eb9d850de3f5cb57d3e76151f01792f281e9b3dae89400325c658ba51ae"), looks := false }, kinds := [], alts := [], laidByText := true, laidKinds := [.data, .pinned], laidTests := true, laidLooks := .later }
def EstimateLimitsCardSaid : Prop := Claim7.holds Tryd.pinned (.plain (OpenSpec.ofChange estimateLimitsSpec)) estimateLimitsCard

/-- THE TIED CARD OF 'flagstonelaw38.EstimateReduces'. -/
def estimateReducesCard : Claim7 := { stood := { row := estimateReducesRow, standIns := [], harness := (true, "9ccc2eb9d850de3f5cb57d3e76151f01792f281e9b3dae89400325c658ba51ae"), looks := false }, kinds := [], alts := [], laidByText := true, laidKinds := [.data, .pinned], laidTests := true, laidLooks := .later }
def EstimateReducesCardSaid : Prop := Claim7.holds Tryd.pinned (.plain (OpenSpec.ofChange estimateReducesSpec)) estimateReducesCard

/-- THE TIED CARD OF 'flagstonelaw37.IntervalFractions'. -/
def intervalFractionsCard : Claim7 := { stood := { row := intervalFractionsRow, standIns := [], harness := (true, "9ccc2eb9d850de3f5cb57d3e76151f01792f281e9b3dae89400325c658ba51ae"), looks := false }, kinds := [], alts := [], laidByText := true, laidKinds := [.data, .pinned], laidTests := true, laidLooks := .later }
def IntervalFractionsCardSaid : Prop := Claim7.holds Tryd.pinned (.plain (OpenSpec.ofChange intervalFractionsSpec)) intervalFractionsCard

/-- THE TIED CARD OF 'flagstonelaw37.IntervalEncloses'. -/
def intervalEnclosesCard : Claim7 := { stood := { row := intervalEnclosesRow, standIns := [], harness := (true, "9ccc2eb9d850de3f5cb57d3e76151f01792f281e9b3dae89400325c658ba51ae"), looks := false }, kinds := [], alts := [], laidByText := true, laidKinds := [.data, .pinned], laidTests := true, laidLooks := .later }
def IntervalEnclosesCardSaid : Prop := Claim7.holds Tryd.pinned (.plain (OpenSpec.ofChange intervalEnclosesSpec)) intervalEnclosesCard

/-- THE SECOND FORM's CARD OF 'flagstonelaw36.RationalScales'. -/
def rationalScalesUptoCard : Claim7 := { stood := { row := rationalScalesUptoRow, standIns := [], harness := (true, "9ccc2eb9d850de3f5cb57d3e76151f01792f281e9b3dae89400325c658ba51ae"), looks := false }, kinds := [], alts := [], laidByText := true, laidKinds := [.data, .pinned], laidTests := true, laidLooks := .later }
def RationalScalesUptoCardSaid : Prop := Claim7.holds Tryd.pinned (.plain (OpenSpec.upto rationalScalesSpec)) rationalScalesUptoCard

/-- THE SECOND FORM's CARD OF 'flagstonelaw36.RationalForms'. -/
def rationalFormsUptoCard : Claim7 := { stood := { row := rationalFormsUptoRow, standIns := [], harness := (true, "9ccc2eb9d850de3f5cb57d3e76151f01792f281e9b3dae89400325c658ba51ae"), looks := false }, kinds := [], alts := [], laidByText := true, laidKinds := [.data, .pinned], laidTests := true, laidLooks := .later }
def RationalFormsUptoCardSaid : Prop := Claim7.holds Tryd.pinned (.plain (OpenSpec.upto rationalFormsSpec)) rationalFormsUptoCard

/-- THE SECOND FORM's CARD OF 'flagstonelaw36.RationalSpoilt'. -/
def rationalSpoiltUptoCard : Claim7 := { stood := { row := rationalSpoiltUptoRow, standIns := [], harness := (true, "9ccc2eb9d850de3f5cb57d3e76151f01792f281e9b3dae89400325c658ba51ae"), looks := false }, kinds := [], alts := [], laidByText := true, laidKinds := [.data, .pinned], laidTests := true, laidLooks := .later }
def RationalSpoiltUptoCardSaid : Prop := Claim7.holds Tryd.pinned (.plain (OpenSpec.upto rationalSpoiltSpec)) rationalSpoiltUptoCard

/-- THE SECOND FORM's CARD OF 'flagstonelaw36.RationalDigits'. -/
def rationalDigitsUptoCard : Claim7 := { stood := { row := rationalDigitsUptoRow, standIns := [], harness := (true, "9ccc2eb9d850de3f5cb57d3e76151f01792f281e9b3dae89400325c658ba51ae"), looks := false }, kinds := [], alts := [], laidByText := true, laidKinds := [.data, .pinned], laidTests := true, laidLooks := .later }
def RationalDigitsUptoCardSaid : Prop := Claim7.holds Tryd.pinned (.plain (OpenSpec.upto rationalDigitsSpec)) rationalDigitsUptoCard

/-- THE SECOND FORM's CARD OF 'flagstonelaw36.RationalField'. -/
def rationalFieldUptoCard : Claim7 := { stood := { row := rationalFieldUptoRow, standIns := [], harness := (true, "9ccc2eb9d850de3f5cb57d3e76151f01792f281e9b3dae89400325c658ba51ae"), looks := false }, kinds := [], alts := [], laidByText := true, laidKinds := [.data, .pinned], laidTests := true, laidLooks := .later }
def RationalFieldUptoCardSaid : Prop := Claim7.holds Tryd.pinned (.plain (OpenSpec.upto rationalFieldSpec)) rationalFieldUptoCard

/-- THE SECOND FORM's CARD OF 'flagstonelaw36.RationalOrder'. -/
def rationalOrderUptoCard : Claim7 := { stood := { row := rationalOrderUptoRow, standIns := [], harness := (true, "9ccc2eb9d850de3f5cb57d3e76151f01792f281e9b3dae89400325c658ba51ae"), looks := false }, kinds := [], alts := [], laidByText := true, laidKinds := [.data, .pinned], laidTests := true, laidLooks := .later }
def RationalOrderUptoCardSaid : Prop := Claim7.holds Tryd.pinned (.plain (OpenSpec.upto rationalOrderSpec)) rationalOrderUptoCard

/-- THE SECOND FORM's CARD OF 'flagstonelaw36.RationalTells'. -/
def rationalTellsUptoCard : Claim7 := { stood := { row := rationalTellsUptoRow, standIns := [], harness := (true, "9ccc2eb9d850de3f5cb57d3e76151f01792f281e9b3dae89400325c658ba51ae"), looks := false }, kinds := [], alts := [], laidByText := true, laidKinds := [.data, .pinned], laidTests := true, laidLooks := .later }
def RationalTellsUptoCardSaid : Prop := Claim7.holds Tryd.pinned (.plain (OpenSpec.upto rationalTellsSpec)) rationalTellsUptoCard

/-- THE SECOND FORM's CARD OF 'flagstonelaw38.EstimateShifts'. -/
def estimateShiftsUptoCard : Claim7 := { stood := { row := estimateShiftsUptoRow, standIns := [], harness := (true, "9ccc2eb9d850de3f5cb57d3e76151f01792f281e9b3dae89400325c658ba51ae"), looks := false }, kinds := [], alts := [], laidByText := true, laidKinds := [.data, .pinned], laidTests := true, laidLooks := .later }
def EstimateShiftsUptoCardSaid : Prop := Claim7.holds Tryd.pinned (.plain (OpenSpec.upto estimateShiftsSpec)) estimateShiftsUptoCard

/-- THE SECOND FORM's CARD OF 'flagstonelaw38.EstimateArms'. -/
def estimateArmsUptoCard : Claim7 := { stood := { row := estimateArmsUptoRow, standIns := [], harness := (true, "9ccc2eb9d850de3f5cb57d3e76151f01792f281e9b3dae89400325c658ba51ae"), looks := false }, kinds := [], alts := [], laidByText := true, laidKinds := [.data, .pinned], laidTests := true, laidLooks := .later }
def EstimateArmsUptoCardSaid : Prop := Claim7.holds Tryd.pinned (.plain (OpenSpec.upto estimateArmsSpec)) estimateArmsUptoCard

/-- THE SECOND FORM's CARD OF 'flagstonelaw38.EstimateCovariances'. -/
def estimateCovariancesUptoCard : Claim7 := { stood := { row := estimateCovariancesUptoRow, standIns := [], harness := (true, "9ccc2eb9d850de3f5cb57d3e76151f01792f281e9b3dae89400325c658ba51ae"), looks := false }, kinds := [], alts := [], laidByText := true, laidKinds := [.data, .pinned], laidTests := true, laidLooks := .later }
def EstimateCovariancesUptoCardSaid : Prop := Claim7.holds Tryd.pinned (.plain (OpenSpec.upto estimateCovariancesSpec)) estimateCovariancesUptoCard

/-- THE SECOND FORM's CARD OF 'flagstonelaw38.EstimateLimits'. -/
def estimateLimitsUptoCard : Claim7 := { stood := { row := estimateLimitsUptoRow, standIns := [], harness := (true, "9ccc2eb9d850de3f5cb57d3e76151f01792f281e9b3dae89400325c658ba51ae"), looks := false }, kinds := [], alts := [], laidByText := true, laidKinds := [.data, .pinned], laidTests := true, laidLooks := .later }
def EstimateLimitsUptoCardSaid : Prop := Claim7.holds Tryd.pinned (.plain (OpenSpec.upto estimateLimitsSpec)) estimateLimitsUptoCard

/-- THE SECOND FORM's CARD OF 'flagstonelaw38.EstimateReduces'. -/
def estimateReducesUptoCard : Claim7 := { stood := { row := estimateReducesUptoRow, standIns := [], harness := (true, "9ccc2eb9d850de3f5cb57d3e76151f01792f281e9b3dae89400325c658ba51ae"), looks := false }, kinds := [], alts := [], laidByText := true, laidKinds := [.data, .pinned], laidTests := true, laidLooks := .later }
def EstimateReducesUptoCardSaid : Prop := Claim7.holds Tryd.pinned (.plain (OpenSpec.upto estimateReducesSpec)) estimateReducesUptoCard

/-- THE SECOND FORM's CARD OF 'flagstonelaw37.IntervalFractions'. -/
def intervalFractionsUptoCard : Claim7 := { stood := { row := intervalFractionsUptoRow, standIns := [], harness := (true, "9ccc2eb9d850de3f5cb57d3e76151f01792f281e9b3dae89400325c658ba51ae"), looks := false }, kinds := [], alts := [], laidByText := true, laidKinds := [.data, .pinned], laidTests := true, laidLooks := .later }
def IntervalFractionsUptoCardSaid : Prop := Claim7.holds Tryd.pinned (.plain (OpenSpec.upto intervalFractionsSpec)) intervalFractionsUptoCard

/-- THE SECOND FORM's CARD OF 'flagstonelaw37.IntervalEncloses'. -/
def intervalEnclosesUptoCard : Claim7 := { stood := { row := intervalEnclosesUptoRow, standIns := [], harness := (true, "9ccc2eb9d850de3f5cb57d3e76151f01792f281e9b3dae89400325c658ba51ae"), looks := false }, kinds := [], alts := [], laidByText := true, laidKinds := [.data, .pinned], laidTests := true, laidLooks := .later }
def IntervalEnclosesUptoCardSaid : Prop := Claim7.holds Tryd.pinned (.plain (OpenSpec.upto intervalEnclosesSpec)) intervalEnclosesUptoCard
end Rows
end Go.Proofs.YtplpmndchdockaaDoor
