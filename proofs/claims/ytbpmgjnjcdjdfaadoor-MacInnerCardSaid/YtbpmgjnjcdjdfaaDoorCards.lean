/-
  DERIVED. GIVEN WITH THE SEED: THE CARDS: each row of YtbpmgjnjcdjdfaaDoorRows.lean that lists a variable, with what it lists TIED to the program's text (the seventh form; the later family's looks); each row that meets fmt, with fmt's text TOLD by the authors' own Lean function (tested against real Go, not proved from fmt's source: count such statements apart). THE CARD IS WHAT COUNTS. Prove the row's statement (the work); the ties are given (YtbpmgjnjcdjdfaaDoorTie.lean); close each card by the builder's one call (the guide's Derived/Test/ToyasCard.lean, 'card_holds'). Laid BY PROGRAM, IN A SANDBOX (cutbox-door.mjs). By AI agents, Wed Nov 11 2026. No macro, syntax, notation, axiom, sorry.
-/
import Derived.Test.YtbpmgjnjcdjdfaaDoorRows
import GoSem.ClaimSeven
namespace Go.Proofs.YtbpmgjnjcdjdfaaDoor
namespace Rows

/-- THE TIED CARD OF 'yettlaw03.MacTells'. -/
def macTellsCard : Claim7 := { stood := { row := macTellsRow, standIns := [], harness := (true, "801cefec3b06b29415dd1467102f7ce38b38be387e7938eb3046bb7302caff60"), looks := false }, kinds := [], alts := [], laidByText := true, laidKinds := [.data], laidTests := true, laidLooks := .later }
def MacTellsCardSaid : Prop := Claim7.holds Tryd.pinned (.plain (OpenSpec.ofChange macTellsSpec)) macTellsCard

/-- THE TIED CARD OF 'yettlaw03.MacDerives'. -/
def macDerivesCard : Claim7 := { stood := { row := macDerivesRow, standIns := [], harness := (true, "801cefec3b06b29415dd1467102f7ce38b38be387e7938eb3046bb7302caff60"), looks := false }, kinds := [], alts := [], laidByText := true, laidKinds := [.data], laidTests := true, laidLooks := .later }
def MacDerivesCardSaid : Prop := Claim7.holds Tryd.pinned (.plain (OpenSpec.ofChange macDerivesSpec)) macDerivesCard

/-- THE TIED CARD OF 'yettlaw03.MacBlocks'. -/
def macBlocksCard : Claim7 := { stood := { row := macBlocksRow, standIns := [], harness := (true, "801cefec3b06b29415dd1467102f7ce38b38be387e7938eb3046bb7302caff60"), looks := false }, kinds := [], alts := [], laidByText := true, laidKinds := [.data], laidTests := true, laidLooks := .later }
def MacBlocksCardSaid : Prop := Claim7.holds Tryd.pinned (.plain (OpenSpec.ofChange macBlocksSpec)) macBlocksCard

/-- THE TIED CARD OF 'yettlaw03.MacInner'. -/
def macInnerCard : Claim7 := { stood := { row := macInnerRow, standIns := [], harness := (true, "801cefec3b06b29415dd1467102f7ce38b38be387e7938eb3046bb7302caff60"), looks := false }, kinds := [], alts := [], laidByText := true, laidKinds := [.data], laidTests := true, laidLooks := .later }
def MacInnerCardSaid : Prop := Claim7.holds Tryd.pinned (.plain (OpenSpec.ofChange macInnerSpec)) macInnerCard

/-- THE TIED CARD OF 'yettlaw03.MacApart'. -/
def macApartCard : Claim7 := { stood := { row := macApartRow, standIns := [], harness := (true, "801cefec3b06b29415dd1467102f7ce38b38be387e7938eb3046bb7302caff60"), looks := false }, kinds := [], alts := [], laidByText := true, laidKinds := [.data], laidTests := true, laidLooks := .later }
def MacApartCardSaid : Prop := Claim7.holds Tryd.pinned (.plain (OpenSpec.ofChange macApartSpec)) macApartCard

/-- THE TIED CARD OF 'yettlaw03.MacSame'. -/
def macSameCard : Claim7 := { stood := { row := macSameRow, standIns := [], harness := (true, "801cefec3b06b29415dd1467102f7ce38b38be387e7938eb3046bb7302caff60"), looks := false }, kinds := [], alts := [], laidByText := true, laidKinds := [.data], laidTests := true, laidLooks := .later }
def MacSameCardSaid : Prop := Claim7.holds Tryd.pinned (.plain (OpenSpec.ofChange macSameSpec)) macSameCard

/-- THE TIED CARD OF 'yettlaw03.MacLimits'. -/
def macLimitsCard : Claim7 := { stood := { row := macLimitsRow, standIns := [], harness := (true, "801cefec3b06b29415dd1467102f7ce38b38be387e7938eb3046bb7302caff60"), looks := false }, kinds := [], alts := [], laidByText := true, laidKinds := [.data], laidTests := true, laidLooks := .later }
def MacLimitsCardSaid : Prop := Claim7.holds Tryd.pinned (.plain (OpenSpec.ofChange macLimitsSpec)) macLimitsCard

/-- THE SECOND FORM's CARD OF 'yettlaw03.MacTells'. -/
def macTellsUptoCard : Claim7 := { stood := { row := macTellsUptoRow, standIns := [], harness := (true, "801cefec3b06b29415dd1467102f7ce38b38be387e7938eb3046bb7302caff60"), looks := false }, kinds := [], alts := [], laidByText := true, laidKinds := [.data], laidTests := true, laidLooks := .later }
def MacTellsUptoCardSaid : Prop := Claim7.holds Tryd.pinned (.plain (OpenSpec.upto macTellsSpec)) macTellsUptoCard

/-- THE SECOND FORM's CARD OF 'yettlaw03.MacDerives'. -/
def macDerivesUptoCard : Claim7 := { stood := { row := macDerivesUptoRow, standIns := [], harness := (true, "801cefec3b06b29415dd1467102f7ce38b38be387e7938eb3046bb7302caff60"), looks := false }, kinds := [], alts := [], laidByText := true, laidKinds := [.data], laidTests := true, laidLooks := .later }
def MacDerivesUptoCardSaid : Prop := Claim7.holds Tryd.pinned (.plain (OpenSpec.upto macDerivesSpec)) macDerivesUptoCard

/-- THE SECOND FORM's CARD OF 'yettlaw03.MacBlocks'. -/
def macBlocksUptoCard : Claim7 := { stood := { row := macBlocksUptoRow, standIns := [], harness := (true, "801cefec3b06b29415dd1467102f7ce38b38be387e7938eb3046bb7302caff60"), looks := false }, kinds := [], alts := [], laidByText := true, laidKinds := [.data], laidTests := true, laidLooks := .later }
def MacBlocksUptoCardSaid : Prop := Claim7.holds Tryd.pinned (.plain (OpenSpec.upto macBlocksSpec)) macBlocksUptoCard

/-- THE SECOND FORM's CARD OF 'yettlaw03.MacInner'. -/
def macInnerUptoCard : Claim7 := { stood := { row := macInnerUptoRow, standIns := [], harness := (true, "801cefec3b06b29415dd1467102f7ce38b38be387e7938eb3046bb7302caff60"), looks := false }, kinds := [], alts := [], laidByText := true, laidKinds := [.data], laidTests := true, laidLooks := .later }
def MacInnerUptoCardSaid : Prop := Claim7.holds Tryd.pinned (.plain (OpenSpec.upto macInnerSpec)) macInnerUptoCard

/-- THE SECOND FORM's CARD OF 'yettlaw03.MacApart'. -/
def macApartUptoCard : Claim7 := { stood := { row := macApartUptoRow, standIns := [], harness := (true, "801cefec3b06b29415dd1467102f7ce38b38be387e7938eb3046bb7302caff60"), looks := false }, kinds := [], alts := [], laidByText := true, laidKinds := [.data], laidTests := true, laidLooks := .later }
def MacApartUptoCardSaid : Prop := Claim7.holds Tryd.pinned (.plain (OpenSpec.upto macApartSpec)) macApartUptoCard

/-- THE SECOND FORM's CARD OF 'yettlaw03.MacSame'. -/
def macSameUptoCard : Claim7 := { stood := { row := macSameUptoRow, standIns := [], harness := (true, "801cefec3b06b29415dd1467102f7ce38b38be387e7938eb3046bb7302caff60"), looks := false }, kinds := [], alts := [], laidByText := true, laidKinds := [.data], laidTests := true, laidLooks := .later }
def MacSameUptoCardSaid : Prop := Claim7.holds Tryd.pinned (.plain (OpenSpec.upto macSameSpec)) macSameUptoCard

/-- THE SECOND FORM's CARD OF 'yettlaw03.MacLimits'. -/
def macLimitsUptoCard : Claim7 := { stood := { row := macLimitsUptoRow, standIns := [], harness := (true, "801cefec3b06b29415dd1467102f7ce38b38be387e7938eb3046bb7302caff60"), looks := false }, kinds := [], alts := [], laidByText := true, laidKinds := [.data], laidTests := true, laidLooks := .later }
def MacLimitsUptoCardSaid : Prop := Claim7.holds Tryd.pinned (.plain (OpenSpec.upto macLimitsSpec)) macLimitsUptoCard
end Rows
end Go.Proofs.YtbpmgjnjcdjdfaaDoor
