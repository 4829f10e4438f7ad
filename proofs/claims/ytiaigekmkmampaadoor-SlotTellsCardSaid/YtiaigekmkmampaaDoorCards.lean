/-
  DERIVED. GIVEN WITH THE SEED: THE CARDS: each row of YtiaigekmkmampaaDoorRows.lean that lists a variable, with what it lists TIED to the program's text (the seventh form; the later family's looks); each row that meets fmt, with fmt's text TOLD by the authors' own Lean function (tested against real Go, not proved from fmt's source: count such statements apart). THE CARD IS WHAT COUNTS. Prove the row's statement (the work); the ties are given (YtiaigekmkmampaaDoorTie.lean); close each card by the builder's one call (the guide's Derived/Test/ToyasCard.lean, 'card_holds'). Laid BY PROGRAM, IN A SANDBOX (cutbox-door.mjs). By AI agents, Wed Nov 11 2026. No macro, syntax, notation, axiom, sorry.
-/
import Derived.Test.YtiaigekmkmampaaDoorRows
import GoSem.ClaimSeven
namespace Go.Proofs.YtiaigekmkmampaaDoor
namespace Rows

/-- THE TIED CARD OF 'yettlaw13.SlotTells'. -/
def slotTellsCard : Claim7 := { stood := { row := slotTellsRow, standIns := [], harness := (true, "53fd93ef5b97a1f97d5f1c3d5b8c34f5671272fd2395f7183e5727aba5123018"), looks := false }, kinds := [], alts := [], laidByText := true, laidKinds := [.data], laidTests := true, laidLooks := .later }
def SlotTellsCardSaid : Prop := Claim7.holds Tryd.pinned (.plain (OpenSpec.ofChange slotTellsSpec)) slotTellsCard

/-- THE TIED CARD OF 'yettlaw13.SlotRises'. -/
def slotRisesCard : Claim7 := { stood := { row := slotRisesRow, standIns := [], harness := (true, "53fd93ef5b97a1f97d5f1c3d5b8c34f5671272fd2395f7183e5727aba5123018"), looks := false }, kinds := [], alts := [], laidByText := true, laidKinds := [.data], laidTests := true, laidLooks := .later }
def SlotRisesCardSaid : Prop := Claim7.holds Tryd.pinned (.plain (OpenSpec.ofChange slotRisesSpec)) slotRisesCard

/-- THE TIED CARD OF 'yettlaw13.SlotRecords'. -/
def slotRecordsCard : Claim7 := { stood := { row := slotRecordsRow, standIns := [], harness := (true, "53fd93ef5b97a1f97d5f1c3d5b8c34f5671272fd2395f7183e5727aba5123018"), looks := false }, kinds := [], alts := [], laidByText := true, laidKinds := [.data], laidTests := true, laidLooks := .later }
def SlotRecordsCardSaid : Prop := Claim7.holds Tryd.pinned (.plain (OpenSpec.ofChange slotRecordsSpec)) slotRecordsCard

/-- THE TIED CARD OF 'yettlaw13.SlotGives'. -/
def slotGivesCard : Claim7 := { stood := { row := slotGivesRow, standIns := [], harness := (true, "53fd93ef5b97a1f97d5f1c3d5b8c34f5671272fd2395f7183e5727aba5123018"), looks := false }, kinds := [], alts := [], laidByText := true, laidKinds := [.data], laidTests := true, laidLooks := .later }
def SlotGivesCardSaid : Prop := Claim7.holds Tryd.pinned (.plain (OpenSpec.ofChange slotGivesSpec)) slotGivesCard

/-- THE SECOND FORM's CARD OF 'yettlaw13.SlotTells'. -/
def slotTellsUptoCard : Claim7 := { stood := { row := slotTellsUptoRow, standIns := [], harness := (true, "53fd93ef5b97a1f97d5f1c3d5b8c34f5671272fd2395f7183e5727aba5123018"), looks := false }, kinds := [], alts := [], laidByText := true, laidKinds := [.data], laidTests := true, laidLooks := .later }
def SlotTellsUptoCardSaid : Prop := Claim7.holds Tryd.pinned (.plain (OpenSpec.upto slotTellsSpec)) slotTellsUptoCard

/-- THE SECOND FORM's CARD OF 'yettlaw13.SlotRises'. -/
def slotRisesUptoCard : Claim7 := { stood := { row := slotRisesUptoRow, standIns := [], harness := (true, "53fd93ef5b97a1f97d5f1c3d5b8c34f5671272fd2395f7183e5727aba5123018"), looks := false }, kinds := [], alts := [], laidByText := true, laidKinds := [.data], laidTests := true, laidLooks := .later }
def SlotRisesUptoCardSaid : Prop := Claim7.holds Tryd.pinned (.plain (OpenSpec.upto slotRisesSpec)) slotRisesUptoCard

/-- THE SECOND FORM's CARD OF 'yettlaw13.SlotRecords'. -/
def slotRecordsUptoCard : Claim7 := { stood := { row := slotRecordsUptoRow, standIns := [], harness := (true, "53fd93ef5b97a1f97d5f1c3d5b8c34f5671272fd2395f7183e5727aba5123018"), looks := false }, kinds := [], alts := [], laidByText := true, laidKinds := [.data], laidTests := true, laidLooks := .later }
def SlotRecordsUptoCardSaid : Prop := Claim7.holds Tryd.pinned (.plain (OpenSpec.upto slotRecordsSpec)) slotRecordsUptoCard

/-- THE SECOND FORM's CARD OF 'yettlaw13.SlotGives'. -/
def slotGivesUptoCard : Claim7 := { stood := { row := slotGivesUptoRow, standIns := [], harness := (true, "53fd93ef5b97a1f97d5f1c3d5b8c34f5671272fd2395f7183e5727aba5123018"), looks := false }, kinds := [], alts := [], laidByText := true, laidKinds := [.data], laidTests := true, laidLooks := .later }
def SlotGivesUptoCardSaid : Prop := Claim7.holds Tryd.pinned (.plain (OpenSpec.upto slotGivesSpec)) slotGivesUptoCard
end Rows
end Go.Proofs.YtiaigekmkmampaaDoor
