/-
  DERIVED. GIVEN WITH THE SEED: THE CARDS: each row of YtadpiemjgfndgaaGreatDoorRows.lean that lists a variable, with what it lists TIED to the program's text (the seventh form; the later family's looks); each row that meets fmt, with fmt's text TOLD by the authors' own Lean function (tested against real Go, not proved from fmt's source: count such statements apart). THE CARD IS WHAT COUNTS. Prove the row's statement (the work); the ties are given (YtadpiemjgfndgaaGreatDoorTie.lean); close each card by the builder's one call (the guide's Derived/Test/ToyasCard.lean, 'card_holds'). Laid BY PROGRAM, IN A SANDBOX (cutbox-door.mjs). By AI agents, Wed Nov 11 2026. No macro, syntax, notation, axiom, sorry.
-/
import Derived.Test.YtadpiemjgfndgaaGreatDoorRows
import GoSem.ClaimSeven
namespace Go.Proofs.YtadpiemjgfndgaaGreatDoor
namespace Rows

/-- THE TIED CARD OF 'yettlaw18.LaneSends'. -/
def laneSendsCard : Claim7 := { stood := { row := laneSendsRow, standIns := [], harness := (true, "dfd710d1de4c37b49c1a016a84aff0e9e9890c7aa00c367284a302b5ea8decba"), looks := true }, kinds := [], alts := [], laidByText := true, laidKinds := [.data], laidTests := true, laidLooks := .later }
def LaneSendsCardSaid : Prop := Claim7.holds Tryz.pinned (.plain (OpenSpec.ofChange laneSendsSpec)) laneSendsCard

/-- THE TIED CARD OF 'yettlaw18.LaneTakes'. -/
def laneTakesCard : Claim7 := { stood := { row := laneTakesRow, standIns := [], harness := (true, "dfd710d1de4c37b49c1a016a84aff0e9e9890c7aa00c367284a302b5ea8decba"), looks := true }, kinds := [], alts := [], laidByText := true, laidKinds := [.data], laidTests := true, laidLooks := .later }
def LaneTakesCardSaid : Prop := Claim7.holds Tryz.pinned (.plain (OpenSpec.ofChange laneTakesSpec)) laneTakesCard

/-- THE TIED CARD OF 'yettlaw18.LaneBack'. -/
def laneBackCard : Claim7 := { stood := { row := laneBackRow, standIns := [], harness := (true, "dfd710d1de4c37b49c1a016a84aff0e9e9890c7aa00c367284a302b5ea8decba"), looks := true }, kinds := [], alts := [], laidByText := true, laidKinds := [.data], laidTests := true, laidLooks := .later }
def LaneBackCardSaid : Prop := Claim7.holds Tryz.pinned (.plain (OpenSpec.ofChange laneBackSpec)) laneBackCard

/-- THE TIED CARD OF 'yettlaw18.LaneOnly'. -/
def laneOnlyCard : Claim7 := { stood := { row := laneOnlyRow, standIns := [], harness := (true, "dfd710d1de4c37b49c1a016a84aff0e9e9890c7aa00c367284a302b5ea8decba"), looks := true }, kinds := [], alts := [], laidByText := true, laidKinds := [.data], laidTests := true, laidLooks := .later }
def LaneOnlyCardSaid : Prop := Claim7.holds Tryz.pinned (.plain (OpenSpec.ofChange laneOnlySpec)) laneOnlyCard

/-- THE TIED CARD OF 'yettlaw18.LaneStays'. -/
def laneStaysCard : Claim7 := { stood := { row := laneStaysRow, standIns := [], harness := (true, "dfd710d1de4c37b49c1a016a84aff0e9e9890c7aa00c367284a302b5ea8decba"), looks := true }, kinds := [], alts := [], laidByText := true, laidKinds := [.data], laidTests := true, laidLooks := .later }
def LaneStaysCardSaid : Prop := Claim7.holds Tryz.pinned (.plain (OpenSpec.ofChange laneStaysSpec)) laneStaysCard

/-- THE TIED CARD OF 'yettlaw18.LaneForged'. -/
def laneForgedCard : Claim7 := { stood := { row := laneForgedRow, standIns := [], harness := (true, "dfd710d1de4c37b49c1a016a84aff0e9e9890c7aa00c367284a302b5ea8decba"), looks := true }, kinds := [], alts := [], laidByText := true, laidKinds := [.data], laidTests := true, laidLooks := .later }
def LaneForgedCardSaid : Prop := Claim7.holds Tryz.pinned (.plain (OpenSpec.ofChange laneForgedSpec)) laneForgedCard

/-- THE TIED CARD OF 'yettlaw18.LaneLeft'. -/
def laneLeftCard : Claim7 := { stood := { row := laneLeftRow, standIns := [], harness := (true, "dfd710d1de4c37b49c1a016a84aff0e9e9890c7aa00c367284a302b5ea8decba"), looks := true }, kinds := [], alts := [], laidByText := true, laidKinds := [.data], laidTests := true, laidLooks := .later }
def LaneLeftCardSaid : Prop := Claim7.holds Tryz.pinned (.plain (OpenSpec.ofChange laneLeftSpec)) laneLeftCard

/-- THE TIED CARD OF 'yettlaw18.LaneTells'. -/
def laneTellsCard : Claim7 := { stood := { row := laneTellsRow, standIns := [], harness := (true, "dfd710d1de4c37b49c1a016a84aff0e9e9890c7aa00c367284a302b5ea8decba"), looks := true }, kinds := [], alts := [], laidByText := true, laidKinds := [.data], laidTests := true, laidLooks := .later }
def LaneTellsCardSaid : Prop := Claim7.holds Tryz.pinned (.plain (OpenSpec.ofChange laneTellsSpec)) laneTellsCard

/-- THE TIED CARD OF 'yettlaw18.LaneKeys'. -/
def laneKeysCard : Claim7 := { stood := { row := laneKeysRow, standIns := [], harness := (true, "dfd710d1de4c37b49c1a016a84aff0e9e9890c7aa00c367284a302b5ea8decba"), looks := true }, kinds := [], alts := [], laidByText := true, laidKinds := [.data], laidTests := true, laidLooks := .later }
def LaneKeysCardSaid : Prop := Claim7.holds Tryz.pinned (.plain (OpenSpec.ofChange laneKeysSpec)) laneKeysCard

/-- THE SECOND FORM's CARD OF 'yettlaw18.LaneSends'. -/
def laneSendsUptoCard : Claim7 := { stood := { row := laneSendsUptoRow, standIns := [], harness := (true, "dfd710d1de4c37b49c1a016a84aff0e9e9890c7aa00c367284a302b5ea8decba"), looks := true }, kinds := [], alts := [], laidByText := true, laidKinds := [.data], laidTests := true, laidLooks := .later }
def LaneSendsUptoCardSaid : Prop := Claim7.holds Tryz.pinned (.plain (OpenSpec.upto laneSendsSpec)) laneSendsUptoCard

/-- THE SECOND FORM's CARD OF 'yettlaw18.LaneTakes'. -/
def laneTakesUptoCard : Claim7 := { stood := { row := laneTakesUptoRow, standIns := [], harness := (true, "dfd710d1de4c37b49c1a016a84aff0e9e9890c7aa00c367284a302b5ea8decba"), looks := true }, kinds := [], alts := [], laidByText := true, laidKinds := [.data], laidTests := true, laidLooks := .later }
def LaneTakesUptoCardSaid : Prop := Claim7.holds Tryz.pinned (.plain (OpenSpec.upto laneTakesSpec)) laneTakesUptoCard

/-- THE SECOND FORM's CARD OF 'yettlaw18.LaneBack'. -/
def laneBackUptoCard : Claim7 := { stood := { row := laneBackUptoRow, standIns := [], harness := (true, "dfd710d1de4c37b49c1a016a84aff0e9e9890c7aa00c367284a302b5ea8decba"), looks := true }, kinds := [], alts := [], laidByText := true, laidKinds := [.data], laidTests := true, laidLooks := .later }
def LaneBackUptoCardSaid : Prop := Claim7.holds Tryz.pinned (.plain (OpenSpec.upto laneBackSpec)) laneBackUptoCard

/-- THE SECOND FORM's CARD OF 'yettlaw18.LaneOnly'. -/
def laneOnlyUptoCard : Claim7 := { stood := { row := laneOnlyUptoRow, standIns := [], harness := (true, "dfd710d1de4c37b49c1a016a84aff0e9e9890c7aa00c367284a302b5ea8decba"), looks := true }, kinds := [], alts := [], laidByText := true, laidKinds := [.data], laidTests := true, laidLooks := .later }
def LaneOnlyUptoCardSaid : Prop := Claim7.holds Tryz.pinned (.plain (OpenSpec.upto laneOnlySpec)) laneOnlyUptoCard

/-- THE SECOND FORM's CARD OF 'yettlaw18.LaneStays'. -/
def laneStaysUptoCard : Claim7 := { stood := { row := laneStaysUptoRow, standIns := [], harness := (true, "dfd710d1de4c37b49c1a016a84aff0e9e9890c7aa00c367284a302b5ea8decba"), looks := true }, kinds := [], alts := [], laidByText := true, laidKinds := [.data], laidTests := true, laidLooks := .later }
def LaneStaysUptoCardSaid : Prop := Claim7.holds Tryz.pinned (.plain (OpenSpec.upto laneStaysSpec)) laneStaysUptoCard

/-- THE SECOND FORM's CARD OF 'yettlaw18.LaneForged'. -/
def laneForgedUptoCard : Claim7 := { stood := { row := laneForgedUptoRow, standIns := [], harness := (true, "dfd710d1de4c37b49c1a016a84aff0e9e9890c7aa00c367284a302b5ea8decba"), looks := true }, kinds := [], alts := [], laidByText := true, laidKinds := [.data], laidTests := true, laidLooks := .later }
def LaneForgedUptoCardSaid : Prop := Claim7.holds Tryz.pinned (.plain (OpenSpec.upto laneForgedSpec)) laneForgedUptoCard

/-- THE SECOND FORM's CARD OF 'yettlaw18.LaneLeft'. -/
def laneLeftUptoCard : Claim7 := { stood := { row := laneLeftUptoRow, standIns := [], harness := (true, "dfd710d1de4c37b49c1a016a84aff0e9e9890c7aa00c367284a302b5ea8decba"), looks := true }, kinds := [], alts := [], laidByText := true, laidKinds := [.data], laidTests := true, laidLooks := .later }
def LaneLeftUptoCardSaid : Prop := Claim7.holds Tryz.pinned (.plain (OpenSpec.upto laneLeftSpec)) laneLeftUptoCard

/-- THE SECOND FORM's CARD OF 'yettlaw18.LaneTells'. -/
def laneTellsUptoCard : Claim7 := { stood := { row := laneTellsUptoRow, standIns := [], harness := (true, "dfd710d1de4c37b49c1a016a84aff0e9e9890c7aa00c367284a302b5ea8decba"), looks := true }, kinds := [], alts := [], laidByText := true, laidKinds := [.data], laidTests := true, laidLooks := .later }
def LaneTellsUptoCardSaid : Prop := Claim7.holds Tryz.pinned (.plain (OpenSpec.upto laneTellsSpec)) laneTellsUptoCard

/-- THE SECOND FORM's CARD OF 'yettlaw18.LaneKeys'. -/
def laneKeysUptoCard : Claim7 := { stood := { row := laneKeysUptoRow, standIns := [], harness := (true, "dfd710d1de4c37b49c1a016a84aff0e9e9890c7aa00c367284a302b5ea8decba"), looks := true }, kinds := [], alts := [], laidByText := true, laidKinds := [.data], laidTests := true, laidLooks := .later }
def LaneKeysUptoCardSaid : Prop := Claim7.holds Tryz.pinned (.plain (OpenSpec.upto laneKeysSpec)) laneKeysUptoCard
end Rows
end Go.Proofs.YtadpiemjgfndgaaGreatDoor
