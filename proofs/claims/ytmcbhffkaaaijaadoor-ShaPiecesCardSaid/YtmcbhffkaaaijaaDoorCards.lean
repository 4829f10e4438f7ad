/-
  DERIVED. GIVEN WITH THE SEED: THE CARDS: each row of YtmcbhffkaaaijaaDoorRows.lean that lists a variable, with what it lists TIED to the program's text (the seventh form; the later family's looks); each row that meets fmt, with fmt's text TOLD by the authors' own Lean function (tested against real Go, not proved from fmt's source: count such statements apart). THE CARD IS WHAT COUNTS. Prove the row's statement (the work); the ties are given (YtmcbhffkaaaijaaDoorTie.lean); close each card by the builder's one call (the guide's Derived/Test/ToyasCard.lean, 'card_holds'). Laid BY PROGRAM, IN A SANDBOX (cutbox-door.mjs). By AI agents, Wed Nov 11 2026. No macro, syntax, notation, axiom, sorry.
-/
import Derived.Test.YtmcbhffkaaaijaaDoorRows
import GoSem.ClaimSeven
namespace Go.Proofs.YtmcbhffkaaaijaaDoor
namespace Rows

/-- THE TIED CARD OF 'yettlaw02.ShaTells'. -/
def shaTellsCard : Claim7 := { stood := { row := shaTellsRow, standIns := [], harness := (true, "a9098c29a2d8cf7aeedf3378d38ea34b0e0e76bcaf1d9b7235e3e192b22a5de2"), looks := false }, kinds := [], alts := [], laidByText := true, laidKinds := [.data], laidTests := true, laidLooks := .later }
def ShaTellsCardSaid : Prop := Claim7.holds Tryd.pinned (.plain (OpenSpec.ofChange shaTellsSpec)) shaTellsCard

/-- THE TIED CARD OF 'yettlaw02.ShaParts'. -/
def shaPartsCard : Claim7 := { stood := { row := shaPartsRow, standIns := [], harness := (true, "a9098c29a2d8cf7aeedf3378d38ea34b0e0e76bcaf1d9b7235e3e192b22a5de2"), looks := false }, kinds := [], alts := [], laidByText := true, laidKinds := [.data], laidTests := true, laidLooks := .later }
def ShaPartsCardSaid : Prop := Claim7.holds Tryd.pinned (.plain (OpenSpec.ofChange shaPartsSpec)) shaPartsCard

/-- THE TIED CARD OF 'yettlaw02.ShaPuts'. -/
def shaPutsCard : Claim7 := { stood := { row := shaPutsRow, standIns := [], harness := (true, "a9098c29a2d8cf7aeedf3378d38ea34b0e0e76bcaf1d9b7235e3e192b22a5de2"), looks := false }, kinds := [], alts := [], laidByText := true, laidKinds := [.data], laidTests := true, laidLooks := .later }
def ShaPutsCardSaid : Prop := Claim7.holds Tryd.pinned (.plain (OpenSpec.ofChange shaPutsSpec)) shaPutsCard

/-- THE TIED CARD OF 'yettlaw02.ShaPieces'. -/
def shaPiecesCard : Claim7 := { stood := { row := shaPiecesRow, standIns := [], harness := (true, "a9098c29a2d8cf7aeedf3378d38ea34b0e0e76bcaf1d9b7235e3e192b22a5de2"), looks := false }, kinds := [], alts := [], laidByText := true, laidKinds := [.data], laidTests := true, laidLooks := .later }
def ShaPiecesCardSaid : Prop := Claim7.holds Tryd.pinned (.plain (OpenSpec.ofChange shaPiecesSpec)) shaPiecesCard

/-- THE TIED CARD OF 'yettlaw02.ShaKeys'. -/
def shaKeysCard : Claim7 := { stood := { row := shaKeysRow, standIns := [], harness := (true, "a9098c29a2d8cf7aeedf3378d38ea34b0e0e76bcaf1d9b7235e3e192b22a5de2"), looks := false }, kinds := [], alts := [], laidByText := true, laidKinds := [.data], laidTests := true, laidLooks := .later }
def ShaKeysCardSaid : Prop := Claim7.holds Tryd.pinned (.plain (OpenSpec.ofChange shaKeysSpec)) shaKeysCard

/-- THE TIED CARD OF 'yettlaw02.ShaBlocks'. -/
def shaBlocksCard : Claim7 := { stood := { row := shaBlocksRow, standIns := [], harness := (true, "a9098c29a2d8cf7aeedf3378d38ea34b0e0e76bcaf1d9b7235e3e192b22a5de2"), looks := false }, kinds := [], alts := [], laidByText := true, laidKinds := [.data], laidTests := true, laidLooks := .later }
def ShaBlocksCardSaid : Prop := Claim7.holds Tryd.pinned (.plain (OpenSpec.ofChange shaBlocksSpec)) shaBlocksCard

/-- THE TIED CARD OF 'yettlaw02.ShaGoes'. -/
def shaGoesCard : Claim7 := { stood := { row := shaGoesRow, standIns := [], harness := (true, "a9098c29a2d8cf7aeedf3378d38ea34b0e0e76bcaf1d9b7235e3e192b22a5de2"), looks := false }, kinds := [], alts := [], laidByText := true, laidKinds := [.data], laidTests := true, laidLooks := .later }
def ShaGoesCardSaid : Prop := Claim7.holds Tryd.pinned (.plain (OpenSpec.ofChange shaGoesSpec)) shaGoesCard

/-- THE SECOND FORM's CARD OF 'yettlaw02.ShaTells'. -/
def shaTellsUptoCard : Claim7 := { stood := { row := shaTellsUptoRow, standIns := [], harness := (true, "a9098c29a2d8cf7aeedf3378d38ea34b0e0e76bcaf1d9b7235e3e192b22a5de2"), looks := false }, kinds := [], alts := [], laidByText := true, laidKinds := [.data], laidTests := true, laidLooks := .later }
def ShaTellsUptoCardSaid : Prop := Claim7.holds Tryd.pinned (.plain (OpenSpec.upto shaTellsSpec)) shaTellsUptoCard

/-- THE SECOND FORM's CARD OF 'yettlaw02.ShaParts'. -/
def shaPartsUptoCard : Claim7 := { stood := { row := shaPartsUptoRow, standIns := [], harness := (true, "a9098c29a2d8cf7aeedf3378d38ea34b0e0e76bcaf1d9b7235e3e192b22a5de2"), looks := false }, kinds := [], alts := [], laidByText := true, laidKinds := [.data], laidTests := true, laidLooks := .later }
def ShaPartsUptoCardSaid : Prop := Claim7.holds Tryd.pinned (.plain (OpenSpec.upto shaPartsSpec)) shaPartsUptoCard

/-- THE SECOND FORM's CARD OF 'yettlaw02.ShaPuts'. -/
def shaPutsUptoCard : Claim7 := { stood := { row := shaPutsUptoRow, standIns := [], harness := (true, "a9098c29a2d8cf7aeedf3378d38ea34b0e0e76bcaf1d9b7235e3e192b22a5de2"), looks := false }, kinds := [], alts := [], laidByText := true, laidKinds := [.data], laidTests := true, laidLooks := .later }
def ShaPutsUptoCardSaid : Prop := Claim7.holds Tryd.pinned (.plain (OpenSpec.upto shaPutsSpec)) shaPutsUptoCard

/-- THE SECOND FORM's CARD OF 'yettlaw02.ShaPieces'. -/
def shaPiecesUptoCard : Claim7 := { stood := { row := shaPiecesUptoRow, standIns := [], harness := (true, "a9098c29a2d8cf7aeedf3378d38ea34b0e0e76bcaf1d9b7235e3e192b22a5de2"), looks := false }, kinds := [], alts := [], laidByText := true, laidKinds := [.data], laidTests := true, laidLooks := .later }
def ShaPiecesUptoCardSaid : Prop := Claim7.holds Tryd.pinned (.plain (OpenSpec.upto shaPiecesSpec)) shaPiecesUptoCard

/-- THE SECOND FORM's CARD OF 'yettlaw02.ShaKeys'. -/
def shaKeysUptoCard : Claim7 := { stood := { row := shaKeysUptoRow, standIns := [], harness := (true, "a9098c29a2d8cf7aeedf3378d38ea34b0e0e76bcaf1d9b7235e3e192b22a5de2"), looks := false }, kinds := [], alts := [], laidByText := true, laidKinds := [.data], laidTests := true, laidLooks := .later }
def ShaKeysUptoCardSaid : Prop := Claim7.holds Tryd.pinned (.plain (OpenSpec.upto shaKeysSpec)) shaKeysUptoCard

/-- THE SECOND FORM's CARD OF 'yettlaw02.ShaBlocks'. -/
def shaBlocksUptoCard : Claim7 := { stood := { row := shaBlocksUptoRow, standIns := [], harness := (true, "a9098c29a2d8cf7aeedf3378d38ea34b0e0e76bcaf1d9b7235e3e192b22a5de2"), looks := false }, kinds := [], alts := [], laidByText := true, laidKinds := [.data], laidTests := true, laidLooks := .later }
def ShaBlocksUptoCardSaid : Prop := Claim7.holds Tryd.pinned (.plain (OpenSpec.upto shaBlocksSpec)) shaBlocksUptoCard

/-- THE SECOND FORM's CARD OF 'yettlaw02.ShaGoes'. -/
def shaGoesUptoCard : Claim7 := { stood := { row := shaGoesUptoRow, standIns := [], harness := (true, "a9098c29a2d8cf7aeedf3378d38ea34b0e0e76bcaf1d9b7235e3e192b22a5de2"), looks := false }, kinds := [], alts := [], laidByText := true, laidKinds := [.data], laidTests := true, laidLooks := .later }
def ShaGoesUptoCardSaid : Prop := Claim7.holds Tryd.pinned (.plain (OpenSpec.upto shaGoesSpec)) shaGoesUptoCard
end Rows
end Go.Proofs.YtmcbhffkaaaijaaDoor
