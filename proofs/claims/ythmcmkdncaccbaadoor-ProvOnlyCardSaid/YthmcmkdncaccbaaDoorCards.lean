/-
  DERIVED. GIVEN WITH THE SEED: THE CARDS: each row of YthmcmkdncaccbaaDoorRows.lean that lists a variable, with what it lists TIED to the program's text (the seventh form; the later family's looks); each row that meets fmt, with fmt's text TOLD by the authors' own Lean function (tested against real Go, not proved from fmt's source: count such statements apart). THE CARD IS WHAT COUNTS. Prove the row's statement (the work); the ties are given (YthmcmkdncaccbaaDoorTie.lean); close each card by the builder's one call (the guide's Derived/Test/ToyasCard.lean, 'card_holds'). Laid BY PROGRAM, IN A SANDBOX (cutbox-door.mjs). By AI agents, Wed Nov 11 2026. No macro, syntax, notation, axiom, sorry.
-/
import Derived.Test.YthmcmkdncaccbaaDoorRows
import GoSem.ClaimSeven
namespace Go.Proofs.YthmcmkdncaccbaaDoor
namespace Rows

/-- THE TIED CARD OF 'yettlaw04.ProvTells'. -/
def provTellsCard : Claim7 := { stood := { row := provTellsRow, standIns := [], harness := (true, "0217f4cc00b8d58df3e1b16f915643bac93df366a0e24bf56646265f7865dfde"), looks := false }, kinds := [], alts := [], laidByText := true, laidKinds := [.data], laidTests := true, laidLooks := .later }
def ProvTellsCardSaid : Prop := Claim7.holds Tryd.pinned (.plain (OpenSpec.ofChange provTellsSpec)) provTellsCard

/-- THE TIED CARD OF 'yettlaw04.ProvAlike'. -/
def provAlikeCard : Claim7 := { stood := { row := provAlikeRow, standIns := [], harness := (true, "0217f4cc00b8d58df3e1b16f915643bac93df366a0e24bf56646265f7865dfde"), looks := false }, kinds := [], alts := [], laidByText := true, laidKinds := [.data], laidTests := true, laidLooks := .later }
def ProvAlikeCardSaid : Prop := Claim7.holds Tryd.pinned (.plain (OpenSpec.ofChange provAlikeSpec)) provAlikeCard

/-- THE TIED CARD OF 'yettlaw04.ProvOnly'. -/
def provOnlyCard : Claim7 := { stood := { row := provOnlyRow, standIns := [], harness := (true, "0217f4cc00b8d58df3e1b16f915643bac93df366a0e24bf56646265f7865dfde"), looks := false }, kinds := [], alts := [], laidByText := true, laidKinds := [.data], laidTests := true, laidLooks := .later }
def ProvOnlyCardSaid : Prop := Claim7.holds Tryd.pinned (.plain (OpenSpec.ofChange provOnlySpec)) provOnlyCard

/-- THE TIED CARD OF 'yettlaw04.ProvOnce'. -/
def provOnceCard : Claim7 := { stood := { row := provOnceRow, standIns := [], harness := (true, "0217f4cc00b8d58df3e1b16f915643bac93df366a0e24bf56646265f7865dfde"), looks := false }, kinds := [], alts := [], laidByText := true, laidKinds := [.data], laidTests := true, laidLooks := .later }
def ProvOnceCardSaid : Prop := Claim7.holds Tryd.pinned (.plain (OpenSpec.ofChange provOnceSpec)) provOnceCard

/-- THE TIED CARD OF 'yettlaw04.ProvSpoilt'. -/
def provSpoiltCard : Claim7 := { stood := { row := provSpoiltRow, standIns := [], harness := (true, "0217f4cc00b8d58df3e1b16f915643bac93df366a0e24bf56646265f7865dfde"), looks := false }, kinds := [], alts := [], laidByText := true, laidKinds := [.data], laidTests := true, laidLooks := .later }
def ProvSpoiltCardSaid : Prop := Claim7.holds Tryd.pinned (.plain (OpenSpec.ofChange provSpoiltSpec)) provSpoiltCard

/-- THE TIED CARD OF 'yettlaw04.ProvOrder'. -/
def provOrderCard : Claim7 := { stood := { row := provOrderRow, standIns := [], harness := (true, "0217f4cc00b8d58df3e1b16f915643bac93df366a0e24bf56646265f7865dfde"), looks := false }, kinds := [], alts := [], laidByText := true, laidKinds := [.data], laidTests := true, laidLooks := .later }
def ProvOrderCardSaid : Prop := Claim7.holds Tryd.pinned (.plain (OpenSpec.ofChange provOrderSpec)) provOrderCard

/-- THE SECOND FORM's CARD OF 'yettlaw04.ProvTells'. -/
def provTellsUptoCard : Claim7 := { stood := { row := provTellsUptoRow, standIns := [], harness := (true, "0217f4cc00b8d58df3e1b16f915643bac93df366a0e24bf56646265f7865dfde"), looks := false }, kinds := [], alts := [], laidByText := true, laidKinds := [.data], laidTests := true, laidLooks := .later }
def ProvTellsUptoCardSaid : Prop := Claim7.holds Tryd.pinned (.plain (OpenSpec.upto provTellsSpec)) provTellsUptoCard

/-- THE SECOND FORM's CARD OF 'yettlaw04.ProvAlike'. -/
def provAlikeUptoCard : Claim7 := { stood := { row := provAlikeUptoRow, standIns := [], harness := (true, "0217f4cc00b8d58df3e1b16f915643bac93df366a0e24bf56646265f7865dfde"), looks := false }, kinds := [], alts := [], laidByText := true, laidKinds := [.data], laidTests := true, laidLooks := .later }
def ProvAlikeUptoCardSaid : Prop := Claim7.holds Tryd.pinned (.plain (OpenSpec.upto provAlikeSpec)) provAlikeUptoCard

/-- THE SECOND FORM's CARD OF 'yettlaw04.ProvOnly'. -/
def provOnlyUptoCard : Claim7 := { stood := { row := provOnlyUptoRow, standIns := [], harness := (true, "0217f4cc00b8d58df3e1b16f915643bac93df366a0e24bf56646265f7865dfde"), looks := false }, kinds := [], alts := [], laidByText := true, laidKinds := [.data], laidTests := true, laidLooks := .later }
def ProvOnlyUptoCardSaid : Prop := Claim7.holds Tryd.pinned (.plain (OpenSpec.upto provOnlySpec)) provOnlyUptoCard

/-- THE SECOND FORM's CARD OF 'yettlaw04.ProvOnce'. -/
def provOnceUptoCard : Claim7 := { stood := { row := provOnceUptoRow, standIns := [], harness := (true, "0217f4cc00b8d58df3e1b16f915643bac93df366a0e24bf56646265f7865dfde"), looks := false }, kinds := [], alts := [], laidByText := true, laidKinds := [.data], laidTests := true, laidLooks := .later }
def ProvOnceUptoCardSaid : Prop := Claim7.holds Tryd.pinned (.plain (OpenSpec.upto provOnceSpec)) provOnceUptoCard

/-- THE SECOND FORM's CARD OF 'yettlaw04.ProvSpoilt'. -/
def provSpoiltUptoCard : Claim7 := { stood := { row := provSpoiltUptoRow, standIns := [], harness := (true, "0217f4cc00b8d58df3e1b16f915643bac93df366a0e24bf56646265f7865dfde"), looks := false }, kinds := [], alts := [], laidByText := true, laidKinds := [.data], laidTests := true, laidLooks := .later }
def ProvSpoiltUptoCardSaid : Prop := Claim7.holds Tryd.pinned (.plain (OpenSpec.upto provSpoiltSpec)) provSpoiltUptoCard

/-- THE SECOND FORM's CARD OF 'yettlaw04.ProvOrder'. -/
def provOrderUptoCard : Claim7 := { stood := { row := provOrderUptoRow, standIns := [], harness := (true, "0217f4cc00b8d58df3e1b16f915643bac93df366a0e24bf56646265f7865dfde"), looks := false }, kinds := [], alts := [], laidByText := true, laidKinds := [.data], laidTests := true, laidLooks := .later }
def ProvOrderUptoCardSaid : Prop := Claim7.holds Tryd.pinned (.plain (OpenSpec.upto provOrderSpec)) provOrderUptoCard
end Rows
end Go.Proofs.YthmcmkdncaccbaaDoor
