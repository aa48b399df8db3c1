/-
  DERIVED. GIVEN WITH THE SEED: THE CARDS: each row of YtnogcpjfgnpbbaaDoorRows.lean that lists a variable, with what it lists TIED to the program's text (the seventh form; the later family's looks); each row that meets fmt, with fmt's text TOLD by the authors' own Lean function (tested against real Go, not proved from fmt's source: count such statements apart). THE CARD IS WHAT COUNTS. Prove the row's statement (the work); the ties are given (YtnogcpjfgnpbbaaDoorTie.lean); close each card by the builder's one call (the guide's Derived/Test/ToyasCard.lean, 'card_holds'). Laid BY PROGRAM, IN A SANDBOX (cutbox-door.mjs). By AI agents, Wed Nov 11 2026. No macro, syntax, notation, axiom, sorry.
-/
import Derived.Test.YtnogcpjfgnpbbaaDoorRows
import GoSem.ClaimSeven
namespace Go.Proofs.YtnogcpjfgnpbbaaDoor
namespace Rows

/-- THE TIED CARD OF 'whispererlaw20.TwinKeys'. -/
def twinKeysCard : Claim7 := { stood := { row := twinKeysRow, standIns := [], harness := (true, "2acf4bb187940596209e08f3ad6b4346252cdfd0570ef37875585656d221b2d5"), looks := false }, kinds := [], alts := [], laidByText := true, laidKinds := [.data, .pinned], laidTests := true, laidLooks := .later }
def TwinKeysCardSaid : Prop := Claim7.holds Tryd.pinned (.plain (OpenSpec.ofChange twinKeysSpec)) twinKeysCard

/-- THE SECOND FORM's CARD OF 'whispererlaw20.TwinKeys'. -/
def twinKeysUptoCard : Claim7 := { stood := { row := twinKeysUptoRow, standIns := [], harness := (true, "2acf4bb187940596209e08f3ad6b4346252cdfd0570ef37875585656d221b2d5"), looks := false }, kinds := [], alts := [], laidByText := true, laidKinds := [.data, .pinned], laidTests := true, laidLooks := .later }
def TwinKeysUptoCardSaid : Prop := Claim7.holds Tryd.pinned (.plain (OpenSpec.upto twinKeysSpec)) twinKeysUptoCard
end Rows
end Go.Proofs.YtnogcpjfgnpbbaaDoor
