/-
  DERIVED. GIVEN WITH THE SEED: THE CARDS: each row of YtonipcfnhmnnlaaGreatDoorRows.lean that lists a variable, with what it lists TIED to the program's text (the seventh form; the later family's looks); each row that meets fmt, with fmt's text TOLD by the authors' own Lean function (tested against real Go, not proved from fmt's source: count such statements apart). THE CARD IS WHAT COUNTS. Prove the row's statement (the work); the ties are given (YtonipcfnhmnnlaaGreatDoorTie.lean); close each card by the builder's one call (the guide's Derived/Test/ToyasCard.lean, 'card_holds'). Laid BY PROGRAM, IN A SANDBOX (cutbox-door.mjs). By AI agents, Wed Nov 11 2026. No macro, syntax, notation, axiom, sorry.
-/
import Derived.Test.YtonipcfnhmnnlaaGreatDoorRows
import GoSem.ClaimSeven
namespace Go.Proofs.YtonipcfnhmnnlaaGreatDoor
namespace Rows

/-- THE TIED CARD OF 'hagioscopetop.TopWhole'. -/
def topWholeCard : Claim7 := { stood := { row := topWholeRow, standIns := [], harness := (true, "079212f403b863968cb893c4d405f092b43a3b03eb075c3af81e2537b019675a"), looks := true }, kinds := [], alts := [], laidByText := true, laidKinds := [.data, .data, .data, .data, .sentinel, .sentinel, .widerDeep, .pinned], laidTests := true, laidLooks := .later }
def TopWholeCardSaid : Prop := Claim7.holds Tryz.pinned (.plain (OpenSpec.ofChange topWholeSpec)) topWholeCard

/-- THE TIED CARD OF 'hagioscopetop.TopDial'. -/
def topDialCard : Claim7 := { stood := { row := topDialRow, standIns := [], harness := (true, "079212f403b863968cb893c4d405f092b43a3b03eb075c3af81e2537b019675a"), looks := true }, kinds := [], alts := [], laidByText := true, laidKinds := [.data, .data, .data, .data, .sentinel, .sentinel, .widerDeep, .pinned], laidTests := true, laidLooks := .later }
def TopDialCardSaid : Prop := Claim7.holds Tryz.pinned (.plain (OpenSpec.ofChange topDialSpec)) topDialCard

/-- THE SECOND FORM's CARD OF 'hagioscopetop.TopWhole'. -/
def topWholeUptoCard : Claim7 := { stood := { row := topWholeUptoRow, standIns := [], harness := (true, "079212f403b863968cb893c4d405f092b43a3b03eb075c3af81e2537b019675a"), looks := true }, kinds := [], alts := [], laidByText := true, laidKinds := [.data, .data, .data, .data, .sentinel, .sentinel, .widerDeep, .pinned], laidTests := true, laidLooks := .later }
def TopWholeUptoCardSaid : Prop := Claim7.holds Tryz.pinned (.plain (OpenSpec.upto topWholeSpec)) topWholeUptoCard

/-- THE SECOND FORM's CARD OF 'hagioscopetop.TopDial'. -/
def topDialUptoCard : Claim7 := { stood := { row := topDialUptoRow, standIns := [], harness := (true, "079212f403b863968cb893c4d405f092b43a3b03eb075c3af81e2537b019675a"), looks := true }, kinds := [], alts := [], laidByText := true, laidKinds := [.data, .data, .data, .data, .sentinel, .sentinel, .widerDeep, .pinned], laidTests := true, laidLooks := .later }
def TopDialUptoCardSaid : Prop := Claim7.holds Tryz.pinned (.plain (OpenSpec.upto topDialSpec)) topDialUptoCard
end Rows
end Go.Proofs.YtonipcfnhmnnlaaGreatDoor
