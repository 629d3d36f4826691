/-
  DERIVED. GIVEN WITH THE SEED: THE CARDS: each row of YtefgahakbnfdeaaDoorRows.lean that lists a variable, with what it lists TIED to the program's text (the seventh form; the later family's looks); each row that meets fmt, with fmt's text TOLD by the authors' own Lean function (tested against real Go, not proved from fmt's source: count such statements apart). THE CARD IS WHAT COUNTS. Prove the row's statement (the work); the ties are given (YtefgahakbnfdeaaDoorTie.lean); close each card by the builder's one call (the guide's Derived/Test/ToyasCard.lean, 'card_holds'). Laid BY PROGRAM, IN A SANDBOX (cutbox-door.mjs). By AI agents, Wed Nov 11 2026. No macro, syntax, notation, axiom, sorry.
-/
import Derived.Test.YtefgahakbnfdeaaDoorRows
import GoSem.ClaimSeven
namespace Go.Proofs.YtefgahakbnfdeaaDoor
namespace Rows

/-- THE TIED CARD OF 'coaminglaw11.RecChecks'. -/
def recChecksCard : Claim7 := { stood := { row := recChecksRow, standIns := [], harness := (true, "5d7a6f3d7162c58cd4cace6dd0bc9e014af34f95ba2899733e2d1d283fbf6a17"), looks := false }, kinds := [], alts := [], laidByText := true, laidKinds := [.data, .pinned], laidTests := true, laidLooks := .later }
def RecChecksCardSaid : Prop := Claim7.holds Tryd.pinned (.plain (OpenSpec.ofChange recChecksSpec)) recChecksCard

/-- THE TIED CARD OF 'coaminglaw11.RecTorn'. -/
def recTornCard : Claim7 := { stood := { row := recTornRow, standIns := [], harness := (true, "5d7a6f3d7162c58cd4cace6dd0bc9e014af34f95ba2899733e2d1d283fbf6a17"), looks := false }, kinds := [], alts := [], laidByText := true, laidKinds := [.data, .pinned], laidTests := true, laidLooks := .later }
def RecTornCardSaid : Prop := Claim7.holds Tryd.pinned (.plain (OpenSpec.ofChange recTornSpec)) recTornCard

/-- THE SECOND FORM's CARD OF 'coaminglaw11.RecChecks'. -/
def recChecksUptoCard : Claim7 := { stood := { row := recChecksUptoRow, standIns := [], harness := (true, "5d7a6f3d7162c58cd4cace6dd0bc9e014af34f95ba2899733e2d1d283fbf6a17"), looks := false }, kinds := [], alts := [], laidByText := true, laidKinds := [.data, .pinned], laidTests := true, laidLooks := .later }
def RecChecksUptoCardSaid : Prop := Claim7.holds Tryd.pinned (.plain (OpenSpec.upto recChecksSpec)) recChecksUptoCard

/-- THE SECOND FORM's CARD OF 'coaminglaw11.RecTorn'. -/
def recTornUptoCard : Claim7 := { stood := { row := recTornUptoRow, standIns := [], harness := (true, "5d7a6f3d7162c58cd4cace6dd0bc9e014af34f95ba2899733e2d1d283fbf6a17"), looks := false }, kinds := [], alts := [], laidByText := true, laidKinds := [.data, .pinned], laidTests := true, laidLooks := .later }
def RecTornUptoCardSaid : Prop := Claim7.holds Tryd.pinned (.plain (OpenSpec.upto recTornSpec)) recTornUptoCard
end Rows
end Go.Proofs.YtefgahakbnfdeaaDoor
