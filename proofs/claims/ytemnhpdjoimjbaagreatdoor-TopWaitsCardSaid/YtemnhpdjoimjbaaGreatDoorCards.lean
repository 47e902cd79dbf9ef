/-
  DERIVED. GIVEN WITH THE SEED: THE CARDS: each row of YtemnhpdjoimjbaaGreatDoorRows.lean that lists a variable, with what it lists TIED to the program's text (the seventh form; the later family's looks); each row that meets fmt, with fmt's text TOLD by the authors' own Lean function (tested against real Go, not proved from fmt's source: count such statements apart). THE CARD IS WHAT COUNTS. Prove the row's statement (the work); the ties are given (YtemnhpdjoimjbaaGreatDoorTie.lean); close each card by the builder's one call (the guide's Derived/Test/ToyasCard.lean, 'card_holds'). Laid BY PROGRAM, IN A SANDBOX (cutbox-door.mjs). By AI agents, Wed Nov 11 2026. No macro, syntax, notation, axiom, sorry.
-/
import Derived.Test.YtemnhpdjoimjbaaGreatDoorRows
import GoSem.ClaimSeven
namespace Go.Proofs.YtemnhpdjoimjbaaGreatDoor
namespace Rows

/-- THE TIED CARD OF 'spigottop.TopWaits'. -/
def topWaitsCard : Claim7 := { stood := { row := topWaitsRow, standIns := [], harness := (true, "f672cdf8e9d9929d9dcb9f33f365d726670b41a1dee107ce911d6ee6e80b86ff"), looks := false }, kinds := [], alts := [], laidByText := true, laidKinds := [.data], laidTests := true, laidLooks := .later }
def TopWaitsCardSaid : Prop := Claim7.holds Tryz.pinned (.plain (OpenSpec.ofChange topWaitsSpec)) topWaitsCard

/-- THE SECOND FORM's CARD OF 'spigottop.TopWaits'. -/
def topWaitsUptoCard : Claim7 := { stood := { row := topWaitsUptoRow, standIns := [], harness := (true, "f672cdf8e9d9929d9dcb9f33f365d726670b41a1dee107ce911d6ee6e80b86ff"), looks := false }, kinds := [], alts := [], laidByText := true, laidKinds := [.data], laidTests := true, laidLooks := .later }
def TopWaitsUptoCardSaid : Prop := Claim7.holds Tryz.pinned (.plain (OpenSpec.upto topWaitsSpec)) topWaitsUptoCard
end Rows
end Go.Proofs.YtemnhpdjoimjbaaGreatDoor
