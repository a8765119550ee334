/-
  DERIVED. GIVEN WITH THE SEED: THE CARDS: each row of YthgnpbaldhemiaaDoorRows.lean that lists a variable, with what it lists TIED to the program's text (the seventh form; the later family's looks); each row that meets fmt, with fmt's text TOLD by the authors' own Lean function (tested against real Go, not proved from fmt's source: count such statements apart). THE CARD IS WHAT COUNTS. Prove the row's statement (the work); the ties are given (YthgnpbaldhemiaaDoorTie.lean); close each card by the builder's one call (the guide's Derived/Test/ToyasCard.lean, 'card_holds'). Laid BY PROGRAM, IN A SANDBOX (cutbox-door.mjs). By AI agents, Wed Nov 11 2026. No macro, syntax, notation, axiom, sorry.
-/
import Derived.Test.YthgnpbaldhemiaaDoorRows
import GoSem.ClaimSeven
namespace Go.Proofs.YthgnpbaldhemiaaDoor
namespace Rows

/-- THE TIED CARD OF 'familychecklaw01.LinearParses'. -/
def linearParsesCard : Claim7 := { stood := { row := linearParsesRow, standIns := [], harness := (true, "f2b2bd0533a127e117372b1ef6e39ca939f38b3c9ab6e3c5e9f11255e16f830e"), looks := true }, kinds := [], alts := [], laidByText := true, laidKinds := [.data, .data, .data, .data, .sentinel, .sentinel, .pinned], laidTests := true, laidLooks := .later }
def LinearParsesCardSaid : Prop := Claim7.holds Tryd.pinned (.plain (OpenSpec.ofChange linearParsesSpec)) linearParsesCard

/-- THE TIED CARD OF 'familychecklaw01.LinearTextBack'. -/
def linearTextBackCard : Claim7 := { stood := { row := linearTextBackRow, standIns := [], harness := (true, "f2b2bd0533a127e117372b1ef6e39ca939f38b3c9ab6e3c5e9f11255e16f830e"), looks := true }, kinds := [], alts := [], laidByText := true, laidKinds := [.data, .data, .data, .data, .sentinel, .sentinel, .pinned], laidTests := true, laidLooks := .later }
def LinearTextBackCardSaid : Prop := Claim7.holds Tryd.pinned (.plain (OpenSpec.ofChange linearTextBackSpec)) linearTextBackCard

/-- THE SECOND FORM's CARD OF 'familychecklaw01.LinearParses'. -/
def linearParsesUptoCard : Claim7 := { stood := { row := linearParsesUptoRow, standIns := [], harness := (true, "f2b2bd0533a127e117372b1ef6e39ca939f38b3c9ab6e3c5e9f11255e16f830e"), looks := true }, kinds := [], alts := [], laidByText := true, laidKinds := [.data, .data, .data, .data, .sentinel, .sentinel, .pinned], laidTests := true, laidLooks := .later }
def LinearParsesUptoCardSaid : Prop := Claim7.holds Tryd.pinned (.plain (OpenSpec.upto linearParsesSpec)) linearParsesUptoCard

/-- THE SECOND FORM's CARD OF 'familychecklaw01.LinearTextBack'. -/
def linearTextBackUptoCard : Claim7 := { stood := { row := linearTextBackUptoRow, standIns := [], harness := (true, "f2b2bd0533a127e117372b1ef6e39ca939f38b3c9ab6e3c5e9f11255e16f830e"), looks := true }, kinds := [], alts := [], laidByText := true, laidKinds := [.data, .data, .data, .data, .sentinel, .sentinel, .pinned], laidTests := true, laidLooks := .later }
def LinearTextBackUptoCardSaid : Prop := Claim7.holds Tryd.pinned (.plain (OpenSpec.upto linearTextBackSpec)) linearTextBackUptoCard
end Rows
end Go.Proofs.YthgnpbaldhemiaaDoor
