/-
  DERIVED. GIVEN WITH THE SEED: THE CARDS: each row of YtoggkfapdomhgaaDoorRows.lean that lists a variable, with what it lists TIED to the program's text (the seventh form; the later family's looks); each row that meets fmt, with fmt's text TOLD by the authors' own Lean function (tested against real Go, not proved from fmt's source: count such statements apart). THE CARD IS WHAT COUNTS. Prove the row's statement (the work); the ties are given (YtoggkfapdomhgaaDoorTie.lean); close each card by the builder's one call (the guide's Derived/Test/ToyasCard.lean, 'card_holds'). Laid BY PROGRAM, IN A SANDBOX (cutbox-door.mjs). By AI agents, Wed Nov 11 2026. No macro, syntax, notation, axiom, sorry.
-/
import Derived.Test.YtoggkfapdomhgaaDoorRows
import GoSem.ClaimSeven
namespace Go.Proofs.YtoggkfapdomhgaaDoor
namespace Rows

/-- THE TIED CARD OF 'familychecklaw02.ProtocolEditsBack'. -/
def protocolEditsBackCard : Claim7 := { stood := { row := protocolEditsBackRow, standIns := [], harness := (true, "7f35cd91756a6c6232b74e9e016ec9cf1af0c45638be00c99f6e5b0be40a5ffc"), looks := false }, kinds := [], alts := [], laidByText := true, laidKinds := [.data, .data, .data, .listed, .data], laidTests := true, laidLooks := .later }
def ProtocolEditsBackCardSaid : Prop := Claim7.holds Tryd.pinned (.plain (OpenSpec.ofChange protocolEditsBackSpec)) protocolEditsBackCard

/-- THE TIED CARD OF 'familychecklaw02.ProtocolTouches'. -/
def protocolTouchesCard : Claim7 := { stood := { row := protocolTouchesRow, standIns := [], harness := (true, "7f35cd91756a6c6232b74e9e016ec9cf1af0c45638be00c99f6e5b0be40a5ffc"), looks := false }, kinds := [], alts := [], laidByText := true, laidKinds := [.data, .data, .data, .listed, .data], laidTests := true, laidLooks := .later }
def ProtocolTouchesCardSaid : Prop := Claim7.holds Tryd.pinned (.plain (OpenSpec.ofChange protocolTouchesSpec)) protocolTouchesCard

/-- THE SECOND FORM's CARD OF 'familychecklaw02.ProtocolEditsBack'. -/
def protocolEditsBackUptoCard : Claim7 := { stood := { row := protocolEditsBackUptoRow, standIns := [], harness := (true, "7f35cd91756a6c6232b74e9e016ec9cf1af0c45638be00c99f6e5b0be40a5ffc"), looks := false }, kinds := [], alts := [], laidByText := true, laidKinds := [.data, .data, .data, .listed, .data], laidTests := true, laidLooks := .later }
def ProtocolEditsBackUptoCardSaid : Prop := Claim7.holds Tryd.pinned (.plain (OpenSpec.upto protocolEditsBackSpec)) protocolEditsBackUptoCard

/-- THE SECOND FORM's CARD OF 'familychecklaw02.ProtocolTouches'. -/
def protocolTouchesUptoCard : Claim7 := { stood := { row := protocolTouchesUptoRow, standIns := [], harness := (true, "7f35cd91756a6c6232b74e9e016ec9cf1af0c45638be00c99f6e5b0be40a5ffc"), looks := false }, kinds := [], alts := [], laidByText := true, laidKinds := [.data, .data, .data, .listed, .data], laidTests := true, laidLooks := .later }
def ProtocolTouchesUptoCardSaid : Prop := Claim7.holds Tryd.pinned (.plain (OpenSpec.upto protocolTouchesSpec)) protocolTouchesUptoCard
end Rows
end Go.Proofs.YtoggkfapdomhgaaDoor
