/- What the rows' list gives a walk (Glob), and a world for the rows' witness. -/
import Derived.Test.YtoggkfapdomhgaaDoorCards
import Derived.Test.YtoggkfapdomhgaaDoorTie
import Derived.Test.YtoggkfapdomhgaaDoorHc
import Derived.WalkKit
import Derived.ProofKit
import Derived.OpenShut
import Derived.Below
import Derived.Carry
import Derived.SizedLaws
import Derived.ChangeSame
import Derived.ChangeMaps5
import Derived.ChangeSlices
import Derived.Deep.DeepHandedRow
import Derived.Deep.DeepLaidRun
import Derived.Lib.LaidTab
import Derived.Lib.SmallJoins
import Derived.Stop.LaidErr
import Derived.Deep.DeepWitnessRowRef
namespace Go.Proofs.YtoggkfapdomhgaaDoor.Laid
open Go.ChangeShapes Go.WideShapes Go.ChangeAt Go.RowKit
open Go.Proofs.YtoggkfapdomhgaaDoor.Pr
set_option linter.unusedVariables false
set_option maxRecDepth 100000

theorem own : ownKnob Tryd.prog.godebug = none := by kernel_rfl
theorem laidOut : laidOutB Tryd.prog = true := by kernel_rfl
theorem tSpace : (Tryd.prog.globals[0]?).map (·.type) = some 111 := by kernel_rfl
theorem size_of_shape {W : World} (h : W.ShapedOpen Tryd.prog) : 6 ≤ W.heap.size := by
  have e : (((begin Tryd.prog (fun _ _ => 0) default).world.heap[5]?).bind Obj.row?).isSome = true := by kernel_rfl
  obtain ⟨⟨z, t⟩, e⟩ := Option.isSome_iff_exists.1 e
  obtain ⟨cs, hh, _⟩ := h.1 5 z t (of_decide_eq_true (by kernel_rfl)) e
  have := (Array.getElem?_eq_some_iff.1 hh).1
  omega
/-- WHAT THE ROW's LIST GIVES. -/
theorem glob {W : World} (h : laidMetH Tryd.prog Rows.protocolEditsBackRow.laid W) (hs : W.ShapedOpen Tryd.prog) : Glob W := by
  have h0 : laidMet Tryd.prog Rows.protocolEditsBackRow.laid W := h
  have h4 := laidMet.tail (laidMet.tail (laidMet.tail (laidMet.tail h0)))
  exact ⟨size_of_shape hs, Lib.tabIs_of_head (zs := Lib.asciiSpaceTab) gnSpace tSpace Tryd.underlying111 Tryd.underlying5 (by kernel_rfl) (by kernel_rfl) h4⟩

/-! A world for the witness: the settled one, each listed variable holding what its initialiser lays. -/
noncomputable def low : Nat := (World.holding Tryd.prog default ⟨#[], #[], []⟩).heap.size
def cellOf : DataW Unit → List Value
  | .lit (.int j n) => [.int j n]
  | .agg m => m.flatMap fun x => (match x with | .lit (.int j n) => [.int j n] | _ => [])
  | _ => []
def intsOf : DataW Unit → List Value
  | .agg l => l.flatMap cellOf
  | _ => []
def rangesOf : DataW Unit → List Value
  | .ptr (.agg [.slice l _, _, _]) => l.flatMap cellOf
  | _ => []
noncomputable def put (w : World) (g : Nat) (cs : Array Value) : World := { w with heap := w.heap.modify g fun | .cells _ t frozen => .cells cs t frozen | o => o }
noncomputable def laidWorld (os : Os) : World :=
  let w0 := World.holding Tryd.prog os ⟨#[.cells #[.slice (some ⟨low + 1, 0, none⟩) 7 7, .slice none 0 0, .int .i64 2] 138, .cells (rangesOf Rows.laid_unicode_White_Space).toArray 141], #[], []⟩
  put (put (put (put (put w0 0 (intsOf Rows.laid_strings_asciiSpace).toArray) 1 #[.pointer (some ⟨low, 0, none⟩)]) 2 (intsOf Rows.laid_internal_strconv_uint64pow10).toArray) 3 (intsOf Rows.laid_math_bits_deBruijn32tab).toArray) 4 (intsOf Rows.laid_math_bits_deBruijn64tab).toArray
theorem laid_met (os : Os) (args : Array Value) : laidMet Tryd.prog Rows.protocolEditsBackRow.laid ((laidWorld os).forCall (fun _ _ => 0) ⟨#[], args, []⟩).memory :=
  laidMet_of_run3 10 (by kernel_rfl) (by kernel_rfl) (by kernel_rfl)
end Go.Proofs.YtoggkfapdomhgaaDoor.Laid
