/- The door's heap meets the rows' condition. -/
import Derived.Test.YtfmbkkpdmpgmdaaDoorbOpen
import Derived.Test.YtfmbkkpdmpgmdaaDoorTie
import Derived.Test.YtfmbkkpdmpgmdaaDoorCards
import Derived.LaidMore
import Derived.OpenShut
import Derived.Stop.Joined
import Derived.SevenTiedAt
namespace Go.Proofs.YtfmbkkpdmpgmdaaDoor
open Go.ChangeShapes Go.WideShapes Go.ChangeAt Go.RowKit

/-- What the rows list. -/
def laidA : List (String × DataW Unit) := Rows.catalogNamesRow.laid
set_option maxRecDepth 100000
theorem door_metA (os : Os) (args : Array Value) : laidMetH Tryd.prog laidA ((World.doorLaid Tryd.prog 400 os).forCall (fun _ _ => 0) ⟨#[], args, []⟩).memory :=
  laidMetH_of_parts3 (fuel := 8) (laidMet_of_run' 8 (by kernel_rfl) (by kernel_rfl)) (by kernel_rfl) (by kernel_rfl)
end Go.Proofs.YtfmbkkpdmpgmdaaDoor
