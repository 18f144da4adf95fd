/- What a contract says of a call that leaves alone what was there. -/
import Derived.Test.YtambinjjfapcgaaDoorGrow
import Derived.Test.YtambinjjfapcgaaDoorChecked
namespace Go.Proofs.YtambinjjfapcgaaDoor
open Go.RowKit

/-- The call returns v and leaves alone what was there. -/
def Ret (w : World) (v : Value) (e : Ending) (w' : World) : Prop := e = .returned v ∧ Below w.heap.size w w'
/-- The call returns v and leaves the world alone. -/
def Same (w : World) (v : Value) (e : Ending) (w' : World) : Prop := e = .returned v ∧ w' = w
theorem ret_bool {a b : Bool} (h : a = b) : Ending.returned (.bool a) = .returned (.bool b) := by rw [h]
theorem ret_int {k : IntKind} {a b : Int} (h : a = b) : Ending.returned (.int k a) = .returned (.int k b) := by rw [h]
/-- The call returns a new row that reads as l. -/
def RetRow {α : Type} (E : El α) (t : TypeId) (w : World) (l : List α) (e : Ending) (w' : World) : Prop := ∃ v, e = .returned v ∧ OwnRows E t w' w.heap.size v l ∧ Below w.heap.size w w'
end Go.Proofs.YtambinjjfapcgaaDoor
