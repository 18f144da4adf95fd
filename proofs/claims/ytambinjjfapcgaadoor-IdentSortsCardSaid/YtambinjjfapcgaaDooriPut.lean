/- PutUint, the program's and the document's. -/
import Derived.Test.YtambinjjfapcgaaDooriBytes
import Derived.WalkSpells
import Derived.WalkLawsBesides
namespace Go.Proofs.YtambinjjfapcgaaDoor
open Go.RowKit


theorem u64_mask127 {m : Nat} (h : m < 18446744073709551616) : bits .and .u64 (m : Int) 127 = (m : Int) % 128 := by
  have := u64_and_nat m 127 h (by decide)
  rw [nat_mask7] at this
  exact this.trans (by omega)
theorem u8_or128' {x : Nat} (h : x < 128) : bits .or .u8 (x : Int) 128 = (x : Int) + 128 := by
  have := u8_or_nat x 128 (by omega) (by decide)
  rw [Nat.or_comm, nat_join 7 128 x (by decide) (by omega)] at this
  exact this.trans (by omega)
/-- The slice that PutUint appends to: the argument, or a row of the call's own. -/
def PutAt (A : Option Addr) (w : World) (l pre : List UInt8) (v : Value) (wq : World) : Prop :=
  (pre = [] ∧ v = .slice A l.length l.length ∧ wq = w) ∨ OwnRows byteE 5 wq w.heap.size v (l ++ pre)

end Go.Proofs.YtambinjjfapcgaaDoor
