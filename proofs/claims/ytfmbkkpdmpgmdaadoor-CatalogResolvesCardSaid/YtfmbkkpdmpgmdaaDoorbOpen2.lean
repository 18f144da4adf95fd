/- The reach of a slice of resources. -/
import Derived.Test.YtfmbkkpdmpgmdaaDoorbOpen
import Derived.SizedLaws
namespace Go.Proofs.YtfmbkkpdmpgmdaaDoor
open Go.RowKit Go.WideShapes Go.ChangeShapes Go.Deep Go.Joins

set_option maxRecDepth 100000
section
variable {H : Type} {enc : TypeId × Value → H} {w : World} {base : Nat} {spare : Nat → Bool} {held : Bool}
theorem ress_reach {ts : List TypeId} {ds : List (DataW H)} {j : Nat} {v : Value} {d : DataW H} {p : List MemPlace} {A : Option Addr} {n cap : Nat} (h : DataW.Trod enc Tryd.prog w base spare held 24 v d p) (hv : v = .slice A n cap)
    (hr : (DataW.weightsEach Tryd.prog ts ds).all (· ≤ reachBytes) = true) (ht : ts[j]? = some 24) (hd : ds[j]? = some d) : n * 40 ≤ 140737488355328 := by
  subst hv
  obtain ⟨fuel, hf⟩ := h
  have hf' : DataW.trod enc Tryd.prog w base spare held fuel 24 [.slice A n cap] = some (d, p) := by simpa [Value.cells] using hf
  rcases open_slice Tryd.underlying24 hf' with ⟨hcs, _⟩ | ⟨a, len, cap', m, n', D, Pl, hcs, _, _, _, _, hx, _⟩
  · injection hcs with hcs
    injection hcs with _ hn
    subst hn
    omega
  · injection hcs with hcs
    injection hcs with _ hn
    subst hn
    simp only [Prod.mk.injEq] at hx
    rw [hx.1] at hd
    have := sized_slice hr ht hd Tryd.underlying24
    have hb : Tryd.prog.bytesOf 26 = 40 := by kernel_rfl
    rw [hb] at this
    unfold reachBytes at this
    simp only [List.length_map, List.length_range] at this
    have h2 : n * 40 ≤ (n + (m - n)) * 40 := Nat.mul_le_mul_right _ (by omega)
    omega
end
end Go.Proofs.YtfmbkkpdmpgmdaaDoor
