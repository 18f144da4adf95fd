/- How resources are read. -/
import Derived.Test.YtbjbolpmbdllnaaDoorPost
import Derived.Test.YtbjbolpmbdllnaaDoorbCat
namespace Go.Proofs.YtbjbolpmbdllnaaDoor
open Go.RowKit Go.WideShapes Go.ChangeShapes Go.Deep Go.Joins

set_option maxRecDepth 100000
theorem opens_res : Opens Tryd.prog resE 36 Rs.Fit := by
  intro H enc w base spare held fuel cs x h
  obtain ⟨y0, y1, y2, y3, n, _, hl, h0, h1, h2, h3⟩ := trod_struct4 Tryd.underlying36 h
  have hl4 : cs.length = 4 := hl.trans (by kernel_rfl)
  match cs, hl4 with
  | [c0, c1, c2, c3], _ =>
    have e0 : Tryd.prog.cellsOf 9 = 1 := by kernel_rfl
    have e1 : Tryd.prog.cellsOf 3 = 1 := by kernel_rfl
    obtain ⟨s, g0, w0⟩ := opens_str Tryd.underlying9 h0
    obtain ⟨k, g1, w1⟩ := opens_int Tryd.underlying3 h1
    obtain ⟨u, g2, w2⟩ := opens_int Tryd.underlying3 h2
    obtain ⟨hm, g3, w3⟩ := opens_int Tryd.underlying3 h3
    refine ⟨⟨s, k, u, hm⟩, ?_, w0, w1, w2, w3⟩
    have g0' : ([c0, c1, c2, c3].drop 0).take (Tryd.prog.cellsOf 9) = [.string s] := g0
    have g1' : ([c0, c1, c2, c3].drop 1).take (Tryd.prog.cellsOf 3) = [.int .i64 k] := g1
    have g2' : ([c0, c1, c2, c3].drop 2).take (Tryd.prog.cellsOf 3) = [.int .i64 u] := g2
    have g3' : ([c0, c1, c2, c3].drop 3).take (Tryd.prog.cellsOf 3) = [.int .i64 hm] := g3
    rw [e0] at g0'
    rw [e1] at g1' g2' g3'
    simp at g0' g1' g2' g3'
    show [c0, c1, c2, c3] = [.string s, .int .i64 k, .int .i64 u, .int .i64 hm]
    rw [g0', g1', g2', g3']

section
variable {H : Type} {enc : TypeId × Value → H} {w : World} {base : Nat} {spare : Nat → Bool} {held : Bool}
theorem open_resV {r : Reach} {b0 : Nat} {v : Value} {d : DataW H} {p : List MemPlace} (hv : Value.okWide Tryd.prog w r b0 36 v) (h : DataW.Trod enc Tryd.prog w base spare held 36 v d p) : ∃ x : Rs, v = x.val ∧ x.Fit := by
  obtain ⟨cs, rfl, hsz⟩ := okWide_struct Tryd.underlying36 hv
  obtain ⟨fuel, hf⟩ := h
  obtain ⟨x, hx, hfit⟩ := opens_res hf
  refine ⟨x, ?_, hfit⟩
  have hx' : (Value.agg cs).cells.toList = x.cells := hx
  have : cs = x.cells.toArray := by
    rw [← hx']
    simp [Value.cells]
  rw [this]
  rfl
theorem open_ress {r : Reach} {b0 : Nat} {v : Value} {d : DataW H} {p : List MemPlace} (hv : Value.okWide Tryd.prog w r b0 22 v) (h : DataW.Trod enc Tryd.prog w base spare held 22 v d p) :
    ∃ (A : Option Addr) (l : Ct) (cap : Nat), v = .slice A l.length cap ∧ l.length ≤ cap ∧ cap ≤ maxLen ∧ RowsAt resE w (Lo w.heap.size) A l ∧ ∀ x ∈ l, x.Fit := by
  obtain ⟨a0, len, cap0, rfl⟩ := okWide_slice Tryd.underlying22 hv
  obtain ⟨fuel, hf⟩ := h
  obtain ⟨l, ⟨A, cap, hc, h1, h2, h3⟩, _, h5⟩ := (opens_res.sl Tryd.underlying22 (by kernel_rfl)) hf
  have hc' : [Value.slice a0 len cap0] = [.slice A l.length cap] := by simpa [Value.cells] using hc
  injection hc' with hc'
  exact ⟨A, l, cap, hc', h1, h2, h3, h5⟩
end
end Go.Proofs.YtbjbolpmbdllnaaDoor
