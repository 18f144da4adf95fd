/- How the arguments of chapter 05 are read. -/
import Derived.Test.YtfmbkkpdmpgmdaaDoorPost
import Derived.Test.YtfmbkkpdmpgmdaaDoorbCat
namespace Go.Proofs.YtfmbkkpdmpgmdaaDoor
open Go.RowKit Go.WideShapes Go.ChangeShapes Go.Deep Go.Joins

set_option maxRecDepth 100000
theorem opens_res : Opens Tryd.prog resE 26 Rs.Fit := by
  intro H enc w base spare held fuel cs x h
  obtain ⟨y0, y1, y2, y3, n, _, hl, h0, h1, h2, h3⟩ := trod_struct4 Tryd.underlying26 h
  have hl4 : cs.length = 4 := hl.trans (by kernel_rfl)
  match cs, hl4 with
  | [c0, c1, c2, c3], _ =>
    have e0 : Tryd.prog.cellsOf 9 = 1 := by kernel_rfl
    have e1 : Tryd.prog.cellsOf 3 = 1 := by kernel_rfl
    obtain ⟨s, g0, w0⟩ := opens_str Tryd.underlying9 h0
    obtain ⟨k, g1, w1⟩ := opens_int Tryd.underlying3 h1
    obtain ⟨u, g2, w2⟩ := opens_int Tryd.underlying3 h2
    obtain ⟨hm, g3, w3⟩ := opens_int Tryd.underlying3 h3
    refine ⟨⟨s, k, u, hm⟩, ?_, w0, w1, w2, w3⟩
    have g0' : ([c0, c1, c2, c3].drop 0).take (Tryd.prog.cellsOf 9) = [.string s] := g0
    have g1' : ([c0, c1, c2, c3].drop 1).take (Tryd.prog.cellsOf 3) = [.int .i64 k] := g1
    have g2' : ([c0, c1, c2, c3].drop 2).take (Tryd.prog.cellsOf 3) = [.int .i64 u] := g2
    have g3' : ([c0, c1, c2, c3].drop 3).take (Tryd.prog.cellsOf 3) = [.int .i64 hm] := g3
    rw [e0] at g0'
    rw [e1] at g1' g2' g3'
    simp at g0' g1' g2' g3'
    show [c0, c1, c2, c3] = [.string s, .int .i64 k, .int .i64 u, .int .i64 hm]
    rw [g0', g1', g2', g3']

section
variable {H : Type} {enc : TypeId × Value → H} {w : World} {base : Nat} {spare : Nat → Bool} {held : Bool}
theorem open_resV {r : Reach} {b0 : Nat} {v : Value} {d : DataW H} {p : List MemPlace} (hv : Value.okWide Tryd.prog w r b0 26 v) (h : DataW.Trod enc Tryd.prog w base spare held 26 v d p) : ∃ x : Rs, v = x.val ∧ x.Fit := by
  obtain ⟨cs, rfl, hsz⟩ := okWide_struct Tryd.underlying26 hv
  obtain ⟨fuel, hf⟩ := h
  obtain ⟨x, hx, hfit⟩ := opens_res hf
  refine ⟨x, ?_, hfit⟩
  have hx' : (Value.agg cs).cells.toList = x.cells := hx
  have : cs = x.cells.toArray := by
    rw [← hx']
    simp [Value.cells]
  rw [this]
  rfl
theorem open_ress {r : Reach} {b0 : Nat} {v : Value} {d : DataW H} {p : List MemPlace} (hv : Value.okWide Tryd.prog w r b0 24 v) (h : DataW.Trod enc Tryd.prog w base spare held 24 v d p) :
    ∃ (A : Option Addr) (l : Ct) (cap : Nat), v = .slice A l.length cap ∧ l.length ≤ cap ∧ cap ≤ maxLen ∧ RowsAt resE w (Lo w.heap.size) A l ∧ ∀ x ∈ l, x.Fit := by
  obtain ⟨a0, len, cap0, rfl⟩ := okWide_slice Tryd.underlying24 hv
  obtain ⟨fuel, hf⟩ := h
  obtain ⟨l, ⟨A, cap, hc, h1, h2, h3⟩, _, h5⟩ := (opens_res.sl Tryd.underlying24 (by kernel_rfl)) hf
  have hc' : [Value.slice a0 len cap0] = [.slice A l.length cap] := by simpa [Value.cells] using hc
  injection hc' with hc'
  exact ⟨A, l, cap, hc', h1, h2, h3, h5⟩
theorem open_bools {r : Reach} {b0 : Nat} {v : Value} {d : DataW H} {p : List MemPlace} (hv : Value.okWide Tryd.prog w r b0 35 v) (h : DataW.Trod enc Tryd.prog w base spare held 35 v d p) :
    ∃ (A : Option Addr) (l : List Bool) (cap : Nat), v = .slice A l.length cap ∧ l.length ≤ cap ∧ cap ≤ maxLen ∧ RowsAt boolE w (Lo w.heap.size) A l := by
  obtain ⟨a0, len, cap0, rfl⟩ := okWide_slice Tryd.underlying35 hv
  obtain ⟨fuel, hf⟩ := h
  obtain ⟨l, ⟨A, cap, hc, h1, h2, h3⟩, _, h5⟩ := (Opens.sl (opens_bool Tryd.underlying4) Tryd.underlying35 (by kernel_rfl)) hf
  have hc' : [Value.slice a0 len cap0] = [.slice A l.length cap] := by simpa [Value.cells] using hc
  injection hc' with hc'
  exact ⟨A, l, cap, hc', h1, h2, h3⟩
theorem open_atomV {r : Reach} {b0 : Nat} {v : Value} {d : DataW H} {p : List MemPlace} (hv : Value.okWide Tryd.prog w r b0 44 v) (h : DataW.Trod enc Tryd.prog w base spare held 44 v d p) :
    ∃ (n : ByteArray) (m u : Int), v = .agg #[.string n, .int .i64 m, .int .i64 u] := by
  obtain ⟨cs, rfl, hsz⟩ := okWide_struct Tryd.underlying44 hv
  obtain ⟨fuel, hf⟩ := h
  obtain ⟨y0, y1, n, _, hl, h0, h1⟩ := trod_struct2 Tryd.underlying44 hf
  obtain ⟨z0, z1, n2, _, hl2, k0, k1⟩ := trod_struct2 Tryd.underlying42 h1
  have hc3 : (Value.agg cs).cells.toList = cs.toList := by simp [Value.cells]
  rw [hc3] at h0 k0 k1
  have hs3 : cs.toList.length = 3 := by rw [Array.length_toList, hsz]; kernel_rfl
  obtain ⟨c⟩ := cs
  match c, hs3 with
  | [c0, c1, c2], _ =>
    have e0 : Tryd.prog.cellsOf 9 = 1 := by kernel_rfl
    have e1 : Tryd.prog.cellsOf 3 = 1 := by kernel_rfl
    have e2 : Tryd.prog.cellsOf 42 = 2 := by kernel_rfl
    obtain ⟨s, g0, w0⟩ := opens_str Tryd.underlying9 h0
    obtain ⟨m, g1, w1⟩ := opens_int Tryd.underlying3 k0
    obtain ⟨u, g2, w2⟩ := opens_int Tryd.underlying3 k1
    have g0' : ([c0, c1, c2].drop 0).take (Tryd.prog.cellsOf 9) = [.string s] := g0
    have g1' : ((([c0, c1, c2].drop 1).take (Tryd.prog.cellsOf 42)).drop 0).take (Tryd.prog.cellsOf 3) = [.int .i64 m] := g1
    have g2' : ((([c0, c1, c2].drop 1).take (Tryd.prog.cellsOf 42)).drop 1).take (Tryd.prog.cellsOf 3) = [.int .i64 u] := g2
    rw [e0] at g0'
    rw [e1, e2] at g1' g2'
    simp at g0' g1' g2'
    exact ⟨s, m, u, by rw [g0', g1', g2']⟩
end
end Go.Proofs.YtfmbkkpdmpgmdaaDoor
