/- How the arguments of chapter 02 are read. -/
import Derived.Test.YtambinjjfapcgaaDooriEl
import Derived.Test.YtambinjjfapcgaaDoorPost
import Derived.SizedLaws
import Derived.Carry
namespace Go.Proofs.YtambinjjfapcgaaDoor
open Go.RowKit Go.WideShapes Go.ChangeShapes Go.Deep Go.Joins

set_option maxRecDepth 100000
theorem opens_pr : Opens Tryd.prog prE 24 Pr.Fit := by
  intro H enc w base spare held fuel cs x h
  obtain ⟨y0, y1, y2, n, _, hl, h0, h1, h2⟩ := trod_struct3 Tryd.underlying24 h
  have hl3 : cs.length = 3 := hl.trans (by kernel_rfl)
  match cs, hl3 with
  | [c0, c1, c2], _ =>
    have e1 : Tryd.prog.cellsOf 3 = 1 := by kernel_rfl
    obtain ⟨a, g0, w0⟩ := opens_int Tryd.underlying3 h0
    obtain ⟨b, g1, w1⟩ := opens_int Tryd.underlying3 h1
    obtain ⟨c, g2, w2⟩ := opens_int Tryd.underlying3 h2
    refine ⟨⟨a, b, c⟩, ?_, w0, w1, w2⟩
    have g0' : ([c0, c1, c2].drop 0).take (Tryd.prog.cellsOf 3) = [.int .i64 a] := g0
    have g1' : ([c0, c1, c2].drop 1).take (Tryd.prog.cellsOf 3) = [.int .i64 b] := g1
    have g2' : ([c0, c1, c2].drop 2).take (Tryd.prog.cellsOf 3) = [.int .i64 c] := g2
    rw [e1] at g0' g1' g2'
    simp at g0' g1' g2'
    show [c0, c1, c2] = [.int .i64 a, .int .i64 b, .int .i64 c]
    rw [g0', g1', g2']
theorem opens_st : Opens Tryd.prog stE 32 St.Fit := by
  intro H enc w base spare held fuel cs x h
  obtain ⟨y0, y1, n, _, hl, h0, h1⟩ := trod_struct2 Tryd.underlying32 h
  have hl2 : cs.length = 2 := hl.trans (by kernel_rfl)
  match cs, hl2 with
  | [c0, c1], _ =>
    have e1 : Tryd.prog.cellsOf 3 = 1 := by kernel_rfl
    obtain ⟨a, g0, w0⟩ := opens_int Tryd.underlying3 h0
    obtain ⟨b, g1, w1⟩ := opens_int Tryd.underlying3 h1
    refine ⟨⟨a, b⟩, ?_, w0, w1⟩
    have g0' : ([c0, c1].drop 0).take (Tryd.prog.cellsOf 3) = [.int .i64 a] := g0
    have g1' : ([c0, c1].drop 1).take (Tryd.prog.cellsOf 3) = [.int .i64 b] := g1
    rw [e1] at g0' g1'
    simp at g0' g1'
    show [c0, c1] = [.int .i64 a, .int .i64 b]
    rw [g0', g1']
section
variable {H : Type} {enc : TypeId × Value → H} {w : World} {base : Nat} {spare : Nat → Bool} {held : Bool}
theorem open_procV {r : Reach} {b0 : Nat} {v : Value} {d : DataW H} {p : List MemPlace} (hv : Value.okWide Tryd.prog w r b0 24 v) (h : DataW.Trod enc Tryd.prog w base spare held 24 v d p) : ∃ x : Pr, v = x.val ∧ x.Fit := by
  obtain ⟨cs, rfl, hsz⟩ := okWide_struct Tryd.underlying24 hv
  obtain ⟨fuel, hf⟩ := h
  obtain ⟨x, hx, hfit⟩ := opens_pr hf
  refine ⟨x, ?_, hfit⟩
  have hx' : (Value.agg cs).cells.toList = x.cells := hx
  have : cs = x.cells.toArray := by
    rw [← hx']
    simp [Value.cells]
  rw [this]
  rfl
theorem open_stampV {r : Reach} {b0 : Nat} {v : Value} {d : DataW H} {p : List MemPlace} (hv : Value.okWide Tryd.prog w r b0 32 v) (h : DataW.Trod enc Tryd.prog w base spare held 32 v d p) : ∃ x : St, v = x.val ∧ x.Fit := by
  obtain ⟨cs, rfl, hsz⟩ := okWide_struct Tryd.underlying32 hv
  obtain ⟨fuel, hf⟩ := h
  obtain ⟨x, hx, hfit⟩ := opens_st hf
  refine ⟨x, ?_, hfit⟩
  have hx' : (Value.agg cs).cells.toList = x.cells := hx
  have : cs = x.cells.toArray := by
    rw [← hx']
    simp [Value.cells]
  rw [this]
  rfl
theorem opens_byte : Opens Tryd.prog byteE 5 (fun _ => True) := by
  intro H enc w base spare held fuel cs x h
  obtain ⟨n, e, _, hw⟩ := DataW.trod_int Tryd.underlying5 h
  have hb : 0 ≤ n ∧ n < 256 := by
    have := bounds_u8 hw
    omega
  refine ⟨UInt8.ofNat n.toNat, ?_, trivial⟩
  show cs = [.int .u8 ((UInt8.ofNat n.toNat).toNat : Int)]
  rw [ofNat_toNat (by omega), show ((n.toNat : Nat) : Int) = n by omega]
  exact e
theorem open_bytes {r : Reach} {b0 : Nat} {v : Value} {d : DataW H} {p : List MemPlace} (hv : Value.okWide Tryd.prog w r b0 73 v) (h : DataW.Trod enc Tryd.prog w base spare held 73 v d p) :
    ∃ (A : Option Addr) (l : List UInt8) (cap : Nat), v = .slice A l.length cap ∧ l.length ≤ cap ∧ cap ≤ maxLen ∧ RowsAt byteE w (Lo w.heap.size) A l := by
  obtain ⟨a0, len, cap0, rfl⟩ := okWide_slice Tryd.underlying73 hv
  obtain ⟨fuel, hf⟩ := h
  obtain ⟨l, ⟨A, cap, hc, h1, h2, h3⟩, _, _⟩ := (opens_byte.sl Tryd.underlying73 (by kernel_rfl)) hf
  have hc' : [Value.slice a0 len cap0] = [.slice A l.length cap] := by simpa [Value.cells] using hc
  injection hc' with hc'
  exact ⟨A, l, cap, hc', h1, h2, h3⟩
theorem bytes_reach {ts : List TypeId} {ds : List (DataW H)} {j : Nat} {v : Value} {d : DataW H} {p : List MemPlace} {A : Option Addr} {n cap : Nat} (h : DataW.Trod enc Tryd.prog w base spare held 73 v d p) (hv : v = .slice A n cap)
    (hr : (DataW.weightsEach Tryd.prog ts ds).all (· ≤ reachBytes) = true) (ht : ts[j]? = some 73) (hd : ds[j]? = some d) : n ≤ 140737488351232 := by
  subst hv
  obtain ⟨fuel, hf⟩ := h
  have hf' : DataW.trod enc Tryd.prog w base spare held fuel 73 [.slice A n cap] = some (d, p) := by simpa [Value.cells] using hf
  rcases open_slice Tryd.underlying73 hf' with ⟨hcs, _⟩ | ⟨a, len, cap', m, n', D, Pl, hcs, _, _, _, _, hx, _⟩
  · injection hcs with hcs
    injection hcs with _ hn
    subst hn
    omega
  · injection hcs with hcs
    injection hcs with _ hn
    subst hn
    simp only [Prod.mk.injEq] at hx
    rw [hx.1] at hd
    have := sized_slice hr ht hd Tryd.underlying73
    have hb : Tryd.prog.bytesOf 5 = 1 := by kernel_rfl
    rw [hb] at this
    unfold reachBytes at this
    simp only [List.length_map, List.length_range] at this
    omega
theorem open_procs {r : Reach} {b0 : Nat} {v : Value} {d : DataW H} {p : List MemPlace} (hv : Value.okWide Tryd.prog w r b0 22 v) (h : DataW.Trod enc Tryd.prog w base spare held 22 v d p) :
    ∃ (A : Option Addr) (l : List Pr) (cap : Nat), v = .slice A l.length cap ∧ l.length ≤ cap ∧ cap ≤ maxLen ∧ RowsAt prE w (Lo w.heap.size) A l ∧ ∀ x ∈ l, x.Fit := by
  obtain ⟨a0, len, cap0, rfl⟩ := okWide_slice Tryd.underlying22 hv
  obtain ⟨fuel, hf⟩ := h
  obtain ⟨l, ⟨A, cap, hc, h1, h2, h3⟩, _, h5⟩ := (opens_pr.sl Tryd.underlying22 (by kernel_rfl)) hf
  have hc' : [Value.slice a0 len cap0] = [.slice A l.length cap] := by simpa [Value.cells] using hc
  injection hc' with hc'
  exact ⟨A, l, cap, hc', h1, h2, h3, h5⟩
theorem str_reach {ts : List TypeId} {ds : List (DataW H)} {j : Nat} {d : DataW H} {s : ByteArray} (hd : d = .lit (.string s.data.toList)) (hr : (DataW.weightsEach Tryd.prog ts ds).all (· ≤ reachBytes) = true) (ht : ts[j]? = some 9) (hdd : ds[j]? = some d) : s.size ≤ 281474976710656 := by
  subst hd
  have := sized_string hr ht hdd
  unfold reachBytes at this
  simp at this
  omega
end
end Go.Proofs.YtambinjjfapcgaaDoor
