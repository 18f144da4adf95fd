/- The three blocks of a call of ParseProc, in a later world. -/
import Derived.Test.YtambinjjfapcgaaDooriFormat
namespace Go.Proofs.YtambinjjfapcgaaDoor
open Go.RowKit

structure PB (w : World) (C : Array Value) (a b c : Int) (v : World) : Prop where
  below : Below w.heap.size w v
  size : w.heap.size + 1 + 1 + 1 ≤ v.heap.size
  k0 : Blk v w.heap.size 24 #[.int .i64 0, .int .i64 0, .int .i64 0]
  k1 : Blk v (w.heap.size + 1) 9 C
  k2 : Blk v (w.heap.size + 1 + 1) 42 #[.int .i64 a, .int .i64 b, .int .i64 c]
section
variable {w v v' : World} {C : Array Value} {a b c : Int}
theorem PB.made (w : World) (C : Array Value) : PB w C 0 0 0 (((w.alloc (.cells #[.int .i64 0, .int .i64 0, .int .i64 0] 24)).alloc (.cells C 9)).alloc (.cells #[.int .i64 0, .int .i64 0, .int .i64 0] 42)) where
  below := (((Below.refl _ _).alloc (Nat.le_refl _) _).alloc (by simp) _).alloc (by simp; omega) _
  size := by simp
  k0 := ((Blk.new w _ _).alloc _).alloc _
  k1 := by
    have := (Blk.new (w.alloc (.cells #[.int .i64 0, .int .i64 0, .int .i64 0] 24)) 9 C).alloc (.cells #[.int .i64 0, .int .i64 0, .int .i64 0] 42)
    simpa using this
  k2 := by
    have := Blk.new ((w.alloc (.cells #[.int .i64 0, .int .i64 0, .int .i64 0] 24)).alloc (.cells C 9)) 42 #[.int .i64 0, .int .i64 0, .int .i64 0]
    simpa using this
theorem PB.next (h : PB w C a b c v) (hb : Below v.heap.size v v') : PB w C a b c v' where
  below := h.below.trans (hb.mono h.below.size)
  size := Nat.le_trans h.size hb.size
  k0 := h.k0.below hb h.k0.lt
  k1 := h.k1.below hb h.k1.lt
  k2 := h.k2.below hb h.k2.lt
theorem PB.set0 (h : PB w C a b c v) (n : Int) : PB w C n b c (v.setCell ⟨w.heap.size + 1 + 1, 0, none⟩ (.int .i64 n)) where
  below := h.below.setCell (by show _ ≤ w.heap.size + 1 + 1; omega) _
  size := by simpa [World.setCell] using h.size
  k0 := h.k0.far (by show _ ≠ w.heap.size + 1 + 1; omega) _
  k1 := h.k1.far (by show _ ≠ w.heap.size + 1 + 1; omega) _
  k2 := h.k2.set_ 0 _
theorem PB.set1 (h : PB w C a b c v) (n : Int) : PB w C a n c (v.setCell ⟨w.heap.size + 1 + 1, 1, none⟩ (.int .i64 n)) where
  below := h.below.setCell (by show _ ≤ w.heap.size + 1 + 1; omega) _
  size := by simpa [World.setCell] using h.size
  k0 := h.k0.far (by show _ ≠ w.heap.size + 1 + 1; omega) _
  k1 := h.k1.far (by show _ ≠ w.heap.size + 1 + 1; omega) _
  k2 := h.k2.set_ 1 _
theorem PB.set2 (h : PB w C a b c v) (n : Int) : PB w C a b n (v.setCell ⟨w.heap.size + 1 + 1, 2, none⟩ (.int .i64 n)) where
  below := h.below.setCell (by show _ ≤ w.heap.size + 1 + 1; omega) _
  size := by simpa [World.setCell] using h.size
  k0 := h.k0.far (by show _ ≠ w.heap.size + 1 + 1; omega) _
  k1 := h.k1.far (by show _ ≠ w.heap.size + 1 + 1; omega) _
  k2 := h.k2.set_ 2 _
/-- What a walk reads. -/
structure PBF (w : World) (C : Array Value) (a b c : Int) (v : World) : Prop where
  z0 : v.cell? ⟨w.heap.size, 0, none⟩ = some (.int .i64 0)
  z1 : v.cell? ⟨w.heap.size, 1, none⟩ = some (.int .i64 0)
  z2 : v.cell? ⟨w.heap.size, 2, none⟩ = some (.int .i64 0)
  fz0 : v.frozen? ⟨w.heap.size, 0, none⟩ = false
  fz1 : v.frozen? ⟨w.heap.size, 1, none⟩ = false
  fz2 : v.frozen? ⟨w.heap.size, 2, none⟩ = false
  c1 : ∀ i, v.cell? ⟨w.heap.size + 1, i, none⟩ = C[i]?
  n0 : v.cell? ⟨w.heap.size + 1 + 1, 0, none⟩ = some (.int .i64 a)
  n1 : v.cell? ⟨w.heap.size + 1 + 1, 1, none⟩ = some (.int .i64 b)
  n2 : v.cell? ⟨w.heap.size + 1 + 1, 2, none⟩ = some (.int .i64 c)
  fn0 : v.frozen? ⟨w.heap.size + 1 + 1, 0, none⟩ = false
  fn1 : v.frozen? ⟨w.heap.size + 1 + 1, 1, none⟩ = false
  fn2 : v.frozen? ⟨w.heap.size + 1 + 1, 2, none⟩ = false
theorem PB.facts (h : PB w C a b c v) : PBF w C a b c v :=
  ⟨h.k0.cellx 0 rfl, h.k0.cellx 1 rfl, h.k0.cellx 2 rfl, h.k0.frozen 0, h.k0.frozen 1, h.k0.frozen 2, fun i => h.k1.cell i, h.k2.cellx 0 rfl, h.k2.cellx 1 rfl, h.k2.cellx 2 rfl, h.k2.frozen 0, h.k2.frozen 1, h.k2.frozen 2⟩
end
end Go.Proofs.YtambinjjfapcgaaDoor
