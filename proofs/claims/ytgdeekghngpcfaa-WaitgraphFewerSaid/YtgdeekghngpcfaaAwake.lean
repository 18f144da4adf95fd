/- The sanity check. -/
import Derived.Test.YtgdeekghngpcfaaPlainW
import Derived.Test.YtgdeekghngpcfaaKnots
import Derived.Test.YtgdeekghngpcfaaStuck
import Derived.Test.YtgdeekghngpcfaaCycle
namespace Go.Proofs.Ytgdeekghngpcfaa
open Go.RowKit

theorem ints_of_block {w : World} {g B : Nat} {t : TypeId} {fr : Nat × Nat} {l : List Int} (h : w.heap[g]? = some (.cells (l.map (Value.int .i64)).toArray t fr)) (hB : g < B) : IntsAt w B (some ⟨g, 0, none⟩) l := by
  intro j hj
  refine ⟨g, 0, rfl, hB, ?_⟩
  simp [World.cell?, h, List.getElem?_eq_getElem hj]
theorem cell_of_block {w : World} {g : Nat} {cs : Array Value} {t : TypeId} {fr : Nat × Nat} (h : w.heap[g]? = some (.cells cs t fr)) (i : Nat) : w.cell? ⟨g, i, none⟩ = cs[i]? := by simp [World.cell?, h]

theorem heap_alloc_get (w : World) (o : Obj) (k : Nat) : (w.alloc o).heap[k]? = if k = w.heap.size then some o else w.heap[k]? := by
  show (w.heap.push o)[k]? = _
  rw [Array.getElem?_push]

theorem size_alloc1 (w : World) (o : Obj) : (w.alloc o).heap.size = w.heap.size + 1 := by simp

def awakeW (w : World) : World :=
  ((((((w.alloc (.cells #[.int .i64 1] 3)).alloc (.cells #[.int .i64 0] 3)).alloc (.cells #[.int .i64 1, .slice (some ⟨w.heap.size, 0, none⟩) 1 1, .int .i64 1, .slice (some ⟨w.heap.size + 1, 0, none⟩) 1 1] 38)).alloc
    (.cells #[.int .i64 1, .int .i64 2] 3)).alloc (.cells #[.int .i64 0] 3)).alloc
    (.cells #[.int .i64 1, .slice (some ⟨w.heap.size + 1 + 1 + 1, 0, none⟩) 2 2, .int .i64 1, .slice (some ⟨w.heap.size + 1 + 1 + 1 + 1, 0, none⟩) 1 1, .int .i64 0, .slice none 0 0] 38))
theorem awakeW_size (w : World) : (awakeW w).heap.size = w.heap.size + 6 := by simp [awakeW]
theorem awakeW_below (w : World) : Below w.heap.size w (awakeW w) :=
  ((((((Below.refl _ _).alloc (Nat.le_refl _) _).alloc (by simp) _).alloc (by simp; omega) _).alloc (by simp; omega) _).alloc (by simp; omega) _).alloc (by simp; omega) _
theorem awakeW_0 (w : World) : (awakeW w).heap[w.heap.size]? = some (.cells #[.int .i64 1] 3 (0, 0)) := by
  simp only [awakeW, heap_alloc_get, size_alloc1]
  repeat (first | exact if_pos trivial | rw [if_pos (by omega)] | rw [if_neg (by omega)])
theorem awakeW_1 (w : World) : (awakeW w).heap[w.heap.size + 1]? = some (.cells #[.int .i64 0] 3 (0, 0)) := by
  simp only [awakeW, heap_alloc_get, size_alloc1]
  repeat (first | exact if_pos trivial | rw [if_pos (by omega)] | rw [if_neg (by omega)])
theorem awakeW_2 (w : World) : (awakeW w).heap[w.heap.size + 1 + 1]? = some (.cells #[.int .i64 1, .slice (some ⟨w.heap.size, 0, none⟩) 1 1, .int .i64 1, .slice (some ⟨w.heap.size + 1, 0, none⟩) 1 1] 38 (0, 0)) := by
  simp only [awakeW, heap_alloc_get, size_alloc1]
  repeat (first | exact if_pos trivial | rw [if_pos (by omega)] | rw [if_neg (by omega)])
theorem awakeW_3 (w : World) : (awakeW w).heap[w.heap.size + 1 + 1 + 1]? = some (.cells #[.int .i64 1, .int .i64 2] 3 (0, 0)) := by
  simp only [awakeW, heap_alloc_get, size_alloc1]
  repeat (first | exact if_pos trivial | rw [if_pos (by omega)] | rw [if_neg (by omega)])
theorem awakeW_4 (w : World) : (awakeW w).heap[w.heap.size + 1 + 1 + 1 + 1]? = some (.cells #[.int .i64 0] 3 (0, 0)) := by
  simp only [awakeW, heap_alloc_get, size_alloc1]
  repeat (first | exact if_pos trivial | rw [if_pos (by omega)] | rw [if_neg (by omega)])
theorem awakeW_5 (w : World) : (awakeW w).heap[w.heap.size + 1 + 1 + 1 + 1 + 1]? = some (.cells #[.int .i64 1, .slice (some ⟨w.heap.size + 1 + 1 + 1, 0, none⟩) 2 2, .int .i64 1, .slice (some ⟨w.heap.size + 1 + 1 + 1 + 1, 0, none⟩) 1 1, .int .i64 0, .slice none 0 0] 38 (0, 0)) := by
  simp only [awakeW, heap_alloc_get, size_alloc1]
  repeat (first | exact if_pos trivial | rw [if_pos (by omega)] | rw [if_neg (by omega)])

theorem awakeW_A (w : World) : GraphAt (awakeW w) (awakeW w).heap.size (some ⟨w.heap.size + 1 + 1, 0, none⟩) gA := by
  have hs := awakeW_size w
  intro i hi
  have hi2 : i < 2 := hi
  rcases (by omega : i = 0 ∨ i = 1) with rfl | rfl
  · exact ⟨_, _, some ⟨w.heap.size, 0, none⟩, 1, rfl, by omega, (cell_of_block (awakeW_2 w) _).trans rfl, (cell_of_block (awakeW_2 w) _).trans rfl, ints_of_block (l := [1]) (awakeW_0 w) (by omega)⟩
  · exact ⟨_, _, some ⟨w.heap.size + 1, 0, none⟩, 1, rfl, by omega, (cell_of_block (awakeW_2 w) _).trans rfl, (cell_of_block (awakeW_2 w) _).trans rfl, ints_of_block (l := [0]) (awakeW_1 w) (by omega)⟩
theorem awakeW_B (w : World) : GraphAt (awakeW w) (awakeW w).heap.size (some ⟨w.heap.size + 1 + 1 + 1 + 1 + 1, 0, none⟩) gB := by
  have hs := awakeW_size w
  intro i hi
  have hi2 : i < 3 := hi
  rcases (by omega : i = 0 ∨ i = 1 ∨ i = 2) with rfl | rfl | rfl
  · exact ⟨_, _, some ⟨w.heap.size + 1 + 1 + 1, 0, none⟩, 2, rfl, by omega, (cell_of_block (awakeW_5 w) _).trans rfl, (cell_of_block (awakeW_5 w) _).trans rfl, ints_of_block (l := [1, 2]) (awakeW_3 w) (by omega)⟩
  · exact ⟨_, _, some ⟨w.heap.size + 1 + 1 + 1 + 1, 0, none⟩, 1, rfl, by omega, (cell_of_block (awakeW_5 w) _).trans rfl, (cell_of_block (awakeW_5 w) _).trans rfl, ints_of_block (l := [0]) (awakeW_4 w) (by omega)⟩
  · exact ⟨_, _, none, 0, rfl, by omega, (cell_of_block (awakeW_5 w) _).trans rfl, (cell_of_block (awakeW_5 w) _).trans rfl, IntsAt.nil _ _ _⟩

set_option maxHeartbeats 1600000 in
theorem awake_any (w : World) : Calls Try.prog 11 #[] w (Ret w (.bool true)) := by
  have hA := awakeW_A w
  have hB := awakeW_B w
  have hbel := awakeW_below w
  go_enter Try.func11, Try.ntmps11
  go_wp2_with fail
  refine (Cycle_any (some ⟨w.heap.size + 1 + 1, 0, none⟩) 2 gA 1 (awakeW w) fitsA hA).mono ?_
  rintro e w1 ⟨A1, c, c1, rfl, hc, hcs, hcl, hb1⟩
  have hA1 := hA.below (B'' := w1.heap.size) hb1 (Nat.le_refl _) hb1.size
  have hB1 := hB.below (B'' := w1.heap.size) hb1 (Nat.le_refl _) hb1.size
  have hbel1 := hbel.trans (hb1.mono hbel.size)
  obtain ⟨hcl2, hc0⟩ := cycleA hcs
  obtain ⟨bc, offc, rfl, hbc, hcc⟩ := hc.1.get (j := 0) (by omega) (x := 1) (by rw [List.getElem?_eq_getElem (by omega)] at hc0; injection hc0)
  have fc : ((c.length : Int) == 2) = true := by simp [hcl2]
  have fc1 : 0 < c.length := by omega
  rw [Nat.add_zero] at hcc
  clear hb1 hcs hc0 hcl2 hA hB hbel hc
  go_wp2_with fail
  refine (Knots_any (some ⟨w.heap.size + 1 + 1, 0, none⟩) 2 gA w1 fitsA hA1).mono ?_
  rintro e w2 ⟨A2, k, c2, rfl, hk, hks, hkl, _, hb2⟩
  have hA2 := hA1.below (B'' := w2.heap.size) hb2 (Nat.le_refl _) hb2.size
  have hB2 := hB1.below (B'' := w2.heap.size) hb2 (Nat.le_refl _) hb2.size
  have hbel2 := hbel1.trans (hb2.mono hbel1.size)
  obtain rfl := knotsA hks
  obtain ⟨bk, offk, nA, ncap, rfl, hbk, hkc, _⟩ := hk 0 (by decide)
  have hcc2 := (hb2.cell (p := ⟨bc, offc, none⟩) hbc).trans hcc
  have hbc2 := Nat.lt_of_lt_of_le hbc hb2.size
  clear hb2 hA1 hB1 hbel1 hks hkl hk hcc hbc
  go_wp2_with fail
  refine (Valid_any _ 2 gA w2 fitsA hA2).mono ?_
  rintro e w3 ⟨r, rfl, hv, hb3⟩
  obtain rfl : r = true := hv.2 validA
  have hA3 := hA2.below (B'' := w3.heap.size) hb3 (Nat.le_refl _) hb3.size
  have hB3 := hB2.below (B'' := w3.heap.size) hb3 (Nat.le_refl _) hb3.size
  have hbel3 := hbel2.trans (hb3.mono hbel2.size)
  have hcc3 := (hb3.cell (p := ⟨bc, offc, none⟩) hbc2).trans hcc2
  have hbc3 := Nat.lt_of_lt_of_le hbc2 hb3.size
  have hkc3 := (hb3.cell (p := ⟨bk, offk + 0, none⟩) hbk).trans hkc
  have hbk3 := Nat.lt_of_lt_of_le hbk hb3.size
  clear hb3 hA2 hB2 hbel2 hv hcc2 hbc2 hkc hbk
  go_wp2_with fail
  refine (Stuck_any _ 2 gA w3 fitsA hA3).mono ?_
  rintro e w4 ⟨A4, l4, c4, rfl, _, hs4, _, hb4⟩
  obtain rfl := stuckA hs4
  have hB4 := hB3.below (B'' := w4.heap.size) hb4 (Nat.le_refl _) hb4.size
  have hbel4 := hbel3.trans (hb4.mono hbel3.size)
  have hcc4 := (hb4.cell (p := ⟨bc, offc, none⟩) hbc3).trans hcc3
  have hbc4 := Nat.lt_of_lt_of_le hbc3 hb4.size
  have hkc4 := (hb4.cell (p := ⟨bk, offk + 0, none⟩) hbk3).trans hkc3
  have hbk4 := Nat.lt_of_lt_of_le hbk3 hb4.size
  clear hb4 hA3 hB3 hbel3 hs4 hcc3 hbc3 hkc3 hbk3
  go_wp2_with fail
  refine (Stuck_any _ 3 gB w4 fitsB hB4).mono ?_
  rintro e w5 ⟨A5, l5, c5, rfl, _, hs5, _, hb5⟩
  obtain rfl := stuckB hs5
  have hB5 := hB4.below (B'' := w5.heap.size) hb5 (Nat.le_refl _) hb5.size
  have hbel5 := hbel4.trans (hb5.mono hbel4.size)
  have hkc5 := (hb5.cell (p := ⟨bk, offk + 0, none⟩) hbk4).trans hkc4
  have hbk5 := Nat.lt_of_lt_of_le hbk4 hb5.size
  clear hb5 hB4 hbel4 hs5 hcc4 hbc4 hkc4 hbk4
  go_wp2_with fail
  refine (Knots_any _ 3 gB w5 fitsB hB5).mono ?_
  rintro e w6 ⟨A6, l6, c6, rfl, _, hs6, _, _, hb6⟩
  obtain rfl := knotsB hs6
  have hB6 := hB5.below (B'' := w6.heap.size) hb6 (Nat.le_refl _) hb6.size
  have hbel6 := hbel5.trans (hb6.mono hbel5.size)
  have hkc6 := (hb6.cell (p := ⟨bk, offk + 0, none⟩) hbk5).trans hkc5
  rw [Nat.add_zero] at hkc6
  clear hb6 hB5 hbel5 hs6 hkc5 hbk5
  go_wp2_with fail
  refine (Reach_any _ 3 gB 0 w6 fitsB hB6).mono ?_
  rintro e w7 ⟨A7, l7, c7, rfl, _, hs7, _, hb7⟩
  obtain rfl := reachB_spec hs7
  go_wp2
  go_ret
  exact ⟨rfl, hbel6.trans (hb7.mono hbel6.size)⟩
end Go.Proofs.Ytgdeekghngpcfaa
