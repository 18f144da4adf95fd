/- The laws WaitgraphStuck and WaitgraphCycles: the walks. -/
import Derived.Test.YtgdeekghngpcfaaAwake
import Derived.Test.YtgdeekghngpcfaarStuck
import Derived.Test.YtgdeekghngpcfaarCycle
import Derived.Test.YtgdeekghngpcfaaWide
namespace Go.Proofs.Ytgdeekghngpcfaa
open Go.RowKit

set_option maxHeartbeats 1600000 in
theorem WStuck_any (A : Option Addr) (cap : Nat) (g : Gr) (i : Int) (w : World) (hw : WideG g) (hr : GraphAt w w.heap.size A g) :
    Calls Try.prog 3 #[.slice A g.length cap, .int .i64 i] w (Ret w (.bool true)) := by
  have HW := Lib.hid hw
  go_enter Try.func3, Try.ntmps3
  go_wp2_with fail
  refine (small_any A w.heap.size cap g w hw.1 (fun i h => (hw.2 i h).1) hr).mono ?_
  rintro e w1 ⟨r, rfl, hs, hb1⟩
  have hr1 := hr.below (B'' := w1.heap.size) hb1 (Nat.le_refl _) hb1.size
  have HS := Lib.hid hs
  clear hw hr hs
  cases r with
  | false =>
    go_wp2_with fail
    refine (awake_any w1).mono ?_
    rintro e w2 ⟨rfl, hb2⟩
    go_wp2
    go_ret
    exact ⟨rfl, hb1.trans (hb2.mono hb1.size)⟩
  | true =>
    have hf := HW.out.fits (HS.out.1 rfl)
    have HF := Lib.hid hf
    clear hf
    go_wp2_with fail
    refine (awake_any w1).mono ?_
    rintro e w2 ⟨rfl, hb2⟩
    have hr2 := hr1.below (B'' := w2.heap.size) hb2 (Nat.le_refl _) hb2.size
    have hbel2 := hb1.trans (hb2.mono hb1.size)
    clear hb1 hb2 hr1
    go_wp2_with fail
    refine (Valid_any A cap g w2 HF.out hr2).mono ?_
    rintro e w3 ⟨r3, rfl, hv3, hb3⟩
    have hr3 := hr2.below (B'' := w3.heap.size) hb3 (Nat.le_refl _) hb3.size
    have hbel3 := hbel2.trans (hb3.mono hbel2.size)
    clear hbel2 hb3 hr2
    go_wp2_with fail
    refine (rValid_any A cap g w3 HF.out hr3).mono ?_
    rintro e w4 ⟨r4, rfl, hv4, hb4⟩
    have hr4 := hr3.below (B'' := w4.heap.size) hb4 (Nat.le_refl _) hb4.size
    have hbel4 := hbel3.trans (hb4.mono hbel3.size)
    obtain rfl : r4 = r3 := by rw [Bool.eq_iff_iff, hv3, hv4]
    clear hbel3 hb4 hr3 hv3 hv4
    go_wp2_with fail
    refine (Stuck_any A cap g w4 HF.out hr4).mono ?_
    rintro e w5 ⟨A5, l5, c5, rfl, hl5, hs5, hn5, hb5⟩
    have hr5 := hr4.below (B'' := w5.heap.size) hb5 (Nat.le_refl _) hb5.size
    have hbel5 := hbel4.trans (hb5.mono hbel4.size)
    have HL5 := Lib.hid hl5.1
    have HS5 := Lib.hid hs5
    clear hbel4 hb5 hr4 hl5 hs5
    go_wp2_with fail
    refine (rStuck_any A cap g w5 HF.out hr5).mono ?_
    rintro e w6 ⟨A6, l6, c6, rfl, hl6, hs6, hn6, hb6⟩
    have hr6 := hr5.below (B'' := w6.heap.size) hb6 (Nat.le_refl _) hb6.size
    have hbel6 := hbel5.trans (hb6.mono hbel5.size)
    have hl56 := HL5.out.below (B'' := w6.heap.size) hb6 (Nat.le_refl _) hb6.size
    obtain rfl : l6 = l5 := by
      by_cases hv : ValidG g
      · exact (hs6.1 hv).unique (HS5.out.1 hv)
      · rw [hs6.2 hv, HS5.out.2 hv]
    have HL6 := Lib.hid hl6.1
    have HL56 := Lib.hid hl56
    clear hbel5 hb6 hr5 hl6 hs6 hl56
    go_wp2_with fail
    refine (SameInts_any A5 A6 w6.heap.size w6.heap.size c5 c6 l6 l6 w6 (by omega) (by omega) HL56.out HL6.out).mono ?_
    rintro e w7 ⟨r7, rfl, hv7, hb7⟩
    obtain rfl : r7 = true := hv7.2 rfl
    have hr7 := hr6.below (B'' := w7.heap.size) hb7 (Nat.le_refl _) hb7.size
    have hbel7 := hbel6.trans (hb7.mono hbel6.size)
    clear hbel6 hb7 hr6 hv7
    go_wp2_with fail
    refine (Reach_any A cap g i w7 HF.out hr7).mono ?_
    rintro e w8 ⟨A8, l8, c8, rfl, hl8, hs8, hn8, hb8⟩
    have hr8 := hr7.below (B'' := w8.heap.size) hb8 (Nat.le_refl _) hb8.size
    have hbel8 := hbel7.trans (hb8.mono hbel7.size)
    have HL8 := Lib.hid hl8.1
    have HS8 := Lib.hid hs8
    clear hbel7 hb8 hr7 hl8 hs8
    go_wp2_with fail
    refine (rReach_any A cap g i w8 HF.out hr8).mono ?_
    rintro e w9 ⟨A9, l9, c9, rfl, hl9, hs9, hn9, hb9⟩
    have hbel9 := hbel8.trans (hb9.mono hbel8.size)
    have hl89 := HL8.out.below (B'' := w9.heap.size) hb9 (Nat.le_refl _) hb9.size
    obtain rfl : l9 = l8 := by
      by_cases hv : ValidG g ∧ InR g.length i
      · exact (hs9.1 hv).unique (HS8.out.1 hv)
      · rw [hs9.2 hv, HS8.out.2 hv]
    have HL9 := Lib.hid hl9.1
    have HL89 := Lib.hid hl89
    clear hbel8 hb9 hr8 hl9 hs9 hl89
    go_wp2_with fail
    refine (SameInts_any A8 A9 w9.heap.size w9.heap.size c8 c9 l9 l9 w9 (by omega) (by omega) HL89.out HL9.out).mono ?_
    rintro e w10 ⟨r10, rfl, hv10, hb10⟩
    obtain rfl : r10 = true := hv10.2 rfl
    go_wp2
    go_ret
    exact ⟨rfl, hbel9.trans (hb10.mono hbel9.size)⟩

set_option maxHeartbeats 1600000 in
theorem WCycles_any (A : Option Addr) (cap : Nat) (g : Gr) (i : Int) (w : World) (hw : WideG g) (hr : GraphAt w w.heap.size A g) :
    Calls Try.prog 4 #[.slice A g.length cap, .int .i64 i] w (Ret w (.bool true)) := by
  have HW := Lib.hid hw
  go_enter Try.func4, Try.ntmps4
  go_wp2_with fail
  refine (small_any A w.heap.size cap g w hw.1 (fun i h => (hw.2 i h).1) hr).mono ?_
  rintro e w1 ⟨r, rfl, hs, hb1⟩
  have hr1 := hr.below (B'' := w1.heap.size) hb1 (Nat.le_refl _) hb1.size
  have HS := Lib.hid hs
  clear hw hr hs
  cases r with
  | false =>
    go_wp2_with fail
    refine (awake_any w1).mono ?_
    rintro e w2 ⟨rfl, hb2⟩
    go_wp2
    go_ret
    exact ⟨rfl, hb1.trans (hb2.mono hb1.size)⟩
  | true =>
    have hf := HW.out.fits (HS.out.1 rfl)
    have HF := Lib.hid hf
    clear hf
    go_wp2_with fail
    refine (awake_any w1).mono ?_
    rintro e w2 ⟨rfl, hb2⟩
    have hr4 := hr1.below (B'' := w2.heap.size) hb2 (Nat.le_refl _) hb2.size
    have hbel4 := hb1.trans (hb2.mono hb1.size)
    clear hb1 hb2 hr1
    go_wp2_with fail
    refine (Cycle_any A cap g i w2 HF.out hr4).mono ?_
    rintro e w5 ⟨A5, l5, c5, rfl, hl5, hs5, hn5, hb5⟩
    have hr5 := hr4.below (B'' := w5.heap.size) hb5 (Nat.le_refl _) hb5.size
    have hbel5 := hbel4.trans (hb5.mono hbel4.size)
    have HL5 := Lib.hid hl5.1
    have HS5 := Lib.hid hs5
    clear hbel4 hb5 hr4 hl5 hs5
    go_wp2_with fail
    refine (rCycle_any A cap g i w5 HF.out hr5).mono ?_
    rintro e w6 ⟨A6, l6, c6, rfl, hl6, hs6, hn6, hb6⟩
    have hr6 := hr5.below (B'' := w6.heap.size) hb6 (Nat.le_refl _) hb6.size
    have hbel6 := hbel5.trans (hb6.mono hbel5.size)
    have hl56 := HL5.out.below (B'' := w6.heap.size) hb6 (Nat.le_refl _) hb6.size
    obtain rfl : l6 = l5 := hs6.unique HS5.out
    have HL6 := Lib.hid hl6.1
    have HL56 := Lib.hid hl56
    clear hbel5 hb6 hr5 hl6 hs6 hl56
    go_wp2_with fail
    refine (SameInts_any A5 A6 w6.heap.size w6.heap.size c5 c6 l6 l6 w6 (by omega) (by omega) HL56.out HL6.out).mono ?_
    rintro e w7 ⟨r7, rfl, hv7, hb7⟩
    obtain rfl : r7 = true := hv7.2 rfl
    have hr7 := hr6.below (B'' := w7.heap.size) hb7 (Nat.le_refl _) hb7.size
    have hbel7 := hbel6.trans (hb7.mono hbel6.size)
    clear hbel6 hb7 hr6 hv7
    go_wp2_with fail
    refine (Knots_any A cap g w7 HF.out hr7).mono ?_
    rintro e w8 ⟨A8, l8, c8, rfl, hl8, hs8, hn8, hm8, hb8⟩
    have hr8 := hr7.below (B'' := w8.heap.size) hb8 (Nat.le_refl _) hb8.size
    have hbel8 := hbel7.trans (hb8.mono hbel7.size)
    have HL8 := Lib.hid hl8
    have HS8 := Lib.hid hs8
    have HM8 := Lib.hid hm8
    clear hbel7 hb8 hr7 hl8 hs8 hm8
    go_wp2_with fail
    refine (rKnots_any A cap g w8 HF.out hr8).mono ?_
    rintro e w9 ⟨A9, l9, c9, rfl, hl9, hs9, hn9, _, hb9⟩
    have hbel9 := hbel8.trans (hb9.mono hbel8.size)
    have hl89 := HL8.out.below (B'' := w9.heap.size) hb9 (Nat.le_refl _) hb9.size
    obtain rfl : l9 = l8 := hs9.unique HS8.out
    have HL9 := Lib.hid hl9
    have HL89 := Lib.hid hl89
    clear hbel8 hb9 hr8 hl9 hs9 hl89
    go_wp2_with fail
    refine (same_any A8 A9 c8 c9 l9 l9 w9 (by omega) (by omega) HM8.out HM8.out HL89.out HL9.out).mono ?_
    rintro e w10 ⟨r10, rfl, hv10, hb10⟩
    obtain rfl : r10 = true := hv10.2 rfl
    go_wp2
    go_ret
    exact ⟨rfl, hbel9.trans (hb10.mono hbel9.size)⟩
end Go.Proofs.Ytgdeekghngpcfaa
