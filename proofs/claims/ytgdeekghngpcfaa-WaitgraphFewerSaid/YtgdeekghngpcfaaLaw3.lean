/- The law WaitgraphMade: the walk. -/
import Derived.Test.YtgdeekghngpcfaaLaw12
import Derived.Test.YtgdeekghngpcfaaMade
namespace Go.Proofs.Ytgdeekghngpcfaa
open Go.RowKit

theorem made_fits {g : Gr} {all one : Bool} (hl : g.length ≤ 9) (h : ∀ i (h : i < g.length), NOk g.length all one g[i].k g[i].next) : FitsG g :=
  ⟨by omega, fun i hi => ⟨by have := (h i hi).2.1; omega, by have h1 := (h i hi).2.1; have h2 := (h i hi).2.2.1; have h3 := (h i hi).2.2.2.1; omega, fun j hj => by
    obtain ⟨a, b, _⟩ := (h i hi).1 j hj hj; omega⟩⟩
theorem made_valid {g : Gr} {all one : Bool} (hl : g.length ≤ 9) (h : ∀ i (h : i < g.length), NOk g.length all one g[i].k g[i].next) : ValidG g :=
  ⟨by omega, fun i hi => ⟨(h i hi).2.2.1, (h i hi).2.2.2.1, (h i hi).2.2.2.2.1, (h i hi).1⟩⟩

/-- The numbers come in as Go ints. -/
def WideL (l : List Int) : Prop := l.length ≤ 9223372036854775807 ∧ ∀ j (h : j < l.length), -9223372036854775808 ≤ l[j] ∧ l[j] ≤ 9223372036854775807

set_option maxHeartbeats 1600000 in
theorem WMade_any (A : Option Addr) (cap : Nat) (l : List Int) (i : Int) (w : World) (hw : WideL l) (hi1 : -9223372036854775808 ≤ i) (hi2 : i ≤ 9223372036854775807) (hr : IntsAt w w.heap.size A l) :
    Calls Try.prog 5 #[.slice A l.length cap, .int .i64 i] w (Ret w (.bool true)) := by
  have HW := Lib.hid hw
  clear hw
  by_cases hl : l.length ≤ 300
  · have hd : decide (l.length ≤ 300) = true := decide_eq_true hl
    go_enter Try.func5, Try.ntmps5
    go_wp2_with fail
    refine (Light_any A l.length cap w HW.out.1).mono ?_
    rintro e w0 ⟨rfl, rfl⟩
    go_wp2_with fail
    refine (made_any false false A cap l w hl HW.out.2 hr).mono ?_
    rintro e w1 ⟨A1, g, cap1, rfl, hg, hg1, hg2, hok, hb1⟩
    have HF := Lib.hid (made_fits hg2 hok)
    have HV := Lib.hid (made_valid hg2 hok)
    clear hok hr
    go_wp2_with fail
    refine (Mod_any i g.length w1 hi1 hi2 (by omega)).mono ?_
    rintro e w1' ⟨rfl, hw'⟩
    obtain rfl := hw'.symm
    obtain ⟨hm1, hm2⟩ := modI_ok i g.length
    generalize modI i g.length = x at *
    go_wp2_with fail
    refine (awake_any w1).mono ?_
    rintro e w2 ⟨rfl, hb2⟩
    have hr2 := hg.below (B'' := w2.heap.size) hb2 (Nat.le_refl _) hb2.size
    have hbel2 := hb1.trans (hb2.mono hb1.size)
    clear hb1 hb2 hg
    go_wp2_with fail
    refine (Valid_any A1 cap1 g w2 HF.out hr2).mono ?_
    rintro e w4 ⟨r3, rfl, hv3, hb3⟩
    obtain rfl : r3 = true := hv3.2 HV.out
    have hr4 := hr2.below (B'' := w4.heap.size) hb3 (Nat.le_refl _) hb3.size
    have hbel4 := hbel2.trans (hb3.mono hbel2.size)
    clear hbel2 hb3 hr2 hv3
    go_wp2_with fail
    refine (Stuck_any A1 cap1 g w4 HF.out hr4).mono ?_
    rintro e w5 ⟨A5, l5, c5, rfl, hl5, hs5, hn5, hb5⟩
    have hr5 := hr4.below (B'' := w5.heap.size) hb5 (Nat.le_refl _) hb5.size
    have hbel5 := hbel4.trans (hb5.mono hbel4.size)
    have HL5 := Lib.hid hl5.1
    have HS5 := Lib.hid hs5
    clear hbel4 hb5 hr4 hl5 hs5
    go_wp2_with fail
    refine (rStuck_any A1 cap1 g w5 HF.out hr5).mono ?_
    rintro e w6 ⟨A6, l6, c6, rfl, hl6, hs6, hn6, hb6⟩
    have hr6 := hr5.below (B'' := w6.heap.size) hb6 (Nat.le_refl _) hb6.size
    have hbel6 := hbel5.trans (hb6.mono hbel5.size)
    have hl56 := HL5.out.below (B'' := w6.heap.size) hb6 (Nat.le_refl _) hb6.size
    obtain rfl : l6 = l5 := (hs6.1 HV.out).unique (HS5.out.1 HV.out)
    have HL6 := Lib.hid hl6.1
    have HL56 := Lib.hid hl56
    clear hbel5 hb6 hr5 hl6 hs6 hl56
    go_wp2_with fail
    refine (SameInts_any A5 A6 w6.heap.size w6.heap.size c5 c6 l6 l6 w6 (by omega) (by omega) HL56.out HL6.out).mono ?_
    rintro e w7 ⟨r7, rfl, hv7, hb7⟩
    obtain rfl : r7 = true := hv7.2 rfl
    have hr7 := hr6.below (B'' := w7.heap.size) hb7 (Nat.le_refl _) hb7.size
    have hbel7 := hbel6.trans (hb7.mono hbel6.size)
    clear hbel6 hb7 hr6 hv7
    go_wp2_with fail
    refine (Cycle_any A1 cap1 g x w7 HF.out hr7).mono ?_
    rintro e w8 ⟨A8, l8, c8, rfl, hl8, hs8, hn8, hb8⟩
    have hr8 := hr7.below (B'' := w8.heap.size) hb8 (Nat.le_refl _) hb8.size
    have hbel8 := hbel7.trans (hb8.mono hbel7.size)
    have HL8 := Lib.hid hl8.1
    have HS8 := Lib.hid hs8
    clear hbel7 hb8 hr7 hl8 hs8
    go_wp2_with fail
    refine (rCycle_any A1 cap1 g x w8 HF.out hr8).mono ?_
    rintro e w9 ⟨A9, l9, c9, rfl, hl9, hs9, hn9, hb9⟩
    have hr9 := hr8.below (B'' := w9.heap.size) hb9 (Nat.le_refl _) hb9.size
    have hbel9 := hbel8.trans (hb9.mono hbel8.size)
    have hl89 := HL8.out.below (B'' := w9.heap.size) hb9 (Nat.le_refl _) hb9.size
    obtain rfl : l9 = l8 := hs9.unique HS8.out
    have HL9 := Lib.hid hl9.1
    have HL89 := Lib.hid hl89
    clear hbel8 hb9 hr8 hl9 hs9 hl89
    go_wp2_with fail
    refine (SameInts_any A8 A9 w9.heap.size w9.heap.size c8 c9 l9 l9 w9 (by omega) (by omega) HL89.out HL9.out).mono ?_
    rintro e w10 ⟨r10, rfl, hv10, hb10⟩
    obtain rfl : r10 = true := hv10.2 rfl
    have hr10 := hr9.below (B'' := w10.heap.size) hb10 (Nat.le_refl _) hb10.size
    have hbel10 := hbel9.trans (hb10.mono hbel9.size)
    clear hbel9 hb10 hr9 hv10
    go_wp2_with fail
    refine (Knots_any A1 cap1 g w10 HF.out hr10).mono ?_
    rintro e w11 ⟨A11, l11, c11, rfl, hl11, hs11, hn11, hm11, hb11⟩
    have hr11 := hr10.below (B'' := w11.heap.size) hb11 (Nat.le_refl _) hb11.size
    have hbel11 := hbel10.trans (hb11.mono hbel10.size)
    have HL11 := Lib.hid hl11
    have HS11 := Lib.hid hs11
    have HM11 := Lib.hid hm11
    clear hbel10 hb11 hr10 hl11 hs11 hm11
    go_wp2_with fail
    refine (rKnots_any A1 cap1 g w11 HF.out hr11).mono ?_
    rintro e w12 ⟨A12, l12, c12, rfl, hl12, hs12, hn12, _, hb12⟩
    have hr12 := hr11.below (B'' := w12.heap.size) hb12 (Nat.le_refl _) hb12.size
    have hbel12 := hbel11.trans (hb12.mono hbel11.size)
    have hl1112 := HL11.out.below (B'' := w12.heap.size) hb12 (Nat.le_refl _) hb12.size
    obtain rfl : l12 = l11 := hs12.unique HS11.out
    have HL12 := Lib.hid hl12
    have HL1112 := Lib.hid hl1112
    clear hbel11 hb12 hr11 hl12 hs12 hl1112
    go_wp2_with fail
    refine (same_any A11 A12 c11 c12 l12 l12 w12 (by omega) (by omega) HM11.out HM11.out HL1112.out HL12.out).mono ?_
    rintro e w13 ⟨r13, rfl, hv13, hb13⟩
    obtain rfl : r13 = true := hv13.2 rfl
    have hr13 := hr12.below (B'' := w13.heap.size) hb13 (Nat.le_refl _) hb13.size
    have hbel13 := hbel12.trans (hb13.mono hbel12.size)
    clear hbel12 hb13 hr12 hv13
    go_wp2_with fail
    refine (Reach_any A1 cap1 g x w13 HF.out hr13).mono ?_
    rintro e w14 ⟨A14, l14, c14, rfl, hl14, hs14, hn14, hb14⟩
    have hr14 := hr13.below (B'' := w14.heap.size) hb14 (Nat.le_refl _) hb14.size
    have hbel14 := hbel13.trans (hb14.mono hbel13.size)
    have HL14 := Lib.hid hl14.1
    have HS14 := Lib.hid hs14
    clear hbel13 hb14 hr13 hl14 hs14
    go_wp2_with fail
    refine (rReach_any A1 cap1 g x w14 HF.out hr14).mono ?_
    rintro e w15 ⟨A15, l15, c15, rfl, hl15, hs15, hn15, hb15⟩
    have hbel15 := hbel14.trans (hb15.mono hbel14.size)
    have hl1415 := HL14.out.below (B'' := w15.heap.size) hb15 (Nat.le_refl _) hb15.size
    obtain rfl : l15 = l14 := by
      by_cases hv : ValidG g ∧ InR g.length x
      · exact (hs15.1 hv).unique (HS14.out.1 hv)
      · rw [hs15.2 hv, HS14.out.2 hv]
    have HL15 := Lib.hid hl15.1
    have HL1415 := Lib.hid hl1415
    clear hbel14 hb15 hr14 hl15 hs15 hl1415
    go_wp2_with fail
    refine (SameInts_any A14 A15 w15.heap.size w15.heap.size c14 c15 l15 l15 w15 (by omega) (by omega) HL1415.out HL15.out).mono ?_
    rintro e w16 ⟨r16, rfl, hv16, hb16⟩
    obtain rfl : r16 = true := hv16.2 rfl
    go_wp2
    go_ret
    exact ⟨rfl, hbel15.trans (hb16.mono hbel15.size)⟩
  · have hd : decide (l.length ≤ 300) = false := decide_eq_false hl
    go_enter Try.func5, Try.ntmps5
    go_wp2_with fail
    refine (Light_any A l.length cap w HW.out.1).mono ?_
    rintro e w0 ⟨rfl, rfl⟩
    go_wp2_with fail
    refine (awake_any w).mono ?_
    rintro e w2 ⟨rfl, hb2⟩
    go_wp2
    go_ret
    exact ⟨rfl, hb2⟩
end Go.Proofs.Ytgdeekghngpcfaa
