/- Comparisons of processes and of stamps; the example that stands in every law of the chapter. -/
import Derived.Test.YtambinjjfapcgaaDooriParse
import Derived.Test.YtambinjjfapcgaaDooriMerge
import Derived.Test.YtambinjjfapcgaaDooriCmp
import Derived.Test.YtambinjjfapcgaaDoorRows2
import Derived.Test.YtambinjjfapcgaaDooriEq
namespace Go.Proofs.YtambinjjfapcgaaDoor
open Go.RowKit

theorem dg2 {n : Nat} (h : n < 10) : dgI n = [UInt8.ofNat (48 + n)] := by
  unfold dgI
  rw [Int.toNat_natCast]
  exact Lib.decDigits_one h
theorem text215 : ptext ⟨2, 1, 5⟩ = [50, 46, 49, 46, 53] := by
  unfold ptext
  rw [show dgI (2 : Int) = [50] from dg2 (n := 2) (by decide), show dgI (1 : Int) = [49] from dg2 (n := 1) (by decide), show dgI (5 : Int) = [53] from dg2 (n := 5) (by decide)]
  rfl
theorem parse215 : parseS [50, 46, 49, 46, 53] = some ⟨2, 1, 5⟩ := parseS_iff.2 ⟨by decide, text215⟩

set_option maxHeartbeats 3200000 in
set_option maxRecDepth 100000 in
theorem awake_any (w : World) (hL : Lay w) : Calls Tryd.prog 4 #[] w (Ret w (.bool true)) := by
  have LH := Lib.hid hL
  have HP : Hid (∀ W, Lay W → Calls Tryd.prog 9 #[.string ⟨#[50, 46, 49, 46, 53]⟩] W (Ret W (.tuple #[.agg #[.int .i64 2, .int .i64 1, .int .i64 5], .bool true]))) := Lib.hid (fun W h => by
    have := PProc_any ⟨#[50, 46, 49, 46, 53]⟩ (by decide) W h
    rw [show (⟨#[50, 46, 49, 46, 53]⟩ : ByteArray).data.toList = [50, 46, 49, 46, 53] from rfl, parse215] at this
    exact this)
  have HM : Hid (∀ W, Calls Tryd.prog 10 #[.agg #[.int .i64 3, .int .i64 0], .agg #[.int .i64 7, .int .i64 1]] W (Ret W (.tuple #[.agg #[.int .i64 8, .int .i64 0], .int .i64 0]))) := Lib.hid (fun W => Merge_any ⟨3, 0⟩ ⟨7, 1⟩ W)
  have HF : Hid (∀ W, Lay W → Calls Tryd.prog 11 #[.agg #[.int .i64 2, .int .i64 1, .int .i64 5]] W fun e w' => e = .returned (.string ⟨#[50, 46, 49, 46, 53]⟩) ∧ Below W.heap.size W w') := Lib.hid (fun W h => by
    have := FProc_any ⟨2, 1, 5⟩ W h
    rw [show fmtP ⟨2, 1, 5⟩ = [50, 46, 49, 46, 53] from by unfold fmtP; rw [if_pos (by decide)]; exact text215] at this
    exact this)
  have HN : Hid (∀ W : World, Calls Tryd.prog 12 #[.int .i64 1073741824] W (Same W (.int .i64 1))) := Lib.hid (fun W => Next_any 1073741824 W)
  have HC : Hid (∀ W : World, Calls Tryd.prog 13 #[.agg #[.int .i64 2, .int .i64 1, .int .i64 5], .agg #[.int .i64 2, .int .i64 0, .int .i64 0]] W (Ret W (.int .i64 1))) := Lib.hid (fun W => CProc_any ⟨2, 1, 5⟩ ⟨2, 0, 0⟩ W)
  obtain ⟨k1, k2, k3⟩ := cmpPr 2 1 5 2 1 5
  clear hL
  go_enter Tryd.func4, Tryd.ntmps4
  go_wp2_with fail
  refine (HP.out _ LH.out).mono ?_
  rintro e w1 ⟨rfl, hb1⟩
  have HB1 := Lib.hid hb1
  clear hb1
  go_wp2_with fail
  refine (HM.out _).mono ?_
  rintro e w2 ⟨rfl, hb2⟩
  obtain ⟨hc2, hf2⟩ := bcell hb2
  have hz2 := hb2.size
  replace hz2 : w1.heap.size < w2.heap.size := by simp at hz2; omega
  have HB2 : Hid (Below w.heap.size w w2) := Lib.hid (Below.tr (Below.al HB1.out _) hb2)
  clear hb2
  go_wp2_with fail
  refine (HF.out _ (LH.out.below (Below.al HB2.out _))).mono ?_
  rintro e w3 ⟨rfl, hb3⟩
  obtain ⟨hc3, hf3⟩ := bcell hb3
  have hz3 : w2.heap.size < w3.heap.size := by have := hb3.size; simp at this; omega
  have HB3 : Hid (Below w.heap.size w w3) := Lib.hid (Below.tr (Below.al HB2.out _) hb3)
  clear hb3
  go_wp2_with fail
  refine (HN.out _).mono ?_
  rintro e w4 ⟨rfl, hw⟩
  obtain rfl := hw.symm
  clear hw
  go_wp2_with fail
  refine (HC.out _).mono ?_
  rintro e w5 ⟨rfl, hb5⟩
  have HB5 : Hid (Below w.heap.size w w5) := Lib.hid (Below.tr HB3.out hb5)
  clear hb5
  go_wp2
  go_ret
  exact ⟨rfl, HB5.out⟩
end Go.Proofs.YtambinjjfapcgaaDoor
