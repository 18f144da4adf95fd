/- The laws CatalogFormats, CatalogParses: the walks. -/
import Derived.Test.YtbjbolpmbdllnaaDoorbAwake
import Derived.Test.YtbjbolpmbdllnaaDoorbSame
import Derived.Test.YtbjbolpmbdllnaaDoornrParse
namespace Go.Proofs.YtbjbolpmbdllnaaDoor
open Go.RowKit

theorem fmt_len {l : Ct} : (fmtL l).length ≤ 1024 := by
  unfold fmtL
  split
  · next hv =>
    have := linesL_len hv.2.1 l.length (Nat.le_refl _)
    rw [List.take_length] at this
    have := hv.1
    omega
  · simp

set_option maxHeartbeats 1600000 in
set_option maxRecDepth 100000 in
theorem CParses_any (s : ByteArray) (w : World) (hL : Lay w) : Calls Tryd.prog 4 #[.string s] w (Ret w (.bool true)) := by
  have H0 := Lib.hid (fun W => awake_any W)
  have H1 := Lib.hid (fun W h => Parse_any s W h)
  have H2 := Lib.hid (fun W => rParse_any s W)
  obtain ⟨n, l, hp⟩ : ∃ n l, parseC s.data.toList = (n, l) := ⟨_, _, rfl⟩
  have HP := Lib.hid hp
  rw [hp] at H1 H2
  have LH := Lib.hid hL
  have hnn : (n == n) = true := by simp
  clear hp hL
  go_enter Tryd.func4, Tryd.ntmps4
  go_wp2_with fail
  refine (H1.out _ LH.out).mono ?_
  rintro e w1 ⟨v1, rfl, hown1, hb1⟩
  obtain ⟨A1, cap1, rfl, hr1, hl1, hl1'⟩ := hown1.form
  have HB1 := Lib.hid hb1
  have HR1 := Lib.hid hr1
  clear hb1 hr1 hown1
  go_wp2_with fail
  refine (H2.out _).mono ?_
  rintro e w2 ⟨v2, rfl, hown2, hb2⟩
  obtain ⟨A2, cap2, rfl, hr2, hl2, hl2'⟩ := hown2.form
  have HB2 := Lib.hid hb2
  have HBW2 := Lib.hid (Below.tr HB1.out hb2)
  have HR2 := Lib.hid hr2
  clear hb2 hr2 hown2
  go_wp2_with fail
  refine (H0.out _).mono ?_
  rintro e w3 ⟨rfl, hb3⟩
  have HB3 := Lib.hid hb3
  have HBW3 := Lib.hid (Below.tr HBW2.out hb3)
  have HR13 := Lib.hid (HR1.out.below (B'' := w1.heap.size) (Below.trans HB2.out (hb3.mono HB2.out.size)) (Nat.le_refl _) (Nat.le_refl _))
  have HR23 := Lib.hid (HR2.out.below (B'' := w2.heap.size) hb3 (Nat.le_refl _) (Nat.le_refl _))
  have HS1 : Hid (w1.heap.size ≤ w3.heap.size) := Lib.hid (Nat.le_trans HB2.out.size hb3.size)
  have HS2 : Hid (w2.heap.size ≤ w3.heap.size) := Lib.hid hb3.size
  clear hb3
  go_wp2_with fail
  refine (Same_any A1 A2 w1.heap.size w2.heap.size cap1 cap2 l l w3 (Nat.le_trans hl1 hl1') (Nat.le_trans hl2 hl2') HS1.out HS2.out HR13.out HR23.out).mono ?_
  rintro e w4 ⟨b4, rfl, hq4, hb4⟩
  obtain rfl : b4 = true := hq4.2 rfl
  have HBW4 := Lib.hid (Below.tr HBW3.out hb4)
  have HR14 := Lib.hid (HR13.out.below (B'' := w1.heap.size) hb4 HS1.out (Nat.le_refl _))
  have HS14 : Hid (w1.heap.size ≤ w4.heap.size) := Lib.hid (Nat.le_trans HS1.out hb4.size)
  clear hb4 hq4
  by_cases hn : n = 0
  · subst hn
    have hf : ((⟨(fmtL l).toArray⟩ : ByteArray).toList == s.toList) = true := by
      obtain ⟨hv, hls⟩ := parseC_ok HP.out
      rw [toList_lit, ByteArray.toList_eq, beq_iff_eq]
      unfold fmtL
      rw [if_pos hv]
      exact hls
    go_wp2_with fail
    refine (Format_any A1 w1.heap.size cap1 l w4 (Nat.le_trans hl1 hl1') HS14.out HR14.out).mono ?_
    rintro e w5 ⟨rfl, hb5⟩
    have HBW5 := Lib.hid (Below.tr HBW4.out hb5)
    clear hb5
    generalize (⟨(fmtL l).toArray⟩ : ByteArray) = t at *
    go_wp2_with fail
    go_ret
    exact ⟨rfl, HBW5.out⟩
  · have hn0 : (n == 0) = false := beq_eq_false_iff_ne.2 hn
    go_wp2_with fail
    go_ret
    exact ⟨rfl, HBW4.out⟩

set_option maxHeartbeats 1600000 in
set_option maxRecDepth 100000 in
theorem CFormats_any (A : Option Addr) (B cap : Nat) (l : Ct) (w : World) (hL : Lay w) (hm : l.length ≤ maxLen) (hB : B ≤ w.heap.size) (hr : RowsAt resE w (Lo B) A l) :
    Calls Tryd.prog 3 #[.slice A l.length cap] w (Ret w (.bool true)) := by
  have H0 := Lib.hid (fun W => awake_any W)
  have H1 := Lib.hid (fun W (h : Below w.heap.size w W) => Format_any A B cap l W hm (Nat.le_trans hB h.size) (hr.below h hB (Nat.le_refl _)))
  have H2 := Lib.hid (fun W (h : Below w.heap.size w W) => rFormat_any A B cap l W hm (Nat.le_trans hB h.size) (hr.below h hB (Nat.le_refl _)))
  have H3 := Lib.hid (fun W (h : Below w.heap.size w W) => rCatValid_any A B cap l W hm (Nat.le_trans hB h.size) (hr.below h hB (Nat.le_refl _)))
  have H5 := Lib.hid (fun B' A' cap' W (hm' : l.length ≤ maxLen) (hB' : B' ≤ W.heap.size) (hr' : RowsAt resE W (Lo B') A' l) (h : Below w.heap.size w W) => Same_any A' A B' B cap' cap l l W hm' hm hB' (Nat.le_trans hB h.size) hr' (hr.below h hB (Nat.le_refl _)))
  obtain ⟨t, ht⟩ : ∃ t : ByteArray, ⟨(fmtL l).toArray⟩ = t := ⟨_, rfl⟩
  have htl : t.data.toList = fmtL l := by rw [← ht]
  have HV : Hid (VCat l → parseC t.data.toList = (0, l)) := Lib.hid (fun hv => by rw [htl]; unfold fmtL; rw [if_pos hv]; exact parseC_lines hv)
  have HE : Hid (¬ VCat l → t.toList.isEmpty = true) := Lib.hid (fun hv => by rw [ByteArray.toList_eq, htl]; unfold fmtL; rw [if_neg hv]; rfl)
  have H4 := Lib.hid (fun W h => Parse_any t W h)
  unfold RetS at H1 H2
  rw [ht] at H1 H2
  have LH := Lib.hid hL
  have htt : (t.toList == t.toList) = true := by simp
  have HX := Lib.hid hr
  clear ht htl hL hr
  go_enter Tryd.func3, Tryd.ntmps3
  go_wp2_with fail
  refine (H1.out _ (Below.refl _ _)).mono ?_
  rintro e w1 ⟨rfl, hb1⟩
  have HB1 := Lib.hid hb1
  clear hb1
  go_wp2_with fail
  refine (H0.out _).mono ?_
  rintro e w2 ⟨rfl, hb2⟩
  have HB2 := Lib.hid (Below.tr HB1.out hb2)
  clear hb2
  go_wp2_with fail
  refine (H2.out _ HB2.out).mono ?_
  rintro e w3 ⟨rfl, hb3⟩
  have HB3 := Lib.hid (Below.tr HB2.out hb3)
  clear hb3
  go_wp2_with fail
  refine (H3.out _ HB3.out).mono ?_
  rintro e w4 ⟨b4, rfl, hq4, hb4⟩
  have HB4 := Lib.hid (Below.tr HB3.out hb4)
  have HQ4 := Lib.hid hq4
  clear hb4 hq4
  cases b4 with
  | false =>
    have hem : t.toList.isEmpty = true := HE.out (fun hv => by have := HQ4.out.2 hv; cases this)
    go_wp2_with fail
    go_ret
    exact ⟨rfl, HB4.out⟩
  | true =>
    have HPC : Hid (parseC t.data.toList = (0, l)) := Lib.hid (HV.out (HQ4.out.1 rfl))
    rw [HPC.out] at H4
    go_wp2_with fail
    refine (H4.out _ (LH.out.below HB4.out)).mono ?_
    rintro e w5 ⟨v5, rfl, hown5, hb5⟩
    obtain ⟨A5, cap5, rfl, hr5, hl5, hl5'⟩ := hown5.form
    have HB5 := Lib.hid (Below.tr HB4.out hb5)
    have HR5 := Lib.hid hr5
    clear hb5 hr5 hown5
    go_wp2_with fail
    refine (H5.out w5.heap.size A5 cap5 _ (Nat.le_trans hl5 hl5') (Nat.le_refl _) HR5.out HB5.out).mono ?_
    rintro e w6 ⟨b6, rfl, hq6, hb6⟩
    obtain rfl : b6 = true := hq6.2 trivial
    have HB6 := Lib.hid (Below.tr HB5.out hb6)
    clear hb6 hq6
    go_wp2_with fail
    go_ret
    exact ⟨rfl, HB6.out⟩
end Go.Proofs.YtbjbolpmbdllnaaDoor
