/- The laws IdentFormats, IdentParses, IdentNames, IdentMerges: the walks. -/
import Derived.Test.YtebhcchdcpechaaDooriAwake
import Derived.Test.YtebhcchdcpechaaDoorirParse
import Derived.Test.YtebhcchdcpechaaDoorirForm
import Derived.Test.YtebhcchdcpechaaDoorirMerge
namespace Go.Proofs.YtebhcchdcpechaaDoor
open Go.RowKit

theorem bytes_lit (l : List UInt8) : (⟨l.toArray⟩ : ByteArray).toList = l := by rw [ByteArray.toList_eq]
theorem parse_nil : parseS [] = none := parseS_none.2 fun p _ e => by
  have := ptext_length_ge p
  rw [e] at this
  simp at this
theorem parse_fmt (p : Pr) : parseS (fmtP p) = if vpB p = true then some p else none := by
  unfold fmtP
  split
  · next h => exact parseS_text h
  · exact parse_nil

set_option maxHeartbeats 1600000 in
set_option maxRecDepth 100000 in
theorem IParses_any (s : ByteArray) (hs : s.size ≤ 281474976710656) (w : World) (hL : Lay w) : Calls Tryd.prog 6 #[.string s] w (Ret w (.bool true)) := by
  have H1 := Lib.hid (fun W h => awake_any W h)
  have H2 := Lib.hid (fun W h => PProc_any s hs W h)
  have H3 := Lib.hid (fun W => rPProc_any s W)
  obtain ⟨a, b, c, o, hv⟩ : ∃ (a b c : Int) (o : Bool), parseV (parseS s.data.toList) = .tuple #[.agg #[.int .i64 a, .int .i64 b, .int .i64 c], .bool o] := by
    rcases parseS s.data.toList with _ | p
    · exact ⟨0, 0, 0, false, rfl⟩
    · exact ⟨p.site, p.inc, p.num, true, rfl⟩
  rw [hv] at H2 H3
  obtain ⟨k1, k2, k3⟩ := cmpPr a b c a b c
  have ho : (o == o) = true := by simp
  have LH := Lib.hid hL
  clear hL hv
  go_enter Tryd.func6, Tryd.ntmps6
  go_wp2_with fail
  refine (H2.out _ LH.out).mono ?_
  rintro e w1 ⟨rfl, hb1⟩
  have HB1 := Lib.hid hb1
  clear hb1
  go_wp2_with fail
  refine (H3.out _).mono ?_
  rintro e w2 ⟨rfl, hb2⟩
  obtain ⟨hc_w2, hf_w2⟩ := bcell hb2
  have hs_w2 := hb2.size
  (try simp at hs_w2)
  have hz_w2_0 : w1.heap.size < w2.heap.size := by omega
  clear hs_w2
  have HB2 : Hid (Below w.heap.size w w2) := Lib.hid (Below.tr (Below.al HB1.out _) hb2)
  clear hb2
  go_wp2_with fail
  refine (H1.out _ (LH.out.below (Below.al HB2.out _))).mono ?_
  rintro e w3 ⟨rfl, hb3⟩
  obtain ⟨hc_w3, hf_w3⟩ := bcell hb3
  have hs_w3 := hb3.size
  (try simp at hs_w3)
  have hz_w3_0 : w2.heap.size < w3.heap.size := by omega
  clear hs_w3
  have hz : w1.heap.size < w3.heap.size := by omega
  have HB3 : Hid (Below w.heap.size w w3) := Lib.hid (Below.tr (Below.al HB2.out _) hb3)
  clear hb3
  go_wp2_with fail
  go_ret
  exact ⟨rfl, HB3.out⟩

set_option maxHeartbeats 1600000 in
set_option maxRecDepth 100000 in
theorem IFormats_any (p : Pr) (w : World) (hL : Lay w) : Calls Tryd.prog 5 #[p.val] w (Ret w (.bool true)) := by
  have H1 := Lib.hid (fun W h => awake_any W h)
  have H2 := Lib.hid (fun W h => FProc_any p W h)
  have H3 := Lib.hid (fun W => rFProc_any p W)
  have H4 := Lib.hid (fun W => rVProc_any p W)
  have hl : (fmtP p).length ≤ 11 := by
    unfold fmtP
    split
    · next h => exact ptext_length h
    · simp
  obtain ⟨t, ht⟩ : ∃ t : ByteArray, ⟨(fmtP p).toArray⟩ = t := ⟨_, rfl⟩
  have hts : t.size ≤ 11 := by rw [← ht]; simpa [ByteArray.size] using hl
  have htl : t.toList = fmtP p := by rw [← ht, bytes_lit]
  have htd : t.data.toList = fmtP p := by rw [← ht]
  have H5 := Lib.hid (fun W h => PProc_any t (by omega) W h)
  unfold RetS at H2 H3
  rw [ht] at H2 H3
  rw [htd, parse_fmt] at H5
  have LH := Lib.hid hL
  have htt : (t.toList == t.toList) = true := by simp
  clear ht hl hts htd hL
  cases hv : vpB p with
  | false =>
    rw [hv] at H4 H5
    have hte : t.toList = [] := by rw [htl]; unfold fmtP; rw [hv]; rfl
    have hte2 : t.toList.isEmpty = true := by rw [hte]; rfl
    obtain ⟨a, b, c⟩ := p
    unfold Pr.val at *
    obtain ⟨k1, k2, k3⟩ := cmpPr 0 0 0 0 0 0
    clear htl hv hte
    have H5' : Hid (∀ W, Lay W → Calls Tryd.prog 21 #[.string t] W (Ret W (.tuple #[.agg #[.int .i64 0, .int .i64 0, .int .i64 0], .bool false]))) := Lib.hid (fun W h => H5.out W h)
    clear H5
    go_enter Tryd.func5, Tryd.ntmps5
    go_wp2_with fail
    refine (H2.out _ (LH.out.below (Below.al (Below.refl _ _) _))).mono ?_
    rintro e w1 ⟨rfl, hb1⟩
    obtain ⟨hc_w1, hf_w1⟩ := bcell hb1
    have hs_w1 := hb1.size
    (try simp at hs_w1)
    have hz_w1_0 : w.heap.size < w1.heap.size := by omega
    clear hs_w1
    have HB1 : Hid (Below w.heap.size w w1) := Lib.hid (Below.tr (Below.al (Below.refl _ _) _) hb1)
    clear hb1
    go_wp2_with fail
    refine (H5'.out _ (LH.out.below HB1.out)).mono ?_
    rintro e w2 ⟨rfl, hb2⟩
    obtain ⟨hc_w2, hf_w2⟩ := bcell hb2
    have hs_w2 := hb2.size
    (try simp at hs_w2)
    have hz_w2_0 : w.heap.size < w2.heap.size := by omega
    clear hs_w2
    have HB2 : Hid (Below w.heap.size w w2) := Lib.hid (Below.tr HB1.out hb2)
    clear hb2
    go_wp2_with fail
    refine (H4.out _).mono ?_
    rintro e w3 ⟨rfl, hb3⟩
    obtain ⟨hc_w3, hf_w3⟩ := bcell hb3
    have hs_w3 := hb3.size
    (try simp at hs_w3)
    have hz_w3_0 : w2.heap.size < w3.heap.size := by omega
    clear hs_w3
    have HB3 : Hid (Below w.heap.size w w3) := Lib.hid (Below.tr (Below.al HB2.out _) hb3)
    clear hb3
    go_wp2_with fail
    refine (H1.out _ (LH.out.below HB3.out)).mono ?_
    rintro e w4 ⟨rfl, hb4⟩
    obtain ⟨hc_w4, hf_w4⟩ := bcell hb4
    have hs_w4 := hb4.size
    (try simp at hs_w4)
    have hz_w4_0 : w2.heap.size < w4.heap.size := by omega
    clear hs_w4
    have HB4 : Hid (Below w.heap.size w w4) := Lib.hid (Below.tr HB3.out hb4)
    clear hb4
    go_wp2_with fail
    go_ret
    exact ⟨rfl, HB4.out⟩
  | true =>
    rw [hv] at H4 H5
    obtain ⟨a, b, c⟩ := p
    unfold Pr.val at *
    obtain ⟨k1, k2, k3⟩ := cmpPr a b c a b c
    have H5' : Hid (∀ W, Lay W → Calls Tryd.prog 21 #[.string t] W (Ret W (.tuple #[.agg #[.int .i64 a, .int .i64 b, .int .i64 c], .bool true]))) := Lib.hid (fun W h => H5.out W h)
    clear H5 htl hv
    go_enter Tryd.func5, Tryd.ntmps5
    go_wp2_with fail
    refine (H2.out _ (LH.out.below (Below.al (Below.refl _ _) _))).mono ?_
    rintro e w1 ⟨rfl, hb1⟩
    obtain ⟨hc_w1, hf_w1⟩ := bcell hb1
    have hs_w1 := hb1.size
    (try simp at hs_w1)
    have hz_w1_0 : w.heap.size < w1.heap.size := by omega
    clear hs_w1
    have HB1 : Hid (Below w.heap.size w w1) := Lib.hid (Below.tr (Below.al (Below.refl _ _) _) hb1)
    clear hb1
    go_wp2_with fail
    refine (H5'.out _ (LH.out.below HB1.out)).mono ?_
    rintro e w2 ⟨rfl, hb2⟩
    obtain ⟨hc_w2, hf_w2⟩ := bcell hb2
    have hs_w2 := hb2.size
    (try simp at hs_w2)
    have hz_w2_0 : w.heap.size < w2.heap.size := by omega
    clear hs_w2
    have HB2 : Hid (Below w.heap.size w w2) := Lib.hid (Below.tr HB1.out hb2)
    clear hb2
    go_wp2_with fail
    refine (H4.out _).mono ?_
    rintro e w3 ⟨rfl, hb3⟩
    obtain ⟨hc_w3, hf_w3⟩ := bcell hb3
    have hs_w3 := hb3.size
    (try simp at hs_w3)
    have hz_w3_0 : w2.heap.size < w3.heap.size := by omega
    clear hs_w3
    have hz3 : w.heap.size < w3.heap.size := by omega
    have HB3 : Hid (Below w.heap.size w w3) := Lib.hid (Below.tr (Below.al HB2.out _) hb3)
    clear hb3
    go_wp2_with fail
    refine (H1.out _ (LH.out.below HB3.out)).mono ?_
    rintro e w4 ⟨rfl, hb4⟩
    obtain ⟨hc_w4, hf_w4⟩ := bcell hb4
    have hs_w4 := hb4.size
    (try simp at hs_w4)
    have hz_w4_0 : w2.heap.size < w4.heap.size := by omega
    clear hs_w4
    have hz4 : w.heap.size < w4.heap.size := by omega
    have HB4 : Hid (Below w.heap.size w w4) := Lib.hid (Below.tr HB3.out hb4)
    clear hb4
    go_wp2_with fail
    refine (H3.out _).mono ?_
    rintro e w5 ⟨rfl, hb5⟩
    obtain ⟨hc_w5, hf_w5⟩ := bcell hb5
    have hs_w5 := hb5.size
    (try simp at hs_w5)
    have hz_w5_0 : w2.heap.size < w5.heap.size := by omega
    clear hs_w5
    have hz5 : w.heap.size < w5.heap.size := by omega
    have HB5 : Hid (Below w.heap.size w w5) := Lib.hid (Below.tr HB4.out hb5)
    clear hb5
    go_wp2_with fail
    go_ret
    exact ⟨rfl, HB5.out⟩

theorem fmt_named (p : Pr) : ∃ t : ByteArray, (⟨(fmtP p).toArray⟩ : ByteArray) = t ∧ t.toList = fmtP p := ⟨_, rfl, bytes_lit _⟩
set_option maxHeartbeats 3200000 in
set_option maxRecDepth 100000 in
theorem INames_any (p q : Pr) (w : World) (hL : Lay w) : Calls Tryd.prog 8 #[p.val, q.val] w (Ret w (.bool true)) := by
  have H1 := Lib.hid (fun W h => awake_any W h)
  have H2 := Lib.hid (fun W h => FProc_any p W h)
  have H3 := Lib.hid (fun W h => FProc_any q W h)
  have H4 := Lib.hid (fun W => VProc_any p W)
  have H5 := Lib.hid (fun W => VProc_any q W)
  unfold RetS at H2 H3
  obtain ⟨t, e1, e2⟩ := fmt_named p
  obtain ⟨u, e3, e4⟩ := fmt_named q
  rw [e1] at H2
  rw [e3] at H3
  have hne : Hid (vpB p = true → t.toList.isEmpty = false) := Lib.hid (fun h => by
    have := ptext_length_ge p
    rw [e2]
    unfold fmtP
    rw [if_pos h]
    cases hh : ptext p with
    | nil => rw [hh] at this; simp at this
    | cons _ _ => rfl)
  have heq : Hid (vpB p = true → vpB q = true → (t.toList == u.toList) = decide (p = q)) := Lib.hid (fun h1 h2 => by
    rw [Bool.eq_iff_iff, beq_iff_eq, decide_eq_true_eq, e2, e4]
    unfold fmtP
    rw [if_pos h1, if_pos h2]
    exact ⟨fun h => ptext_inj h1 h2 h, fun h => by rw [h]⟩)
  obtain ⟨b1, hb1⟩ : ∃ b, vpB p = b := ⟨_, rfl⟩
  obtain ⟨b2, hb2⟩ : ∃ b, vpB q = b := ⟨_, rfl⟩
  rw [hb1] at H4 hne heq
  rw [hb2] at H5 heq
  clear e1 e2 e3 e4 hb1 hb2
  obtain ⟨a, b, c⟩ := p
  obtain ⟨x, y, z⟩ := q
  unfold Pr.val at *
  have LH := Lib.hid hL
  obtain ⟨k1, k2, k3⟩ := cmpPr a b c x y z
  generalize hbb : decide ((⟨a, b, c⟩ : Pr) = ⟨x, y, z⟩) = bb at *
  have HE : Hid (∀ n : Ext ((w.alloc (.cells #[.int .i64 a, .int .i64 b, .int .i64 c] 23)).alloc (.cells #[.int .i64 x, .int .i64 y, .int .i64 z] 23)), Below w.heap.size w n.w) := Lib.hid fun n => Below.tr (Below.al (Below.al (Below.refl _ _) _) _) n.below
  have HLL : Hid (∀ n : Ext ((w.alloc (.cells #[.int .i64 a, .int .i64 b, .int .i64 c] 23)).alloc (.cells #[.int .i64 x, .int .i64 y, .int .i64 z] 23)), Lay n.w) := Lib.hid fun n => LH.out.below (HE.out n)
  have g00 := Ext.cell (show ((w.alloc (.cells #[.int .i64 a, .int .i64 b, .int .i64 c] 23)).alloc (.cells #[.int .i64 x, .int .i64 y, .int .i64 z] 23)).cell? ⟨w.heap.size, 0, none⟩ = some (.int .i64 a) by go_simp)
  have g01 := Ext.cell (show ((w.alloc (.cells #[.int .i64 a, .int .i64 b, .int .i64 c] 23)).alloc (.cells #[.int .i64 x, .int .i64 y, .int .i64 z] 23)).cell? ⟨w.heap.size, 1, none⟩ = some (.int .i64 b) by go_simp)
  have g02 := Ext.cell (show ((w.alloc (.cells #[.int .i64 a, .int .i64 b, .int .i64 c] 23)).alloc (.cells #[.int .i64 x, .int .i64 y, .int .i64 z] 23)).cell? ⟨w.heap.size, 2, none⟩ = some (.int .i64 c) by go_simp)
  have g10 := Ext.cell (show ((w.alloc (.cells #[.int .i64 a, .int .i64 b, .int .i64 c] 23)).alloc (.cells #[.int .i64 x, .int .i64 y, .int .i64 z] 23)).cell? ⟨w.heap.size + 1, 0, none⟩ = some (.int .i64 x) by go_simp)
  have g11 := Ext.cell (show ((w.alloc (.cells #[.int .i64 a, .int .i64 b, .int .i64 c] 23)).alloc (.cells #[.int .i64 x, .int .i64 y, .int .i64 z] 23)).cell? ⟨w.heap.size + 1, 1, none⟩ = some (.int .i64 y) by go_simp)
  have g12 := Ext.cell (show ((w.alloc (.cells #[.int .i64 a, .int .i64 b, .int .i64 c] 23)).alloc (.cells #[.int .i64 x, .int .i64 y, .int .i64 z] 23)).cell? ⟨w.heap.size + 1, 2, none⟩ = some (.int .i64 z) by go_simp)
  clear hbb hL
  go_enter Tryd.func8, Tryd.ntmps8
  go_wp2_with fail
  refine wp_region_grow (by kernel_rfl) (by kernel_rfl) ?_; (repeat (go_big_quiet_step ((first | (go_at_call 20; with_reducible exact Ext.call _ (H2.out _ (HLL.out _))) | (go_at_call 20; with_reducible exact Ext.call _ (H3.out _ (HLL.out _))))))); refine wpQuiet_nil ?_; rintro w2 ⟨n2, rfl⟩; obtain ⟨w2, hb2⟩ := n2
  dsimp only
  have HB2 := Lib.hid (Below.tr (Below.al (Below.al (Below.refl _ _) _) _) hb2)
  obtain ⟨hc_w2, hf_w2⟩ := bcell hb2
  have hs_w2 := hb2.size
  (try simp at hs_w2)
  have hz_w2_0 : w.heap.size < w2.heap.size := by omega
  have hz_w2_1 : w.heap.size + 1 < w2.heap.size := by omega
  clear hs_w2
  clear hb2 g00 g01 g02 g10 g11 g12
  cases b1 with
  | false =>
    go_wp2_with fail
    refine (H4.out _).mono ?_
    rintro e w3 ⟨rfl, hb3⟩
    have HB3 : Hid (Below w.heap.size w w3) := Lib.hid (Below.tr HB2.out hb3)
    clear hb3
    go_wp2_with fail
    refine (H1.out _ (LH.out.below HB3.out)).mono ?_
    rintro e w4 ⟨rfl, hb4⟩
    go_wp2_with fail
    go_ret
    exact ⟨rfl, Below.tr HB3.out hb4⟩
  | true =>
    go_wp2_with fail
    refine (H4.out _).mono ?_
    rintro e w3 ⟨rfl, hb3⟩
    obtain ⟨hc_w3, hf_w3⟩ := bcell hb3
    have hs_w3 := hb3.size
    (try simp at hs_w3)
    have hz_w3_0 : w.heap.size < w3.heap.size := by omega
    have hz_w3_1 : w.heap.size + 1 < w3.heap.size := by omega
    clear hs_w3
    have HB3 : Hid (Below w.heap.size w w3) := Lib.hid (Below.tr HB2.out hb3)
    clear hb3
    go_wp2_with fail
    refine (H5.out _).mono ?_
    rintro e w4 ⟨rfl, hb4⟩
    obtain ⟨hc_w4, hf_w4⟩ := bcell hb4
    have hs_w4 := hb4.size
    (try simp at hs_w4)
    have hz_w4_0 : w.heap.size < w4.heap.size := by omega
    have hz_w4_1 : w.heap.size + 1 < w4.heap.size := by omega
    clear hs_w4
    have HB4 : Hid (Below w.heap.size w w4) := Lib.hid (Below.tr HB3.out hb4)
    clear hb4
    cases b2 with
    | false =>
      go_wp2_with fail
      refine (H1.out _ (LH.out.below HB4.out)).mono ?_
      rintro e w5 ⟨rfl, hb5⟩
      go_wp2_with fail
      go_ret
      exact ⟨rfl, Below.tr HB4.out hb5⟩
    | true =>
      have f1 := hne.out (by simp)
      have f2 := heq.out (by simp) (by simp)
      go_wp2_with fail
      refine (H1.out _ (LH.out.below HB4.out)).mono ?_
      rintro e w5 ⟨rfl, hb5⟩
      obtain ⟨hc_w5, hf_w5⟩ := bcell hb5
      have hs_w5 := hb5.size
      (try simp at hs_w5)
      have hz_w5_0 : w.heap.size < w5.heap.size := by omega
      have hz_w5_1 : w.heap.size + 1 < w5.heap.size := by omega
      clear hs_w5
      have HB5 : Hid (Below w.heap.size w w5) := Lib.hid (Below.tr HB4.out hb5)
      clear hb5
      go_wp2_with fail
      go_ret
      exact ⟨rfl, HB5.out⟩

set_option maxHeartbeats 3200000 in
set_option maxRecDepth 100000 in
theorem IMerges_any (s t : St) (w : World) (hL : Lay w) : Calls Tryd.prog 10 #[s.val, t.val] w (Ret w (.bool true)) := by
  have H1 := Lib.hid (fun W h => awake_any W h)
  have H2 := Lib.hid (fun W => Merge_any s t W)
  have H3 := Lib.hid (fun W => rMerge_any s t W)
  have hok := mergeS_ok (s := s) (t := t)
  unfold mergeV at H2 H3
  obtain ⟨⟨⟨m1, m2⟩, er⟩, hm⟩ : ∃ m, mergeS s t = m := ⟨_, rfl⟩
  rw [hm] at H2 H3 hok
  dsimp only at H2 H3 hok
  have HOK := Lib.hid hok
  have H4 := Lib.hid (fun W => CStamp_any ⟨m1, m2⟩ s W)
  have H5 := Lib.hid (fun W => CStamp_any ⟨m1, m2⟩ t W)
  obtain ⟨r1, hr1⟩ : ∃ r, cmpT ⟨m1, m2⟩ s = r := ⟨_, rfl⟩
  obtain ⟨r2, hr2⟩ : ∃ r, cmpT ⟨m1, m2⟩ t = r := ⟨_, rfl⟩
  rw [hr1] at H4 HOK
  rw [hr2] at H5 HOK
  clear hm hok hr1 hr2
  obtain ⟨a, b⟩ := s
  obtain ⟨x, y⟩ := t
  unfold St.val at *
  have LH := Lib.hid hL
  obtain ⟨k1, k2, k3⟩ := cmpSt m1 m2 m1 m2
  have he : ((er : Int) == er) = true := by simp
  clear hL
  go_enter Tryd.func10, Tryd.ntmps10
  go_wp2_with fail
  refine (H2.out _).mono ?_
  rintro e w1 ⟨rfl, hb1⟩
  obtain ⟨hc_w1, hf_w1⟩ := bcell hb1
  have hs_w1 := hb1.size
  (try simp at hs_w1)
  have hz_w1_0 : w.heap.size < w1.heap.size := by omega
  have hz_w1_1 : w.heap.size + 1 < w1.heap.size := by omega
  clear hs_w1
  have HB1 : Hid (Below w.heap.size w w1) := Lib.hid (Below.tr (Below.al (Below.al (Below.refl _ _) _) _) hb1)
  clear hb1
  go_wp2_with fail
  refine (H3.out _).mono ?_
  rintro e w2 ⟨rfl, hb2⟩
  obtain ⟨hc_w2, hf_w2⟩ := bcell hb2
  have hs_w2 := hb2.size
  (try simp at hs_w2)
  have hz_w2_0 : w1.heap.size < w2.heap.size := by omega
  clear hs_w2
  have hz20 : w.heap.size < w2.heap.size := by omega
  have hz21 : w.heap.size + 1 < w2.heap.size := by omega
  have HB2 : Hid (Below w.heap.size w w2) := Lib.hid (Below.tr (Below.al HB1.out _) hb2)
  clear hb2
  go_wp2_with fail
  refine (H1.out _ (LH.out.below (Below.al HB2.out _))).mono ?_
  rintro e w3 ⟨rfl, hb3⟩
  obtain ⟨hc_w3, hf_w3⟩ := bcell hb3
  have hs_w3 := hb3.size
  (try simp at hs_w3)
  have hz_w3_0 : w2.heap.size < w3.heap.size := by omega
  clear hs_w3
  have hz30 : w.heap.size < w3.heap.size := by omega
  have hz31 : w.heap.size + 1 < w3.heap.size := by omega
  have hz32 : w1.heap.size < w3.heap.size := by omega
  have HB3 : Hid (Below w.heap.size w w3) := Lib.hid (Below.tr (Below.al HB2.out _) hb3)
  clear hb3
  by_cases h0 : er = 0
  · have F := HOK.out h0
    have F1 : Hid (r1 = 1) := Lib.hid F.1
    have F2 : Hid (r2 = 1) := Lib.hid F.2
    subst h0
    clear F
    go_wp2_with fail
    refine (H4.out _).mono ?_
    rintro e w4 ⟨rfl, hb4⟩
    rw [F1.out]
    obtain ⟨hc_w4, hf_w4⟩ := bcell hb4
    have hs_w4 := hb4.size
    (try simp at hs_w4)
    have hz_w4_0 : w2.heap.size < w4.heap.size := by omega
    clear hs_w4
    have hz40 : w.heap.size < w4.heap.size := by omega
    have hz41 : w.heap.size + 1 < w4.heap.size := by omega
    have hz42 : w1.heap.size < w4.heap.size := by omega
    have HB4 : Hid (Below w.heap.size w w4) := Lib.hid (Below.tr HB3.out hb4)
    clear hb4
    go_wp2_with fail
    refine (H5.out _).mono ?_
    rintro e w5 ⟨rfl, hb5⟩
    rw [F2.out]
    have HB5 : Hid (Below w.heap.size w w5) := Lib.hid (Below.tr HB4.out hb5)
    clear hb5
    go_wp2_with fail
    go_ret
    exact ⟨rfl, HB5.out⟩
  · have h0' : ((er : Int) == 0) = false := beq_eq_false_iff_ne.2 h0
    have h1' : ((er : Int) != 0) = true := by rw [bne_iff_ne]; exact h0
    clear h0
    go_wp2_with fail
    go_ret
    exact ⟨rfl, HB3.out⟩
end Go.Proofs.YtebhcchdcpechaaDoor
