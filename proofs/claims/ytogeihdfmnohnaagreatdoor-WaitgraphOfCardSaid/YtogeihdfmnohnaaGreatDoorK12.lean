/- Part 12 of 49 of the proof of waitgraphOf_holds (no condition). -/
import Derived.Test.YtogeihdfmnohnaaGreatDoorK11
set_option linter.unusedVariables false
set_option linter.unusedSimpArgs false
namespace Go.Proofs.YtogeihdfmnohnaaGreatDoor
open Go.RowKit
def cvOK (q : Qu) (k : Nat) (x : Wt) : Bool := decide (findW q.convs x.proc = (k : Int)) && !zeroB (getH q.holds x.proc) && fitsB q.res x.am && covB q.res x.am (getH q.holds x.proc) && !decide (x.am = getH q.holds x.proc) && decide (x.prio = 0) && decide (x.passed = 0)
def cvGo (q : Qu) : Nat → List Wt → Bool
  | _, [] => true
  | k, x :: l => cvOK q k x && cvGo q (k + 1) l
def cvB (q : Qu) : Bool := decide (q.convs.length ≤ 8) && cvGo q 0 q.convs
def wtGo (q : Qu) : List Wt → Bool
  | [] => true
  | x :: l => fitsB q.res x.am && zeroB (getH q.holds x.proc) && wtGo q l
def wtB (q : Qu) : Bool := lineB q.waits && decide (q.holds.length + q.waits.length ≤ 8) && wtGo q q.waits
def soundB (q : Qu) : Bool := resB q.res && hvB q.res q.holds && cvB q && wtB q && decide (0 ≤ q.gen) && decide (q.gen ≤ 1073741824)
def settledB (q : Qu) : Bool := soundB q && match headQ q with
  | none => true
  | some x => !roomB q.res q.holds x.proc x.am
theorem cvGo_cons (q : Qu) (k : Nat) (x : Wt) (l : List Wt) : cvGo q k (x :: l) = (cvOK q k x && cvGo q (k + 1) l) := rfl
theorem wtGo_cons (q : Qu) (x : Wt) (l : List Wt) : wtGo q (x :: l) = (fitsB q.res x.am && zeroB (getH q.holds x.proc) && wtGo q l) := rfl
set_option maxRecDepth 100000 in
set_option maxHeartbeats 6400000 in
theorem soundConverts_any (q : Qu) (A1 A2 A3 : Option Addr) (c1 c2 c3 : Nat) (w : World) (B : Nat) (hq : QF w B A1 A2 A3 q) :
    Calls Tryz.prog 150 #[q.val A1 A2 A3 c1 c2 c3] w (Ret w (.bool (cvB q))) := by
  have HH := Lib.hid (fun x y z W (hb : Below w.heap.size w W) => Held_any q A1 A2 A3 c1 c2 c3 x y z W B (hq.below hb))
  have HFI := Lib.hid (fun x y z W (hb : Below w.heap.size w W) => WFind_any A2 B c2 q.convs x y z W hq.m2 (Nat.le_trans hq.hB hb.size) (hq.r2.below hb hq.hB (Nat.le_refl _)))
  have HZ := Lib.hid (fun m u W => Zero_any m u W)
  have HFT := Lib.hid (fun m u W => Fits_any q.res m u W)
  have HCV := Lib.hid (fun a b c d W => Covers_any q.res a b c d W)
  have HQF := Lib.hid hq
  have hm2 := hq.m2
  unfold maxLen at hm2
  clear hq
  obtain ⟨R, hR⟩ : ∃ R, cvB q = R := ⟨_, rfl⟩
  rw [hR]
  have HR := Lib.hid hR
  clear hR
  obtain ⟨⟨nm, kd, un, h⟩, hs, cs, ws, gen⟩ := q
  unfold Qu.val Rs.val at *
  dsimp only at HH HFI HFT HCV hm2 HQF ⊢
  by_cases h8 : cs.length ≤ 8
  · have h8i : ¬ (8 : Int) < (cs.length : Int) := by omega
    have HQ : Hid (cvGo ⟨⟨nm, kd, un, h⟩, hs, cs, ws, gen⟩ 0 (cs.drop 0) = R) := Lib.hid (by rw [← HR.out]; unfold cvB; rw [decide_eq_true h8]; rfl)
    clear HR
    go_enter Tryz.func150, Tryz.ntmps150
    go_wp2_with fail
    go_loopg [13] cs.length (fun m0 v13 wq => ∃ k : Nat, v13 = .int .i64 (k : Int) ∧ k ≤ cs.length ∧ cs.length ≤ k + m0 ∧ Hid (cvGo ⟨⟨nm, kd, un, h⟩, hs, cs, ws, gen⟩ k (cs.drop k) = R) ∧ Hid (BoxQ w nm kd un h A1 hs.length c1 A2 cs.length c2 A3 ws.length c3 gen wq))
    case atStart => exact ⟨0, rfl, Nat.zero_le _, by omega, HQ, Lib.hid BoxQ.made⟩
    case round =>
      obtain ⟨k, rfl, hk, hkm, HI, HX⟩ := hrel
      have HB : Hid (Below w.heap.size w wr) := Lib.hid HX.out.below
      obtain ⟨q0, q1, q2, q3, q4, q5, q6, q7, ql⟩ := HX.out.cel
      by_cases hlt : k < cs.length
      · obtain ⟨⟨⟨a, b, c⟩, ⟨m, u⟩, pr, pa⟩, hx⟩ : ∃ x, cs[k] = x := ⟨_, rfl⟩
        obtain ⟨g, off, rfl, hbl, d0, d1, d2, d3, d4, d5, d6⟩ := wt_cells (HQF.out.r2.below (B'' := w.heap.size) HB.out HQF.out.hB HQF.out.hB) hlt hx
        have hbl2 : g < wr.heap.size := Nat.lt_of_lt_of_le hbl HB.out.size
        have hlti : (k : Int) < (cs.length : Int) := by omega
        have HS0 : Hid ((cvOK ⟨⟨nm, kd, un, h⟩, hs, cs, ws, gen⟩ k ⟨⟨a, b, c⟩, ⟨m, u⟩, pr, pa⟩ && cvGo ⟨⟨nm, kd, un, h⟩, hs, cs, ws, gen⟩ (k + 1) (cs.drop (k + 1))) = R) := Lib.hid (by have h := HI.out; rw [drop_step hlt hx, cvGo_cons] at h; exact h)
        obtain ⟨⟨gm, gu⟩, hg⟩ : ∃ y, getH hs ⟨a, b, c⟩ = y := ⟨_, rfl⟩
        have HS : Hid ((decide (findW cs ⟨a, b, c⟩ = (k : Int)) && !zeroB ⟨gm, gu⟩ && fitsB ⟨nm, kd, un, h⟩ ⟨m, u⟩ && covB ⟨nm, kd, un, h⟩ ⟨m, u⟩ ⟨gm, gu⟩ && !decide ((⟨m, u⟩ : Am) = ⟨gm, gu⟩) && decide (pr = 0) && decide (pa = 0) && cvGo ⟨⟨nm, kd, un, h⟩, hs, cs, ws, gen⟩ (k + 1) (cs.drop (k + 1))) = R) := Lib.hid (by have h1 := HS0.out; unfold cvOK at h1; rw [hg] at h1; exact h1)
        have HH1 := Lib.hid (fun W hb => HH.out a b c W hb)
        rw [hg] at HH1
        unfold Am.val at HH1
        have HF1 := Lib.hid (fun W hb => HFI.out a b c W hb)
        have HT1 := Lib.hid (fun W => HFT.out m u W)
        have HC1 := Lib.hid (fun W => HCV.out m u gm gu W)
        have HZ1 := Lib.hid (fun W => HZ.out gm gu W)
        obtain ⟨_, k1, k2⟩ := cmpAm m u gm gu
        generalize findW cs ⟨a, b, c⟩ = n at *
        generalize zeroB ⟨gm, gu⟩ = z1 at *
        generalize fitsB ⟨nm, kd, un, h⟩ ⟨m, u⟩ = f1 at *
        generalize covB ⟨nm, kd, un, h⟩ ⟨m, u⟩ ⟨gm, gu⟩ = v1 at *
        generalize decide ((⟨m, u⟩ : Am) = ⟨gm, gu⟩) = e1 at *
        clear hg hx hbl HS0
        go_wp2_with fail
        refine (HH1.out _ (by (repeat (first | (with_reducible exact Below.refl _ _) | (with_reducible assumption) | (with_reducible refine below_drewN ?_ _) | (with_reducible refine Below.drew ?_) | (with_reducible refine Below.al ?_ _) | (with_reducible refine Below.st ?_ (by simp; try omega)) | (with_reducible refine Below.tr ?_ (Hid.out (by assumption))) | (with_reducible exact Hid.out (by assumption)))))).mono ?_
        rintro e w2 ⟨rfl, hb2⟩
        have HX2 := Lib.hid (HX.out.next (Below.tr (Below.al (Below.refl _ _) (.cells #[.int .i64 a, .int .i64 b, .int .i64 c, .int .i64 m, .int .i64 u, .int .i64 pr, .int .i64 pa] 87)) hb2))
        have HB2 : Hid (Below w.heap.size w w2) := Lib.hid HX2.out.below
        have hs_2 := hb2.size
        (try simp at hs_2)
        obtain ⟨hc_2, hf_2⟩ := bcell hb2
        have hz_2w : w.heap.size < w2.heap.size := by omega
        have hz_2r : wr.heap.size < w2.heap.size := by omega
        clear hb2
        go_wp2_with fail
        repeat' (first
          | (go_at_call 177; refine (HF1.out _ (by (repeat (first | (with_reducible exact Below.refl _ _) | (with_reducible assumption) | (with_reducible refine below_drewN ?_ _) | (with_reducible refine Below.drew ?_) | (with_reducible refine Below.al ?_ _) | (with_reducible refine Below.st ?_ (by simp; try omega)) | (with_reducible refine Below.tr ?_ (Hid.out (by assumption))) | (with_reducible exact Hid.out (by assumption)))))).mono ?_; rintro e wa1 ⟨rfl, hb_wa1⟩; obtain ⟨hc_wa1, hf_wa1⟩ := bcell hb_wa1; have hs_wa1 := hb_wa1.size; (try simp at hs_wa1); have hz_wa1_w_0 : w.heap.size < wa1.heap.size := (by omega); have hz_wa1_wr_0 : wr.heap.size < wa1.heap.size := (by omega); have hz_wa1_w2_0 : w2.heap.size < wa1.heap.size := (by omega); clear hs_wa1; have HB_wa1 := Lib.hid hb_wa1; clear hb_wa1; go_wp2_with fail)
          | (go_at_call 139; refine (HZ1.out _).mono ?_; rintro e wa2 ⟨rfl, hb_wa2⟩; obtain ⟨hc_wa2, hf_wa2⟩ := bcell hb_wa2; have hs_wa2 := hb_wa2.size; (try simp at hs_wa2); have hz_wa2_w_0 : w.heap.size < wa2.heap.size := (by omega); have hz_wa2_wr_0 : wr.heap.size < wa2.heap.size := (by omega); have hz_wa2_w2_0 : w2.heap.size < wa2.heap.size := (by omega); clear hs_wa2; have HB_wa2 := Lib.hid hb_wa2; clear hb_wa2; go_wp2_with fail)
          | (go_at_call 137; refine (HT1.out _).mono ?_; rintro e wa3 ⟨rfl, hb_wa3⟩; obtain ⟨hc_wa3, hf_wa3⟩ := bcell hb_wa3; have hs_wa3 := hb_wa3.size; (try simp at hs_wa3); have hz_wa3_w_0 : w.heap.size < wa3.heap.size := (by omega); have hz_wa3_wr_0 : wr.heap.size < wa3.heap.size := (by omega); have hz_wa3_w2_0 : w2.heap.size < wa3.heap.size := (by omega); clear hs_wa3; have HB_wa3 := Lib.hid hb_wa3; clear hb_wa3; go_wp2_with fail)
          | (go_at_call 178; refine (HC1.out _).mono ?_; rintro e wa4 ⟨rfl, hb_wa4⟩; obtain ⟨hc_wa4, hf_wa4⟩ := bcell hb_wa4; have hs_wa4 := hb_wa4.size; (try simp at hs_wa4); have hz_wa4_w_0 : w.heap.size < wa4.heap.size := (by omega); have hz_wa4_wr_0 : wr.heap.size < wa4.heap.size := (by omega); have hz_wa4_w2_0 : w2.heap.size < wa4.heap.size := (by omega); clear hs_wa4; have HB_wa4 := Lib.hid hb_wa4; clear hb_wa4; go_wp2_with fail)
          | (go_ret; exact ⟨ret_bool (by (rw [← HS.out]; first | (simp [*]; done) | (simp [*]; omega) | (simp [*]; intros; omega) | (rename_i h9; simp at h9; simp [*]; done))), by (repeat (first | (with_reducible exact Below.refl _ _) | (with_reducible assumption) | (with_reducible refine below_drewN ?_ _) | (with_reducible refine Below.drew ?_) | (with_reducible refine Below.al ?_ _) | (with_reducible refine Below.st ?_ (by simp; try omega)) | (with_reducible refine Below.tr ?_ (Hid.out (by assumption))) | (with_reducible exact Hid.out (by assumption))))⟩)
          | (go_roundg (gk - 1); (case measure => omega); (case rel => exact ⟨k + 1, by go_num, by omega, by omega, Lib.hid (by (rw [← HS.out]; first | (simp [*]; done) | (simp [*]; omega) | (simp [*]; intros; omega) | (rename_i h9; simp at h9; simp [*]; done))), Lib.hid (HX2.out.next (by (repeat (first | (with_reducible exact Below.refl _ _) | (with_reducible assumption) | (with_reducible refine below_drewN ?_ _) | (with_reducible refine Below.drew ?_) | (with_reducible refine Below.al ?_ _) | (with_reducible refine Below.st ?_ (by simp; try omega)) | (with_reducible refine Below.tr ?_ (Hid.out (by assumption))) | (with_reducible exact Hid.out (by assumption))))))⟩)))
      · have HS : Hid (true = R) := Lib.hid (by have h := HI.out; rw [drop_end hlt] at h; exact h)
        have hlti : ¬ (k : Int) < (cs.length : Int) := by omega
        go_wp2_with fail
        go_ret
        exact ⟨ret_bool HS.out, by (repeat (first | (with_reducible exact Below.refl _ _) | (with_reducible assumption) | (with_reducible refine below_drewN ?_ _) | (with_reducible refine Below.drew ?_) | (with_reducible refine Below.al ?_ _) | (with_reducible refine Below.st ?_ (by simp; try omega)) | (with_reducible refine Below.tr ?_ (Hid.out (by assumption))) | (with_reducible exact Hid.out (by assumption))))⟩
  · have h8i : (8 : Int) < (cs.length : Int) := by omega
    have HQ : Hid (false = R) := Lib.hid (by rw [← HR.out]; unfold cvB; rw [decide_eq_false h8]; rfl)
    clear HR
    go_enter Tryz.func150, Tryz.ntmps150
    go_wp2_with fail
    go_ret
    exact ⟨ret_bool HQ.out, by (repeat (first | (with_reducible exact Below.refl _ _) | (with_reducible assumption) | (with_reducible refine below_drewN ?_ _) | (with_reducible refine Below.drew ?_) | (with_reducible refine Below.al ?_ _) | (with_reducible refine Below.st ?_ (by simp; try omega)) | (with_reducible refine Below.tr ?_ (Hid.out (by assumption))) | (with_reducible exact Hid.out (by assumption))))⟩
set_option maxRecDepth 100000 in
set_option maxHeartbeats 6400000 in
theorem soundWaits_any (q : Qu) (A1 A2 A3 : Option Addr) (c1 c2 c3 : Nat) (w : World) (B : Nat) (hq : QF w B A1 A2 A3 q) (hh8 : q.holds.length ≤ 8) :
    Calls Tryz.prog 151 #[q.val A1 A2 A3 c1 c2 c3] w (Ret w (.bool (wtB q))) := by
  have HH := Lib.hid (fun x y z W (hb : Below w.heap.size w W) => Held_any q A1 A2 A3 c1 c2 c3 x y z W B (hq.below hb))
  have HL := Lib.hid (fun W (hb : Below w.heap.size w W) => WValid_any A3 B c3 q.waits W hq.m3 (Nat.le_trans hq.hB hb.size) (hq.r3.below hb hq.hB (Nat.le_refl _)))
  have HZ := Lib.hid (fun m u W => Zero_any m u W)
  have HFT := Lib.hid (fun m u W => Fits_any q.res m u W)
  have HQF := Lib.hid hq
  have hm1 := hq.m1
  have hm3 := hq.m3
  unfold maxLen at hm1 hm3
  have HLB : Hid (lineB q.waits = true → q.waits.length ≤ 8) := Lib.hid (fun h => by unfold lineB at h; simp only [Bool.and_eq_true, decide_eq_true_eq] at h; exact h.1)
  have HD : Hid (wtB q = (lineB q.waits && decide (q.holds.length + q.waits.length ≤ 8) && wtGo q q.waits)) := Lib.hid rfl
  clear hq
  obtain ⟨R, hR⟩ : ∃ R, wtB q = R := ⟨_, rfl⟩
  rw [hR] at HD ⊢
  clear hR
  obtain ⟨⟨nm, kd, un, h⟩, hs, cs, ws, gen⟩ := q
  unfold Qu.val Rs.val at *
  dsimp only at HH HL HFT hm1 hm3 HQF HLB HD hh8 ⊢
  obtain ⟨l1, hl1⟩ : ∃ l, lineB ws = l := ⟨_, rfl⟩
  rw [hl1] at HL HLB HD
  clear hl1
  have HBX := Lib.hid (BoxQ.made (w := w) (nm := nm) (kd := kd) (un := un) (h := h) (A1 := A1) (n1 := hs.length) (c1 := c1) (A2 := A2) (n2 := cs.length) (c2 := c2) (A3 := A3) (n3 := ws.length) (c3 := c3) (gen := gen))
  cases l1 with
  | false =>
    have HQ : Hid (R = false) := Lib.hid HD.out
    go_enter Tryz.func151, Tryz.ntmps151
    go_wp2_with fail
    repeat' (first
      | (go_at_call 179; refine (HL.out _ (by (repeat (first | (with_reducible exact Below.refl _ _) | (with_reducible assumption) | (with_reducible refine below_drewN ?_ _) | (with_reducible refine Below.drew ?_) | (with_reducible refine Below.al ?_ _) | (with_reducible refine Below.st ?_ (by simp; try omega)) | (with_reducible refine Below.tr ?_ (Hid.out (by assumption))) | (with_reducible exact Hid.out (by assumption)))))).mono ?_; rintro e wa1 ⟨rfl, hb_wa1⟩; obtain ⟨hc_wa1, hf_wa1⟩ := bcell hb_wa1; have hs_wa1 := hb_wa1.size; (try simp at hs_wa1); have hz_wa1_w_0 : w.heap.size < wa1.heap.size := (by omega); clear hs_wa1; have HB_wa1 := Lib.hid hb_wa1; clear hb_wa1; go_wp2_with fail)
      | (go_ret; exact ⟨ret_bool HQ.out.symm, by (repeat (first | (with_reducible exact Below.refl _ _) | (with_reducible assumption) | (with_reducible refine below_drewN ?_ _) | (with_reducible refine Below.drew ?_) | (with_reducible refine Below.al ?_ _) | (with_reducible refine Below.st ?_ (by simp; try omega)) | (with_reducible refine Below.tr ?_ (Hid.out (by assumption))) | (with_reducible exact Hid.out (by assumption))))⟩))
  | true =>
    have hw8 : ws.length ≤ 8 := HLB.out rfl
    have hwrap : IntKind.i64.wrap ((hs.length : Int) + (ws.length : Int)) = (hs.length : Int) + (ws.length : Int) := IntWalk.i64_in _ (by omega)
    by_cases hs8 : hs.length + ws.length ≤ 8
    · have h8i : ¬ (8 : Int) < (hs.length : Int) + (ws.length : Int) := by omega
      have HQ : Hid (wtGo ⟨⟨nm, kd, un, h⟩, hs, cs, ws, gen⟩ (ws.drop 0) = R) := Lib.hid (by rw [HD.out, decide_eq_true hs8]; rfl)
      go_enter Tryz.func151, Tryz.ntmps151
      go_wp2_with fail
      refine (HL.out _ (by (repeat (first | (with_reducible exact Below.refl _ _) | (with_reducible assumption) | (with_reducible refine below_drewN ?_ _) | (with_reducible refine Below.drew ?_) | (with_reducible refine Below.al ?_ _) | (with_reducible refine Below.st ?_ (by simp; try omega)) | (with_reducible refine Below.tr ?_ (Hid.out (by assumption))) | (with_reducible exact Hid.out (by assumption)))))).mono ?_
      rintro e w1 ⟨rfl, hb1⟩
      have HX1 := Lib.hid (HBX.out.next hb1)
      obtain ⟨q0, q1, q2, q3, q4, q5, q6, q7, ql⟩ := HX1.out.cel
      clear hb1
      go_wp2_with fail
      clear q0 q1 q2 q3 q4 q5 q6 q7 ql
      go_loopg [22] ws.length (fun m0 v22 wq => ∃ k : Nat, v22 = .int .i64 (k : Int) ∧ k ≤ ws.length ∧ ws.length ≤ k + m0 ∧ Hid (wtGo ⟨⟨nm, kd, un, h⟩, hs, cs, ws, gen⟩ (ws.drop k) = R) ∧ Hid (BoxQ w nm kd un h A1 hs.length c1 A2 cs.length c2 A3 ws.length c3 gen wq))
      case atStart => exact ⟨0, rfl, Nat.zero_le _, by omega, HQ, HX1⟩
      case round =>
        obtain ⟨k, rfl, hk, hkm, HI, HX⟩ := hrel
        have HB : Hid (Below w.heap.size w wr) := Lib.hid HX.out.below
        obtain ⟨q0, q1, q2, q3, q4, q5, q6, q7, ql⟩ := HX.out.cel
        by_cases hlt : k < ws.length
        · obtain ⟨⟨⟨a, b, c⟩, ⟨m, u⟩, pr, pa⟩, hx⟩ : ∃ x, ws[k] = x := ⟨_, rfl⟩
          obtain ⟨g, off, rfl, hbl, d0, d1, d2, d3, d4, d5, d6⟩ := wt_cells (HQF.out.r3.below (B'' := w.heap.size) HB.out HQF.out.hB HQF.out.hB) hlt hx
          have hbl2 : g < wr.heap.size := Nat.lt_of_lt_of_le hbl HB.out.size
          have hlti : (k : Int) < (ws.length : Int) := by omega
          obtain ⟨⟨gm, gu⟩, hg⟩ : ∃ y, getH hs ⟨a, b, c⟩ = y := ⟨_, rfl⟩
          have HS : Hid ((fitsB ⟨nm, kd, un, h⟩ ⟨m, u⟩ && zeroB ⟨gm, gu⟩ && wtGo ⟨⟨nm, kd, un, h⟩, hs, cs, ws, gen⟩ (ws.drop (k + 1))) = R) := Lib.hid (by have h1 := HI.out; rw [drop_step hlt hx, wtGo_cons] at h1; dsimp only at h1; rw [hg] at h1; exact h1)
          have HH1 := Lib.hid (fun W hb => HH.out a b c W hb)
          rw [hg] at HH1
          unfold Am.val at HH1
          have HT1 := Lib.hid (fun W => HFT.out m u W)
          have HZ1 := Lib.hid (fun W => HZ.out gm gu W)
          generalize zeroB ⟨gm, gu⟩ = z1 at *
          generalize fitsB ⟨nm, kd, un, h⟩ ⟨m, u⟩ = f1 at *
          clear hg hx hbl
          go_wp2_with fail
          repeat' (first
            | (go_at_call 137; refine (HT1.out _).mono ?_; rintro e wa1 ⟨rfl, hb_wa1⟩; obtain ⟨hc_wa1, hf_wa1⟩ := bcell hb_wa1; have hs_wa1 := hb_wa1.size; (try simp at hs_wa1); have hz_wa1_w_0 : w.heap.size < wa1.heap.size := (by omega); have hz_wa1_wr_0 : wr.heap.size < wa1.heap.size := (by omega); clear hs_wa1; have HB_wa1 := Lib.hid hb_wa1; clear hb_wa1; go_wp2_with fail)
            | (go_at_call 176; refine (HH1.out _ (by (repeat (first | (with_reducible exact Below.refl _ _) | (with_reducible assumption) | (with_reducible refine below_drewN ?_ _) | (with_reducible refine Below.drew ?_) | (with_reducible refine Below.al ?_ _) | (with_reducible refine Below.st ?_ (by simp; try omega)) | (with_reducible refine Below.tr ?_ (Hid.out (by assumption))) | (with_reducible exact Hid.out (by assumption)))))).mono ?_; rintro e wa2 ⟨rfl, hb_wa2⟩; obtain ⟨hc_wa2, hf_wa2⟩ := bcell hb_wa2; have hs_wa2 := hb_wa2.size; (try simp at hs_wa2); have hz_wa2_w_0 : w.heap.size < wa2.heap.size := (by omega); have hz_wa2_wr_0 : wr.heap.size < wa2.heap.size := (by omega); clear hs_wa2; have HB_wa2 := Lib.hid hb_wa2; clear hb_wa2; go_wp2_with fail)
            | (go_at_call 139; refine (HZ1.out _).mono ?_; rintro e wa3 ⟨rfl, hb_wa3⟩; obtain ⟨hc_wa3, hf_wa3⟩ := bcell hb_wa3; have hs_wa3 := hb_wa3.size; (try simp at hs_wa3); have hz_wa3_w_0 : w.heap.size < wa3.heap.size := (by omega); have hz_wa3_wr_0 : wr.heap.size < wa3.heap.size := (by omega); clear hs_wa3; have HB_wa3 := Lib.hid hb_wa3; clear hb_wa3; go_wp2_with fail)
            | (go_ret; exact ⟨ret_bool (by (rw [← HS.out]; first | (simp [*]; done) | (simp [*]; omega) | (simp [*]; intros; omega) | (rename_i h9; simp at h9; simp [*]; done))), by (repeat (first | (with_reducible exact Below.refl _ _) | (with_reducible assumption) | (with_reducible refine below_drewN ?_ _) | (with_reducible refine Below.drew ?_) | (with_reducible refine Below.al ?_ _) | (with_reducible refine Below.st ?_ (by simp; try omega)) | (with_reducible refine Below.tr ?_ (Hid.out (by assumption))) | (with_reducible exact Hid.out (by assumption))))⟩)
            | (go_roundg (gk - 1); (case measure => omega); (case rel => exact ⟨k + 1, by go_num, by omega, by omega, Lib.hid (by (rw [← HS.out]; first | (simp [*]; done) | (simp [*]; omega) | (simp [*]; intros; omega) | (rename_i h9; simp at h9; simp [*]; done))), Lib.hid (HX.out.next (by (repeat (first | (with_reducible exact Below.refl _ _) | (with_reducible assumption) | (with_reducible refine below_drewN ?_ _) | (with_reducible refine Below.drew ?_) | (with_reducible refine Below.al ?_ _) | (with_reducible refine Below.st ?_ (by simp; try omega)) | (with_reducible refine Below.tr ?_ (Hid.out (by assumption))) | (with_reducible exact Hid.out (by assumption))))))⟩)))
        · have HS : Hid (true = R) := Lib.hid (by have h := HI.out; rw [drop_end hlt] at h; exact h)
          have hlti : ¬ (k : Int) < (ws.length : Int) := by omega
          go_wp2_with fail
          go_ret
          exact ⟨ret_bool HS.out, by (repeat (first | (with_reducible exact Below.refl _ _) | (with_reducible assumption) | (with_reducible refine below_drewN ?_ _) | (with_reducible refine Below.drew ?_) | (with_reducible refine Below.al ?_ _) | (with_reducible refine Below.st ?_ (by simp; try omega)) | (with_reducible refine Below.tr ?_ (Hid.out (by assumption))) | (with_reducible exact Hid.out (by assumption))))⟩
    · have h8i : (8 : Int) < (hs.length : Int) + (ws.length : Int) := by omega
      have HQ : Hid (R = false) := Lib.hid (by rw [HD.out, decide_eq_false hs8]; rfl)
      go_enter Tryz.func151, Tryz.ntmps151
      go_wp2_with fail
      repeat' (first
        | (go_at_call 179; refine (HL.out _ (by (repeat (first | (with_reducible exact Below.refl _ _) | (with_reducible assumption) | (with_reducible refine below_drewN ?_ _) | (with_reducible refine Below.drew ?_) | (with_reducible refine Below.al ?_ _) | (with_reducible refine Below.st ?_ (by simp; try omega)) | (with_reducible refine Below.tr ?_ (Hid.out (by assumption))) | (with_reducible exact Hid.out (by assumption)))))).mono ?_; rintro e wa1 ⟨rfl, hb_wa1⟩; obtain ⟨hc_wa1, hf_wa1⟩ := bcell hb_wa1; have hs_wa1 := hb_wa1.size; (try simp at hs_wa1); have hz_wa1_w_0 : w.heap.size < wa1.heap.size := (by omega); clear hs_wa1; have HB_wa1 := Lib.hid hb_wa1; clear hb_wa1; go_wp2_with fail)
        | (go_ret; exact ⟨ret_bool HQ.out.symm, by (repeat (first | (with_reducible exact Below.refl _ _) | (with_reducible assumption) | (with_reducible refine below_drewN ?_ _) | (with_reducible refine Below.drew ?_) | (with_reducible refine Below.al ?_ _) | (with_reducible refine Below.st ?_ (by simp; try omega)) | (with_reducible refine Below.tr ?_ (Hid.out (by assumption))) | (with_reducible exact Hid.out (by assumption))))⟩))
set_option maxHeartbeats 3200000 in
theorem Sound_any (q : Qu) (A1 A2 A3 : Option Addr) (c1 c2 c3 : Nat) (w : World) (B : Nat) (hT : Tog w) (hq : QF w B A1 A2 A3 q) :
    Calls Tryz.prog 111 #[q.val A1 A2 A3 c1 c2 c3] w (Ret w (.bool (soundB q))) := by
  have H1 := Lib.hid (fun W => ValidRes_any q.res W)
  have H2 := Lib.hid (fun W (hb : Below w.heap.size w W) => HValid_any q.res A1 B c1 q.holds W (hT.below hb) hq.m1 (Nat.le_trans hq.hB hb.size) (hq.r1.below hb hq.hB (Nat.le_refl _)))
  have H3 := Lib.hid (fun W (hb : Below w.heap.size w W) => soundConverts_any q A1 A2 A3 c1 c2 c3 W B (hq.below hb))
  have H4 := Lib.hid (fun (h8 : hvB q.res q.holds = true) W (hb : Below w.heap.size w W) => soundWaits_any q A1 A2 A3 c1 c2 c3 W B (hq.below hb) (hvB_len h8))
  have HS : Hid ((resB q.res && hvB q.res q.holds && cvB q && wtB q && decide (0 ≤ q.gen) && decide (q.gen ≤ 1073741824)) = soundB q) := Lib.hid rfl
  clear hT hq
  generalize soundB q = R at *
  obtain ⟨⟨nm, kd, un, h⟩, hs, cs, ws, gen⟩ := q
  unfold Qu.val Rs.val at *
  dsimp only at H1 H2 H3 H4 HS ⊢
  generalize resB ⟨nm, kd, un, h⟩ = r1 at *
  generalize hvB ⟨nm, kd, un, h⟩ hs = r2 at *
  generalize cvB ⟨⟨nm, kd, un, h⟩, hs, cs, ws, gen⟩ = r3 at *
  generalize wtB ⟨⟨nm, kd, un, h⟩, hs, cs, ws, gen⟩ = r4 at *
  go_enter Tryz.func111, Tryz.ntmps111
  go_wp2_with fail
  repeat' (first
    | (go_at_call 149; refine (H1.out _).mono ?_; rintro e wa1 ⟨rfl, hb_wa1⟩; obtain ⟨hc_wa1, hf_wa1⟩ := bcell hb_wa1; have hs_wa1 := hb_wa1.size; (try simp at hs_wa1); have hz_wa1_w_0 : w.heap.size < wa1.heap.size := (by omega); clear hs_wa1; have HB_wa1 := Lib.hid hb_wa1; clear hb_wa1; go_wp2_with fail)
    | (go_at_call 136; refine (H2.out _ (by (repeat (first | (with_reducible exact Below.refl _ _) | (with_reducible assumption) | (with_reducible refine below_drewN ?_ _) | (with_reducible refine Below.drew ?_) | (with_reducible refine Below.al ?_ _) | (with_reducible refine Below.st ?_ (by simp; try omega)) | (with_reducible refine Below.tr ?_ (Hid.out (by assumption))) | (with_reducible exact Hid.out (by assumption)))))).mono ?_; rintro e wa2 ⟨rfl, hb_wa2⟩; obtain ⟨hc_wa2, hf_wa2⟩ := bcell hb_wa2; have hs_wa2 := hb_wa2.size; (try simp at hs_wa2); have hz_wa2_w_0 : w.heap.size < wa2.heap.size := (by omega); clear hs_wa2; have HB_wa2 := Lib.hid hb_wa2; clear hb_wa2; go_wp2_with fail)
    | (go_at_call 150; refine (H3.out _ (by (repeat (first | (with_reducible exact Below.refl _ _) | (with_reducible assumption) | (with_reducible refine below_drewN ?_ _) | (with_reducible refine Below.drew ?_) | (with_reducible refine Below.al ?_ _) | (with_reducible refine Below.st ?_ (by simp; try omega)) | (with_reducible refine Below.tr ?_ (Hid.out (by assumption))) | (with_reducible exact Hid.out (by assumption)))))).mono ?_; rintro e wa3 ⟨rfl, hb_wa3⟩; obtain ⟨hc_wa3, hf_wa3⟩ := bcell hb_wa3; have hs_wa3 := hb_wa3.size; (try simp at hs_wa3); have hz_wa3_w_0 : w.heap.size < wa3.heap.size := (by omega); clear hs_wa3; have HB_wa3 := Lib.hid hb_wa3; clear hb_wa3; go_wp2_with fail)
    | (go_at_call 151; refine (H4.out (by assumption) _ (by (repeat (first | (with_reducible exact Below.refl _ _) | (with_reducible assumption) | (with_reducible refine below_drewN ?_ _) | (with_reducible refine Below.drew ?_) | (with_reducible refine Below.al ?_ _) | (with_reducible refine Below.st ?_ (by simp; try omega)) | (with_reducible refine Below.tr ?_ (Hid.out (by assumption))) | (with_reducible exact Hid.out (by assumption)))))).mono ?_; rintro e wa4 ⟨rfl, hb_wa4⟩; obtain ⟨hc_wa4, hf_wa4⟩ := bcell hb_wa4; have hs_wa4 := hb_wa4.size; (try simp at hs_wa4); have hz_wa4_w_0 : w.heap.size < wa4.heap.size := (by omega); clear hs_wa4; have HB_wa4 := Lib.hid hb_wa4; clear hb_wa4; go_wp2_with fail)
    | (go_ret; exact ⟨ret_bool (by (rw [← HS.out]; first | (simp [*]; done) | (simp [*]; omega) | (simp [*]; intros; omega) | (rename_i h9; simp at h9; simp [*]; done))), by (repeat (first | (with_reducible exact Below.refl _ _) | (with_reducible assumption) | (with_reducible refine below_drewN ?_ _) | (with_reducible refine Below.drew ?_) | (with_reducible refine Below.al ?_ _) | (with_reducible refine Below.st ?_ (by simp; try omega)) | (with_reducible refine Below.tr ?_ (Hid.out (by assumption))) | (with_reducible exact Hid.out (by assumption))))⟩))
end Go.Proofs.YtogeihdfmnohnaaGreatDoor
