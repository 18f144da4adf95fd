/- Part 13 of 49 of the proof of waitgraphOf_holds (no condition). -/
import Derived.Test.YtogeihdfmnohnaaGreatDoorK12
set_option linter.unusedVariables false
set_option linter.unusedSimpArgs false
namespace Go.Proofs.YtogeihdfmnohnaaGreatDoor
open Go.RowKit
structure BoxS (w : World) (nm : ByteArray) (kd un h : Int) (A1 : Option Addr) (n1 c1 : Nat) (A2 : Option Addr) (n2 c2 : Nat) (A3 : Option Addr) (n3 c3 : Nat) (gen : Int) (v : World) : Prop where
  q : BoxQ w nm kd un h A1 n1 c1 A2 n2 c2 A3 n3 c3 gen v
  r : Blk v (w.heap.size + 1) 44 #[.string nm, .int .i64 kd, .int .i64 un, .int .i64 h]
theorem BoxS.next {w v v' : World} {nm : ByteArray} {kd un h gen : Int} {A1 A2 A3 : Option Addr} {n1 n2 n3 c1 c2 c3 : Nat} (b : BoxS w nm kd un h A1 n1 c1 A2 n2 c2 A3 n3 c3 gen v) (hb : Below v.heap.size v v') : BoxS w nm kd un h A1 n1 c1 A2 n2 c2 A3 n3 c3 gen v' := ⟨b.q.next hb, b.r.below hb b.r.lt⟩
set_option maxRecDepth 100000 in
set_option maxHeartbeats 6400000 in
theorem rSound_any (q : Qu) (A1 A2 A3 : Option Addr) (c1 c2 c3 : Nat) (w : World) (B : Nat) (hq : QF w B A1 A2 A3 q) :
    Calls Tryz.prog 141 #[q.val A1 A2 A3 c1 c2 c3] w (Ret w (.bool (soundB q))) := by
  have H1 := Lib.hid (fun W => rValidRes_any q.res W)
  have H2 := Lib.hid (fun W (hb : Below w.heap.size w W) => rHValid_any q.res A1 B c1 q.holds W hq.m1 (Nat.le_trans hq.hB hb.size) (hq.r1.below hb hq.hB (Nat.le_refl _)))
  have HL := Lib.hid (fun W (hb : Below w.heap.size w W) => rWValid_any A3 B c3 q.waits W hq.m3 (Nat.le_trans hq.hB hb.size) (hq.r3.below hb hq.hB (Nat.le_refl _)))
  have HG := Lib.hid (fun x y z W (hb : Below w.heap.size w W) => rGet_any A1 B c1 q.holds x y z W hq.m1 (Nat.le_trans hq.hB hb.size) (hq.r1.below hb hq.hB (Nat.le_refl _)))
  have HFI := Lib.hid (fun x y z W (hb : Below w.heap.size w W) => rWFind_any A2 B c2 q.convs x y z W hq.m2 (Nat.le_trans hq.hB hb.size) (hq.r2.below hb hq.hB (Nat.le_refl _)))
  have HZ := Lib.hid (fun m u W => rZero_any m u W)
  have HFT := Lib.hid (fun m u W => rFits_any q.res m u W)
  have HCV := Lib.hid (fun a b c d W => rCovers_any q.res a b c d W)
  have HQF := Lib.hid hq
  have HLB : Hid (lineB q.waits = true → q.waits.length ≤ 8) := Lib.hid (fun h => by unfold lineB at h; simp only [Bool.and_eq_true, decide_eq_true_eq] at h; exact h.1)
  have HH8 : Hid (hvB q.res q.holds = true → q.holds.length ≤ 8) := Lib.hid hvB_len
  have HD : Hid ((resB q.res && hvB q.res q.holds && (decide (q.convs.length ≤ 8) && cvGo q 0 q.convs) && (lineB q.waits && decide (q.holds.length + q.waits.length ≤ 8) && wtGo q q.waits) && decide (0 ≤ q.gen) && decide (q.gen ≤ 1073741824)) = soundB q) := Lib.hid rfl
  clear hq
  generalize soundB q = R at *
  obtain ⟨⟨nm, kd, un, h⟩, hs, cs, ws, gen⟩ := q
  unfold Qu.val Rs.val at *
  dsimp only at H1 H2 HL HG HFI HFT HCV HQF HLB HH8 HD ⊢
  generalize resB ⟨nm, kd, un, h⟩ = r1 at *
  obtain ⟨r2, hr2⟩ : ∃ x, hvB ⟨nm, kd, un, h⟩ hs = x := ⟨_, rfl⟩
  obtain ⟨l1, hl1⟩ : ∃ x, lineB ws = x := ⟨_, rfl⟩
  rw [hr2] at H2 HH8 HD
  rw [hl1] at HL HLB HD
  clear hr2 hl1
  have HBX : Hid (BoxS w nm kd un h A1 hs.length c1 A2 cs.length c2 A3 ws.length c3 gen ((w.alloc (.cells #[.string nm, .int .i64 kd, .int .i64 un, .int .i64 h, .slice A1 hs.length c1, .slice A2 cs.length c2, .slice A3 ws.length c3, .int .i64 gen] 48)).alloc (.cells #[.string nm, .int .i64 kd, .int .i64 un, .int .i64 h] 44))) := Lib.hid ⟨BoxQ.made.next (Below.al (Below.refl _ _) _), by have := Blk.new (w.alloc (.cells #[.string nm, .int .i64 kd, .int .i64 un, .int .i64 h, .slice A1 hs.length c1, .slice A2 cs.length c2, .slice A3 ws.length c3, .int .i64 gen] 48)) 44 #[.string nm, .int .i64 kd, .int .i64 un, .int .i64 h]; simpa using this⟩
  by_cases hP : r1 = true ∧ r2 = true ∧ cs.length ≤ 8 ∧ l1 = true ∧ hs.length + ws.length ≤ 8 ∧ 0 ≤ gen ∧ gen ≤ 1073741824
  · obtain ⟨rfl, rfl, hc8, rfl, hs8, hg0, hg1⟩ := hP
    have hwrap : IntKind.i64.wrap ((hs.length : Int) + (ws.length : Int)) = (hs.length : Int) + (ws.length : Int) := IntWalk.i64_in _ (by omega)
    have i1 : ¬ (8 : Int) < (cs.length : Int) := by omega
    have i2 : ¬ (8 : Int) < (hs.length : Int) + (ws.length : Int) := by omega
    have i3 : ¬ gen < 0 := by omega
    have i4 : ¬ (1073741824 : Int) < gen := by omega
    have HQ : Hid ((cvGo ⟨⟨nm, kd, un, h⟩, hs, cs, ws, gen⟩ 0 (cs.drop 0) && wtGo ⟨⟨nm, kd, un, h⟩, hs, cs, ws, gen⟩ ws) = R) := Lib.hid (by rw [← HD.out, decide_eq_true hc8, decide_eq_true hs8, decide_eq_true hg0, decide_eq_true hg1]; simp)
    go_enter Tryz.func141, Tryz.ntmps141
    go_wp2_with fail
    refine (H1.out _).mono ?_
    rintro e w1 ⟨rfl, hb1⟩
    have HX1 := Lib.hid (HBX.out.next hb1)
    have HB1 : Hid (Below w.heap.size w w1) := Lib.hid HX1.out.q.below
    obtain ⟨q0, q1, q2, q3, q4, q5, q6, q7, ql⟩ := HX1.out.q.cel
    have e0 := HX1.out.r.cellx 0 (v := .string nm) rfl
    have e1 := HX1.out.r.cellx 1 (v := .int .i64 kd) rfl
    have e2 := HX1.out.r.cellx 2 (v := .int .i64 un) rfl
    have e3 := HX1.out.r.cellx 3 (v := .int .i64 h) rfl
    have el := HX1.out.r.lt
    clear hb1
    go_wp2_with fail
    refine (H2.out _ HB1.out).mono ?_
    rintro e w2 ⟨rfl, hb2⟩
    have HX2 := Lib.hid (HX1.out.next hb2)
    have HB2 : Hid (Below w.heap.size w w2) := Lib.hid HX2.out.q.below
    clear hb2 q0 q1 q2 q3 q4 q5 q6 q7 ql e0 e1 e2 e3 el
    obtain ⟨q0, q1, q2, q3, q4, q5, q6, q7, ql⟩ := HX2.out.q.cel
    go_wp2_with fail
    refine (HL.out _ HB2.out).mono ?_
    rintro e w3 ⟨rfl, hb3⟩
    have HX3 := Lib.hid (HX2.out.next hb3)
    clear hb3 q0 q1 q2 q3 q4 q5 q6 q7 ql
    obtain ⟨q0, q1, q2, q3, q4, q5, q6, q7, ql⟩ := HX3.out.q.cel
    go_wp2_with fail
    clear q0 q1 q2 q3 q4 q5 q6 q7 ql
    go_loopg [4] cs.length (fun m0 v4 wq => ∃ k : Nat, v4 = .int .i64 (k : Int) ∧ k ≤ cs.length ∧ cs.length ≤ k + m0 ∧ Hid ((cvGo ⟨⟨nm, kd, un, h⟩, hs, cs, ws, gen⟩ k (cs.drop k) && wtGo ⟨⟨nm, kd, un, h⟩, hs, cs, ws, gen⟩ ws) = R) ∧ Hid (BoxS w nm kd un h A1 hs.length c1 A2 cs.length c2 A3 ws.length c3 gen wq))
    case atStart => exact ⟨0, rfl, Nat.zero_le _, by omega, HQ, HX3⟩
    case round =>
      obtain ⟨k, rfl, hk, hkm, HI, HX⟩ := hrel
      have HB : Hid (Below w.heap.size w wr) := Lib.hid HX.out.q.below
      obtain ⟨q0, q1, q2, q3, q4, q5, q6, q7, ql⟩ := HX.out.q.cel
      have e0 := HX.out.r.cellx 0 (v := .string nm) rfl
      have e1 := HX.out.r.cellx 1 (v := .int .i64 kd) rfl
      have e2 := HX.out.r.cellx 2 (v := .int .i64 un) rfl
      have e3 := HX.out.r.cellx 3 (v := .int .i64 h) rfl
      have el := HX.out.r.lt
      by_cases hlt : k < cs.length
      · obtain ⟨⟨⟨a, b, c⟩, ⟨m, u⟩, pr, pa⟩, hx⟩ : ∃ x, cs[k] = x := ⟨_, rfl⟩
        obtain ⟨g, off, rfl, hbl, d0, d1, d2, d3, d4, d5, d6⟩ := wt_cells (HQF.out.r2.below (B'' := w.heap.size) HB.out HQF.out.hB HQF.out.hB) hlt hx
        have hbl2 : g < wr.heap.size := Nat.lt_of_lt_of_le hbl HB.out.size
        have hlti : (k : Int) < (cs.length : Int) := by omega
        have HS0 : Hid (((cvOK ⟨⟨nm, kd, un, h⟩, hs, cs, ws, gen⟩ k ⟨⟨a, b, c⟩, ⟨m, u⟩, pr, pa⟩ && cvGo ⟨⟨nm, kd, un, h⟩, hs, cs, ws, gen⟩ (k + 1) (cs.drop (k + 1))) && wtGo ⟨⟨nm, kd, un, h⟩, hs, cs, ws, gen⟩ ws) = R) := Lib.hid (by have h := HI.out; rw [drop_step hlt hx, cvGo_cons] at h; exact h)
        obtain ⟨⟨gm, gu⟩, hg⟩ : ∃ y, getH hs ⟨a, b, c⟩ = y := ⟨_, rfl⟩
        have HS : Hid ((decide (findW cs ⟨a, b, c⟩ = (k : Int)) && !zeroB ⟨gm, gu⟩ && fitsB ⟨nm, kd, un, h⟩ ⟨m, u⟩ && covB ⟨nm, kd, un, h⟩ ⟨m, u⟩ ⟨gm, gu⟩ && !decide ((⟨m, u⟩ : Am) = ⟨gm, gu⟩) && decide (pr = 0) && decide (pa = 0) && (cvGo ⟨⟨nm, kd, un, h⟩, hs, cs, ws, gen⟩ (k + 1) (cs.drop (k + 1)) && wtGo ⟨⟨nm, kd, un, h⟩, hs, cs, ws, gen⟩ ws)) = R) := Lib.hid (by have h1 := HS0.out; unfold cvOK at h1; rw [hg] at h1; rw [Bool.and_assoc] at h1; exact h1)
        have HG1 := Lib.hid (fun W hb => HG.out a b c W hb)
        rw [hg] at HG1
        unfold Am.val at HG1
        have HF1 := Lib.hid (fun W hb => HFI.out a b c W hb)
        have HT1 := Lib.hid (fun W => HFT.out m u W)
        have HC1 := Lib.hid (fun W => HCV.out m u gm gu W)
        have HZ1 := Lib.hid (fun W => HZ.out gm gu W)
        obtain ⟨_, k1, k2⟩ := cmpAm m u gm gu
        generalize findW cs ⟨a, b, c⟩ = n at *
        generalize zeroB ⟨gm, gu⟩ = z1 at *
        generalize fitsB ⟨nm, kd, un, h⟩ ⟨m, u⟩ = f1 at *
        generalize covB ⟨nm, kd, un, h⟩ ⟨m, u⟩ ⟨gm, gu⟩ = v1 at *
        generalize decide ((⟨m, u⟩ : Am) = ⟨gm, gu⟩) = x1 at *
        clear hg hx hbl HS0
        go_wp2_with fail
        refine (HG1.out _ (by (repeat (first | (with_reducible exact Below.refl _ _) | (with_reducible assumption) | (with_reducible refine below_drewN ?_ _) | (with_reducible refine Below.drew ?_) | (with_reducible refine Below.al ?_ _) | (with_reducible refine Below.st ?_ (by simp; try omega)) | (with_reducible refine Below.tr ?_ (Hid.out (by assumption))) | (with_reducible exact Hid.out (by assumption)))))).mono ?_
        rintro e w2 ⟨rfl, hb2⟩
        have HX2 := Lib.hid (HX.out.next (Below.tr (Below.al (Below.refl _ _) (.cells #[.int .i64 a, .int .i64 b, .int .i64 c, .int .i64 m, .int .i64 u, .int .i64 pr, .int .i64 pa] 87)) hb2))
        have HB2 : Hid (Below w.heap.size w w2) := Lib.hid HX2.out.q.below
        have hs_2 := hb2.size
        (try simp at hs_2)
        obtain ⟨hc_2, hf_2⟩ := bcell hb2
        have hz_2w : w.heap.size < w2.heap.size := by omega
        have hz_2w1 : w.heap.size + 1 < w2.heap.size := by omega
        have hz_2r : wr.heap.size < w2.heap.size := by omega
        clear hb2
        go_wp2_with fail
        repeat' (first
          | (go_at_call 108; refine (HZ1.out _).mono ?_; rintro e wa1 ⟨rfl, hb_wa1⟩; obtain ⟨hc_wa1, hf_wa1⟩ := bcell hb_wa1; have hs_wa1 := hb_wa1.size; (try simp at hs_wa1); have hz_wa1_w_0 : w.heap.size < wa1.heap.size := (by omega); have hz_wa1_w_1 : w.heap.size + 1 < wa1.heap.size := (by omega); have hz_wa1_wr_0 : wr.heap.size < wa1.heap.size := (by omega); have hz_wa1_w2_0 : w2.heap.size < wa1.heap.size := (by omega); clear hs_wa1; have HB_wa1 := Lib.hid hb_wa1; clear hb_wa1; go_wp2_with fail)
          | (go_at_call 104; refine (HT1.out _).mono ?_; rintro e wa2 ⟨rfl, hb_wa2⟩; obtain ⟨hc_wa2, hf_wa2⟩ := bcell hb_wa2; have hs_wa2 := hb_wa2.size; (try simp at hs_wa2); have hz_wa2_w_0 : w.heap.size < wa2.heap.size := (by omega); have hz_wa2_w_1 : w.heap.size + 1 < wa2.heap.size := (by omega); have hz_wa2_wr_0 : wr.heap.size < wa2.heap.size := (by omega); have hz_wa2_w2_0 : w2.heap.size < wa2.heap.size := (by omega); clear hs_wa2; have HB_wa2 := Lib.hid hb_wa2; clear hb_wa2; go_wp2_with fail)
          | (go_at_call 171; refine (HC1.out _).mono ?_; rintro e wa3 ⟨rfl, hb_wa3⟩; obtain ⟨hc_wa3, hf_wa3⟩ := bcell hb_wa3; have hs_wa3 := hb_wa3.size; (try simp at hs_wa3); have hz_wa3_w_0 : w.heap.size < wa3.heap.size := (by omega); have hz_wa3_w_1 : w.heap.size + 1 < wa3.heap.size := (by omega); have hz_wa3_wr_0 : wr.heap.size < wa3.heap.size := (by omega); have hz_wa3_w2_0 : w2.heap.size < wa3.heap.size := (by omega); clear hs_wa3; have HB_wa3 := Lib.hid hb_wa3; clear hb_wa3; go_wp2_with fail)
          | (go_at_call 102; refine (HF1.out _ (by (repeat (first | (with_reducible exact Below.refl _ _) | (with_reducible assumption) | (with_reducible refine below_drewN ?_ _) | (with_reducible refine Below.drew ?_) | (with_reducible refine Below.al ?_ _) | (with_reducible refine Below.st ?_ (by simp; try omega)) | (with_reducible refine Below.tr ?_ (Hid.out (by assumption))) | (with_reducible exact Hid.out (by assumption)))))).mono ?_; rintro e wa4 ⟨rfl, hb_wa4⟩; obtain ⟨hc_wa4, hf_wa4⟩ := bcell hb_wa4; have hs_wa4 := hb_wa4.size; (try simp at hs_wa4); have hz_wa4_w_0 : w.heap.size < wa4.heap.size := (by omega); have hz_wa4_w_1 : w.heap.size + 1 < wa4.heap.size := (by omega); have hz_wa4_wr_0 : wr.heap.size < wa4.heap.size := (by omega); have hz_wa4_w2_0 : w2.heap.size < wa4.heap.size := (by omega); clear hs_wa4; have HB_wa4 := Lib.hid hb_wa4; clear hb_wa4; go_wp2_with fail)
          | (go_ret; exact ⟨ret_bool (by (rw [← HS.out]; first | (simp [*]; done) | (simp [*]; omega) | (simp [*]; intros; omega) | (rename_i h9; simp at h9; simp [*]; done))), by (repeat (first | (with_reducible exact Below.refl _ _) | (with_reducible assumption) | (with_reducible refine below_drewN ?_ _) | (with_reducible refine Below.drew ?_) | (with_reducible refine Below.al ?_ _) | (with_reducible refine Below.st ?_ (by simp; try omega)) | (with_reducible refine Below.tr ?_ (Hid.out (by assumption))) | (with_reducible exact Hid.out (by assumption))))⟩)
          | (go_roundg (gk - 1); (case measure => omega); (case rel => exact ⟨k + 1, by go_num, by omega, by omega, Lib.hid (by (rw [← HS.out]; first | (simp [*]; done) | (simp [*]; omega) | (simp [*]; intros; omega) | (rename_i h9; simp at h9; simp [*]; done))), Lib.hid (HX2.out.next (by (repeat (first | (with_reducible exact Below.refl _ _) | (with_reducible assumption) | (with_reducible refine below_drewN ?_ _) | (with_reducible refine Below.drew ?_) | (with_reducible refine Below.al ?_ _) | (with_reducible refine Below.st ?_ (by simp; try omega)) | (with_reducible refine Below.tr ?_ (Hid.out (by assumption))) | (with_reducible exact Hid.out (by assumption))))))⟩)))
      · have HW : Hid (wtGo ⟨⟨nm, kd, un, h⟩, hs, cs, ws, gen⟩ (ws.drop 0) = R) := Lib.hid (by have h := HI.out; rw [drop_end hlt] at h; exact h)
        have hlti : ¬ (k : Int) < (cs.length : Int) := by omega
        go_wp2_with fail
        clear q0 q1 q2 q3 q4 q5 q6 q7 ql e0 e1 e2 e3 el
        obtain ⟨G, hG⟩ : ∃ G, G = gk := ⟨_, rfl⟩
        subst hG
        obtain ⟨wo, hwo⟩ : ∃ x, x = wr := ⟨_, rfl⟩
        subst hwo
        go_loopg [7] ws.length (fun m0 v7 wq => ∃ k : Nat, v7 = .int .i64 (k : Int) ∧ k ≤ ws.length ∧ ws.length ≤ k + m0 ∧ Hid (wtGo ⟨⟨nm, kd, un, h⟩, hs, cs, ws, gen⟩ (ws.drop k) = R) ∧ Hid (BoxS w nm kd un h A1 hs.length c1 A2 cs.length c2 A3 ws.length c3 gen wq))
        case atStart => exact ⟨0, rfl, Nat.zero_le _, by omega, HW, HX⟩
        case round =>
          obtain ⟨k', rfl, hk', hkm', HI', HX'⟩ := hrel
          have HB' : Hid (Below w.heap.size w wr) := Lib.hid HX'.out.q.below
          obtain ⟨q0, q1, q2, q3, q4, q5, q6, q7, ql⟩ := HX'.out.q.cel
          have e0 := HX'.out.r.cellx 0 (v := .string nm) rfl
          have e1 := HX'.out.r.cellx 1 (v := .int .i64 kd) rfl
          have e2 := HX'.out.r.cellx 2 (v := .int .i64 un) rfl
          have e3 := HX'.out.r.cellx 3 (v := .int .i64 h) rfl
          by_cases hlt' : k' < ws.length
          · obtain ⟨⟨⟨a, b, c⟩, ⟨m, u⟩, pr, pa⟩, hx⟩ : ∃ x, ws[k'] = x := ⟨_, rfl⟩
            obtain ⟨g, off, rfl, hbl, d0, d1, d2, d3, d4, d5, d6⟩ := wt_cells (HQF.out.r3.below (B'' := w.heap.size) HB'.out HQF.out.hB HQF.out.hB) hlt' hx
            have hbl2 : g < wr.heap.size := Nat.lt_of_lt_of_le hbl HB'.out.size
            have hlti' : (k' : Int) < (ws.length : Int) := by omega
            obtain ⟨⟨gm, gu⟩, hg⟩ : ∃ y, getH hs ⟨a, b, c⟩ = y := ⟨_, rfl⟩
            have HS : Hid ((fitsB ⟨nm, kd, un, h⟩ ⟨m, u⟩ && zeroB ⟨gm, gu⟩ && wtGo ⟨⟨nm, kd, un, h⟩, hs, cs, ws, gen⟩ (ws.drop (k' + 1))) = R) := Lib.hid (by have h1 := HI'.out; rw [drop_step hlt' hx, wtGo_cons] at h1; dsimp only at h1; rw [hg] at h1; exact h1)
            have HG1 : Hid (∀ n : Ext wr, Calls Tryz.prog 170 #[.slice A1 hs.length c1, .agg #[.int .i64 a, .int .i64 b, .int .i64 c]] n.w (Ret n.w (.agg #[.int .i64 gm, .int .i64 gu]))) := Lib.hid (fun n => by have := HG.out a b c n.w (Below.trans HB'.out (n.below.mono HB'.out.size)); rw [hg] at this; exact this)
            have HT1 := Lib.hid (fun W => HFT.out m u W)
            have HZ1 := Lib.hid (fun W => HZ.out gm gu W)
            generalize zeroB ⟨gm, gu⟩ = z1 at *
            generalize fitsB ⟨nm, kd, un, h⟩ ⟨m, u⟩ = f1 at *
            have g0 := Ext.cell q4
            have g1 := Ext.cell q6
            have g2 := Ext.cell e0
            have g3 := Ext.cell e1
            have g4 := Ext.cell e2
            have g5 := Ext.cell e3
            have g6 := Ext.cell d0
            have g7 := Ext.cell d1
            have g8 := Ext.cell d2
            have g9 := Ext.cell d3
            have g10 := Ext.cell d4
            clear hg hx hbl
            cases f1 <;> cases z1
            all_goals
              go_wp2_with fail
              clear q0 q1 q2 q3 q4 q5 q6 q7 e0 e1 e2 e3 d0 d1 d2 d3 d4 d5 d6
              refine wp_region_grow (by kernel_rfl) (by kernel_rfl) ?_; (repeat (go_big_quiet_step ((first | (go_at_call 104; exact Ext.call _ (HT1.out _)) | (go_at_call 170; exact Ext.call _ (HG1.out _)) | (go_at_call 108; exact Ext.call _ (HZ1.out _)))))); refine wpQuiet_nil ?_; rintro w2 ⟨n2, rfl⟩; have hb2 := n2.below; generalize n2.w = w2 at hb2 ⊢; clear n2
              have HB3 := Lib.hid hb2
              clear hb2
              go_wp2_with fail
              first
                | (go_ret; exact ⟨ret_bool (show false = R from HS.out), by (repeat (first | (with_reducible exact Below.refl _ _) | (with_reducible assumption) | (with_reducible refine below_drewN ?_ _) | (with_reducible refine Below.drew ?_) | (with_reducible refine Below.al ?_ _) | (with_reducible refine Below.st ?_ (by simp; try omega)) | (with_reducible refine Below.tr ?_ (Hid.out (by assumption))) | (with_reducible exact Hid.out (by assumption))))⟩)
                | (go_roundg (gk - 1); (case measure => omega); (case rel => exact ⟨k' + 1, by go_num, by omega, by omega, Lib.hid HS.out, Lib.hid (HX'.out.next HB3.out)⟩))
          · have HE : Hid (true = R) := Lib.hid (by have h := HI'.out; rw [drop_end hlt'] at h; exact h)
            have hlti' : ¬ (k' : Int) < (ws.length : Int) := by omega
            go_wp2_with fail
            go_ret
            exact ⟨ret_bool HE.out, by (repeat (first | (with_reducible exact Below.refl _ _) | (with_reducible assumption) | (with_reducible refine below_drewN ?_ _) | (with_reducible refine Below.drew ?_) | (with_reducible refine Below.al ?_ _) | (with_reducible refine Below.st ?_ (by simp; try omega)) | (with_reducible refine Below.tr ?_ (Hid.out (by assumption))) | (with_reducible exact Hid.out (by assumption))))⟩
  · have HQ : Hid (R = false) := Lib.hid (by
      rw [← HD.out]
      rw [Bool.eq_false_iff]
      intro hh
      simp only [Bool.and_eq_true, decide_eq_true_eq] at hh
      exact hP ⟨hh.1.1.1.1.1, hh.1.1.1.1.2, hh.1.1.1.2.1, hh.1.1.2.1.1, hh.1.1.2.1.2, hh.1.2, hh.2⟩)
    have HN := Lib.hid hP
    clear hP HD
    by_cases hrl : r2 = true ∧ l1 = true
    · obtain ⟨rfl, rfl⟩ := hrl
      have h1 := HH8.out rfl
      have h2 := HLB.out rfl
      have hwrap : IntKind.i64.wrap ((hs.length : Int) + (ws.length : Int)) = (hs.length : Int) + (ws.length : Int) := IntWalk.i64_in _ (by omega)
      go_enter Tryz.func141, Tryz.ntmps141
      go_wp2_with fail
      repeat' (first
        | (go_at_call 168; refine (H1.out _).mono ?_; rintro e wa1 ⟨rfl, hb_wa1⟩; obtain ⟨hc_wa1, hf_wa1⟩ := bcell hb_wa1; have hs_wa1 := hb_wa1.size; (try simp at hs_wa1); have hz_wa1_w_0 : w.heap.size < wa1.heap.size := (by omega); have hz_wa1_w_1 : w.heap.size + 1 < wa1.heap.size := (by omega); clear hs_wa1; have HB_wa1 := Lib.hid hb_wa1; clear hb_wa1; go_wp2_with fail)
        | (go_at_call 103; refine (H2.out _ (by (repeat (first | (with_reducible exact Below.refl _ _) | (with_reducible assumption) | (with_reducible refine below_drewN ?_ _) | (with_reducible refine Below.drew ?_) | (with_reducible refine Below.al ?_ _) | (with_reducible refine Below.st ?_ (by simp; try omega)) | (with_reducible refine Below.tr ?_ (Hid.out (by assumption))) | (with_reducible exact Hid.out (by assumption)))))).mono ?_; rintro e wa2 ⟨rfl, hb_wa2⟩; obtain ⟨hc_wa2, hf_wa2⟩ := bcell hb_wa2; have hs_wa2 := hb_wa2.size; (try simp at hs_wa2); have hz_wa2_w_0 : w.heap.size < wa2.heap.size := (by omega); have hz_wa2_w_1 : w.heap.size + 1 < wa2.heap.size := (by omega); clear hs_wa2; have HB_wa2 := Lib.hid hb_wa2; clear hb_wa2; go_wp2_with fail)
        | (go_at_call 169; refine (HL.out _ (by (repeat (first | (with_reducible exact Below.refl _ _) | (with_reducible assumption) | (with_reducible refine below_drewN ?_ _) | (with_reducible refine Below.drew ?_) | (with_reducible refine Below.al ?_ _) | (with_reducible refine Below.st ?_ (by simp; try omega)) | (with_reducible refine Below.tr ?_ (Hid.out (by assumption))) | (with_reducible exact Hid.out (by assumption)))))).mono ?_; rintro e wa3 ⟨rfl, hb_wa3⟩; obtain ⟨hc_wa3, hf_wa3⟩ := bcell hb_wa3; have hs_wa3 := hb_wa3.size; (try simp at hs_wa3); have hz_wa3_w_0 : w.heap.size < wa3.heap.size := (by omega); have hz_wa3_w_1 : w.heap.size + 1 < wa3.heap.size := (by omega); clear hs_wa3; have HB_wa3 := Lib.hid hb_wa3; clear hb_wa3; go_wp2_with fail)
        | (go_ret; exact ⟨ret_bool HQ.out.symm, by (repeat (first | (with_reducible exact Below.refl _ _) | (with_reducible assumption) | (with_reducible refine below_drewN ?_ _) | (with_reducible refine Below.drew ?_) | (with_reducible refine Below.al ?_ _) | (with_reducible refine Below.st ?_ (by simp; try omega)) | (with_reducible refine Below.tr ?_ (Hid.out (by assumption))) | (with_reducible exact Hid.out (by assumption))))⟩)
        | (exact absurd ⟨by assumption, by trivial, by omega, by trivial, by omega, by omega, by omega⟩ HN.out))
    · have HRL := Lib.hid hrl
      clear hrl
      go_enter Tryz.func141, Tryz.ntmps141
      go_wp2_with fail
      repeat' (first
        | (go_at_call 168; refine (H1.out _).mono ?_; rintro e wa1 ⟨rfl, hb_wa1⟩; obtain ⟨hc_wa1, hf_wa1⟩ := bcell hb_wa1; have hs_wa1 := hb_wa1.size; (try simp at hs_wa1); have hz_wa1_w_0 : w.heap.size < wa1.heap.size := (by omega); have hz_wa1_w_1 : w.heap.size + 1 < wa1.heap.size := (by omega); clear hs_wa1; have HB_wa1 := Lib.hid hb_wa1; clear hb_wa1; go_wp2_with fail)
        | (go_at_call 103; refine (H2.out _ (by (repeat (first | (with_reducible exact Below.refl _ _) | (with_reducible assumption) | (with_reducible refine below_drewN ?_ _) | (with_reducible refine Below.drew ?_) | (with_reducible refine Below.al ?_ _) | (with_reducible refine Below.st ?_ (by simp; try omega)) | (with_reducible refine Below.tr ?_ (Hid.out (by assumption))) | (with_reducible exact Hid.out (by assumption)))))).mono ?_; rintro e wa2 ⟨rfl, hb_wa2⟩; obtain ⟨hc_wa2, hf_wa2⟩ := bcell hb_wa2; have hs_wa2 := hb_wa2.size; (try simp at hs_wa2); have hz_wa2_w_0 : w.heap.size < wa2.heap.size := (by omega); have hz_wa2_w_1 : w.heap.size + 1 < wa2.heap.size := (by omega); clear hs_wa2; have HB_wa2 := Lib.hid hb_wa2; clear hb_wa2; go_wp2_with fail)
        | (go_at_call 169; refine (HL.out _ (by (repeat (first | (with_reducible exact Below.refl _ _) | (with_reducible assumption) | (with_reducible refine below_drewN ?_ _) | (with_reducible refine Below.drew ?_) | (with_reducible refine Below.al ?_ _) | (with_reducible refine Below.st ?_ (by simp; try omega)) | (with_reducible refine Below.tr ?_ (Hid.out (by assumption))) | (with_reducible exact Hid.out (by assumption)))))).mono ?_; rintro e wa3 ⟨rfl, hb_wa3⟩; obtain ⟨hc_wa3, hf_wa3⟩ := bcell hb_wa3; have hs_wa3 := hb_wa3.size; (try simp at hs_wa3); have hz_wa3_w_0 : w.heap.size < wa3.heap.size := (by omega); have hz_wa3_w_1 : w.heap.size + 1 < wa3.heap.size := (by omega); clear hs_wa3; have HB_wa3 := Lib.hid hb_wa3; clear hb_wa3; go_wp2_with fail)
        | (go_ret; exact ⟨ret_bool HQ.out.symm, by (repeat (first | (with_reducible exact Below.refl _ _) | (with_reducible assumption) | (with_reducible refine below_drewN ?_ _) | (with_reducible refine Below.drew ?_) | (with_reducible refine Below.al ?_ _) | (with_reducible refine Below.st ?_ (by simp; try omega)) | (with_reducible refine Below.tr ?_ (Hid.out (by assumption))) | (with_reducible exact Hid.out (by assumption))))⟩)
        | (exact absurd ⟨by assumption, by assumption⟩ HRL.out))
end Go.Proofs.YtogeihdfmnohnaaGreatDoor
