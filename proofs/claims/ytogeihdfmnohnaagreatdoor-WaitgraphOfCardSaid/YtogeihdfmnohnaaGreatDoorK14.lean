/- Part 14 of 49 of the proof of waitgraphOf_holds (no condition). -/
import Derived.Test.YtogeihdfmnohnaaGreatDoorK13
import Derived.Test.YtogeihdfmnohnaaGreatDoorK09
import Derived.Lib.AppendZerosOnto
set_option linter.unusedVariables false
set_option linter.unusedSimpArgs false
namespace Go.Proofs.YtogeihdfmnohnaaGreatDoor
open Go.RowKit
theorem soundB_hold {q : Qu} (h : soundB q = true) : q.holds.length ≤ 8 := by
  unfold soundB at h
  simp only [Bool.and_eq_true] at h
  exact hvB_len h.1.1.1.1.2
set_option maxHeartbeats 3200000 in
theorem Settled_any (q : Qu) (A1 A2 A3 : Option Addr) (c1 c2 c3 : Nat) (w : World) (B : Nat) (hT : Tog w) (hq : QF w B A1 A2 A3 q) :
    Calls Tryz.prog 73 #[q.val A1 A2 A3 c1 c2 c3] w (Ret w (.bool (settledB q))) := by
  have H1 := Lib.hid (fun W (hb : Below w.heap.size w W) => Sound_any q A1 A2 A3 c1 c2 c3 W B (hT.below hb) (hq.below hb))
  have H2 := Lib.hid (fun W (hb : Below w.heap.size w W) => head_any q A1 A2 A3 c1 c2 c3 W B (hq.below hb))
  have H3 := Lib.hid (fun x y z m u W (hb : Below w.heap.size w W) => Room_any q.res A1 B c1 q.holds x y z m u W (hT.below hb) hq.m1 (Nat.le_trans hq.hB hb.size) (hq.r1.below hb hq.hB (Nat.le_refl _)))
  have HS : Hid ((soundB q && match headQ q with | none => true | some x => !roomB q.res q.holds x.proc x.am) = settledB q) := Lib.hid rfl
  clear hT hq
  generalize settledB q = R at *
  generalize soundB q = s1 at *
  cases hh : headQ q with
  | none =>
    rw [hh] at H2 HS
    clear hh
    obtain ⟨⟨nm, kd, un, h⟩, hs, cs, ws, gen⟩ := q
    unfold Qu.val Rs.val headV at *
    dsimp only at H1 H2 H3 HS ⊢
    go_enter Tryz.func73, Tryz.ntmps73
    go_wp2_with fail
    repeat' (first
      | (go_at_call 111; refine (H1.out _ (by (repeat (first | (with_reducible exact Below.refl _ _) | (with_reducible assumption) | (with_reducible refine below_drewN ?_ _) | (with_reducible refine Below.drew ?_) | (with_reducible refine Below.al ?_ _) | (with_reducible refine Below.st ?_ (by simp; try omega)) | (with_reducible refine Below.tr ?_ (Hid.out (by assumption))) | (with_reducible exact Hid.out (by assumption)))))).mono ?_; rintro e wa1 ⟨rfl, hb_wa1⟩; obtain ⟨hc_wa1, hf_wa1⟩ := bcell hb_wa1; have hs_wa1 := hb_wa1.size; (try simp at hs_wa1); have hz_wa1_w_0 : w.heap.size < wa1.heap.size := (by omega); clear hs_wa1; have HB_wa1 := Lib.hid hb_wa1; clear hb_wa1; go_wp2_with fail)
      | (go_at_call 112; refine (H2.out _ (by (repeat (first | (with_reducible exact Below.refl _ _) | (with_reducible assumption) | (with_reducible refine below_drewN ?_ _) | (with_reducible refine Below.drew ?_) | (with_reducible refine Below.al ?_ _) | (with_reducible refine Below.st ?_ (by simp; try omega)) | (with_reducible refine Below.tr ?_ (Hid.out (by assumption))) | (with_reducible exact Hid.out (by assumption)))))).mono ?_; rintro e wa2 ⟨rfl, hb_wa2⟩; obtain ⟨hc_wa2, hf_wa2⟩ := bcell hb_wa2; have hs_wa2 := hb_wa2.size; (try simp at hs_wa2); have hz_wa2_w_0 : w.heap.size < wa2.heap.size := (by omega); clear hs_wa2; have HB_wa2 := Lib.hid hb_wa2; clear hb_wa2; go_wp2_with fail)
      | (go_ret; exact ⟨ret_bool (by (rw [← HS.out]; first | (simp [*]; done) | (simp [*]; omega) | (simp [*]; intros; omega) | (rename_i h9; simp at h9; simp [*]; done))), by (repeat (first | (with_reducible exact Below.refl _ _) | (with_reducible assumption) | (with_reducible refine below_drewN ?_ _) | (with_reducible refine Below.drew ?_) | (with_reducible refine Below.al ?_ _) | (with_reducible refine Below.st ?_ (by simp; try omega)) | (with_reducible refine Below.tr ?_ (Hid.out (by assumption))) | (with_reducible exact Hid.out (by assumption))))⟩))
  | some x =>
    obtain ⟨⟨a, b, c⟩, ⟨m, u⟩, pr, pa⟩ := x
    have H4 := Lib.hid (fun W hb => H3.out a b c m u W hb)
    rw [hh] at H2 HS
    dsimp only at HS
    obtain ⟨r1, hr1⟩ : ∃ r, roomB q.res q.holds ⟨a, b, c⟩ ⟨m, u⟩ = r := ⟨_, rfl⟩
    rw [hr1] at H4 HS
    clear hh hr1
    obtain ⟨⟨nm, kd, un, h⟩, hs, cs, ws, gen⟩ := q
    unfold Qu.val Rs.val headV Wt.val at *
    dsimp only at H1 H2 H4 HS ⊢
    go_enter Tryz.func73, Tryz.ntmps73
    go_wp2_with fail
    repeat' (first
      | (go_at_call 111; refine (H1.out _ (by (repeat (first | (with_reducible exact Below.refl _ _) | (with_reducible assumption) | (with_reducible refine below_drewN ?_ _) | (with_reducible refine Below.drew ?_) | (with_reducible refine Below.al ?_ _) | (with_reducible refine Below.st ?_ (by simp; try omega)) | (with_reducible refine Below.tr ?_ (Hid.out (by assumption))) | (with_reducible exact Hid.out (by assumption)))))).mono ?_; rintro e wa1 ⟨rfl, hb_wa1⟩; obtain ⟨hc_wa1, hf_wa1⟩ := bcell hb_wa1; have hs_wa1 := hb_wa1.size; (try simp at hs_wa1); have hz_wa1_w_0 : w.heap.size < wa1.heap.size := (by omega); clear hs_wa1; have HB_wa1 := Lib.hid hb_wa1; clear hb_wa1; go_wp2_with fail)
      | (go_at_call 112; refine (H2.out _ (by (repeat (first | (with_reducible exact Below.refl _ _) | (with_reducible assumption) | (with_reducible refine below_drewN ?_ _) | (with_reducible refine Below.drew ?_) | (with_reducible refine Below.al ?_ _) | (with_reducible refine Below.st ?_ (by simp; try omega)) | (with_reducible refine Below.tr ?_ (Hid.out (by assumption))) | (with_reducible exact Hid.out (by assumption)))))).mono ?_; rintro e wa2 ⟨rfl, hb_wa2⟩; obtain ⟨hc_wa2, hf_wa2⟩ := bcell hb_wa2; have hs_wa2 := hb_wa2.size; (try simp at hs_wa2); have hz_wa2_w_0 : w.heap.size < wa2.heap.size := (by omega); clear hs_wa2; have HB_wa2 := Lib.hid hb_wa2; clear hb_wa2; go_wp2_with fail)
      | (go_at_call 91; refine (H4.out _ (by (repeat (first | (with_reducible exact Below.refl _ _) | (with_reducible assumption) | (with_reducible refine below_drewN ?_ _) | (with_reducible refine Below.drew ?_) | (with_reducible refine Below.al ?_ _) | (with_reducible refine Below.st ?_ (by simp; try omega)) | (with_reducible refine Below.tr ?_ (Hid.out (by assumption))) | (with_reducible exact Hid.out (by assumption)))))).mono ?_; rintro e wa3 ⟨rfl, hb_wa3⟩; obtain ⟨hc_wa3, hf_wa3⟩ := bcell hb_wa3; have hs_wa3 := hb_wa3.size; (try simp at hs_wa3); have hz_wa3_w_0 : w.heap.size < wa3.heap.size := (by omega); clear hs_wa3; have HB_wa3 := Lib.hid hb_wa3; clear hb_wa3; go_wp2_with fail)
      | (go_ret; exact ⟨ret_bool (by (rw [← HS.out]; first | (simp [*]; done) | (simp [*]; omega) | (simp [*]; intros; omega) | (rename_i h9; simp at h9; simp [*]; done))), by (repeat (first | (with_reducible exact Below.refl _ _) | (with_reducible assumption) | (with_reducible refine below_drewN ?_ _) | (with_reducible refine Below.drew ?_) | (with_reducible refine Below.al ?_ _) | (with_reducible refine Below.st ?_ (by simp; try omega)) | (with_reducible refine Below.tr ?_ (Hid.out (by assumption))) | (with_reducible exact Hid.out (by assumption))))⟩))
set_option maxHeartbeats 1600000 in
theorem QValid_any (q : Qu) (A1 A2 A3 : Option Addr) (c1 c2 c3 : Nat) (w : World) (B : Nat) (hT : Tog w) (hq : QF w B A1 A2 A3 q) :
    Calls Tryz.prog 38 #[q.val A1 A2 A3 c1 c2 c3] w (Ret w (.bool (settledB q))) := by
  have H1 := Lib.hid (fun W (hb : Below w.heap.size w W) => Settled_any q A1 A2 A3 c1 c2 c3 W B (hT.below hb) (hq.below hb))
  clear hT hq
  generalize settledB q = R at *
  obtain ⟨⟨nm, kd, un, h⟩, hs, cs, ws, gen⟩ := q
  unfold Qu.val at *
  dsimp only at H1 ⊢
  go_enter Tryz.func38, Tryz.ntmps38
  go_wp2_with fail
  repeat' (first
    | (go_at_call 73; refine (H1.out _ (by (repeat (first | (with_reducible exact Below.refl _ _) | (with_reducible assumption) | (with_reducible refine below_drewN ?_ _) | (with_reducible refine Below.drew ?_) | (with_reducible refine Below.al ?_ _) | (with_reducible refine Below.st ?_ (by simp; try omega)) | (with_reducible refine Below.tr ?_ (Hid.out (by assumption))) | (with_reducible exact Hid.out (by assumption)))))).mono ?_; rintro e wa1 ⟨rfl, hb_wa1⟩; obtain ⟨hc_wa1, hf_wa1⟩ := bcell hb_wa1; have hs_wa1 := hb_wa1.size; (try simp at hs_wa1); have hz_wa1_w_0 : w.heap.size < wa1.heap.size := (by omega); clear hs_wa1; have HB_wa1 := Lib.hid hb_wa1; clear hb_wa1; go_wp2_with fail)
    | (go_ret; exact ⟨ret_bool rfl, by (repeat (first | (with_reducible exact Below.refl _ _) | (with_reducible assumption) | (with_reducible refine below_drewN ?_ _) | (with_reducible refine Below.drew ?_) | (with_reducible refine Below.al ?_ _) | (with_reducible refine Below.st ?_ (by simp; try omega)) | (with_reducible refine Below.tr ?_ (Hid.out (by assumption))) | (with_reducible exact Hid.out (by assumption))))⟩))
set_option maxHeartbeats 3200000 in
theorem rSettled_any (q : Qu) (A1 A2 A3 : Option Addr) (c1 c2 c3 : Nat) (w : World) (B : Nat) (hq : QF w B A1 A2 A3 q) :
    Calls Tryz.prog 142 #[q.val A1 A2 A3 c1 c2 c3] w (Ret w (.bool (settledB q))) := by
  have H1 := Lib.hid (fun W (hb : Below w.heap.size w W) => rSound_any q A1 A2 A3 c1 c2 c3 W B (hq.below hb))
  have H2 := Lib.hid (fun W (hb : Below w.heap.size w W) => rHead_any q A1 A2 A3 c1 c2 c3 W B (hq.below hb))
  have H3 := Lib.hid (fun x y z m u W (hb : Below w.heap.size w W) => rRoom_any q.res A1 B c1 q.holds x y z m u W hq.m1 (Nat.le_trans hq.hB hb.size) (hq.r1.below hb hq.hB (Nat.le_refl _)))
  have HS : Hid ((soundB q && match headQ q with | none => true | some x => !roomB q.res q.holds x.proc x.am) = settledB q) := Lib.hid rfl
  clear hq
  generalize settledB q = R at *
  generalize soundB q = s1 at *
  cases hh : headQ q with
  | none =>
    rw [hh] at H2 HS
    clear hh
    obtain ⟨⟨nm, kd, un, h⟩, hs, cs, ws, gen⟩ := q
    unfold Qu.val Rs.val headV at *
    dsimp only at H1 H2 H3 HS ⊢
    go_enter Tryz.func142, Tryz.ntmps142
    go_wp2_with fail
    repeat' (first
      | (go_at_call 141; refine (H1.out _ (by (repeat (first | (with_reducible exact Below.refl _ _) | (with_reducible assumption) | (with_reducible refine below_drewN ?_ _) | (with_reducible refine Below.drew ?_) | (with_reducible refine Below.al ?_ _) | (with_reducible refine Below.st ?_ (by simp; try omega)) | (with_reducible refine Below.tr ?_ (Hid.out (by assumption))) | (with_reducible exact Hid.out (by assumption)))))).mono ?_; rintro e wa1 ⟨rfl, hb_wa1⟩; obtain ⟨hc_wa1, hf_wa1⟩ := bcell hb_wa1; have hs_wa1 := hb_wa1.size; (try simp at hs_wa1); have hz_wa1_w_0 : w.heap.size < wa1.heap.size := (by omega); clear hs_wa1; have HB_wa1 := Lib.hid hb_wa1; clear hb_wa1; go_wp2_with fail)
      | (go_at_call 172; refine (H2.out _ (by (repeat (first | (with_reducible exact Below.refl _ _) | (with_reducible assumption) | (with_reducible refine below_drewN ?_ _) | (with_reducible refine Below.drew ?_) | (with_reducible refine Below.al ?_ _) | (with_reducible refine Below.st ?_ (by simp; try omega)) | (with_reducible refine Below.tr ?_ (Hid.out (by assumption))) | (with_reducible exact Hid.out (by assumption)))))).mono ?_; rintro e wa2 ⟨rfl, hb_wa2⟩; obtain ⟨hc_wa2, hf_wa2⟩ := bcell hb_wa2; have hs_wa2 := hb_wa2.size; (try simp at hs_wa2); have hz_wa2_w_0 : w.heap.size < wa2.heap.size := (by omega); clear hs_wa2; have HB_wa2 := Lib.hid hb_wa2; clear hb_wa2; go_wp2_with fail)
      | (go_ret; exact ⟨ret_bool (by (rw [← HS.out]; first | (simp [*]; done) | (simp [*]; omega) | (simp [*]; intros; omega) | (rename_i h9; simp at h9; simp [*]; done))), by (repeat (first | (with_reducible exact Below.refl _ _) | (with_reducible assumption) | (with_reducible refine below_drewN ?_ _) | (with_reducible refine Below.drew ?_) | (with_reducible refine Below.al ?_ _) | (with_reducible refine Below.st ?_ (by simp; try omega)) | (with_reducible refine Below.tr ?_ (Hid.out (by assumption))) | (with_reducible exact Hid.out (by assumption))))⟩))
  | some x =>
    obtain ⟨⟨a, b, c⟩, ⟨m, u⟩, pr, pa⟩ := x
    have H4 := Lib.hid (fun W hb => H3.out a b c m u W hb)
    rw [hh] at H2 HS
    dsimp only at HS
    obtain ⟨r1, hr1⟩ : ∃ r, roomB q.res q.holds ⟨a, b, c⟩ ⟨m, u⟩ = r := ⟨_, rfl⟩
    rw [hr1] at H4 HS
    clear hh hr1
    obtain ⟨⟨nm, kd, un, h⟩, hs, cs, ws, gen⟩ := q
    unfold Qu.val Rs.val headV Wt.val at *
    dsimp only at H1 H2 H4 HS ⊢
    go_enter Tryz.func142, Tryz.ntmps142
    go_wp2_with fail
    repeat' (first
      | (go_at_call 141; refine (H1.out _ (by (repeat (first | (with_reducible exact Below.refl _ _) | (with_reducible assumption) | (with_reducible refine below_drewN ?_ _) | (with_reducible refine Below.drew ?_) | (with_reducible refine Below.al ?_ _) | (with_reducible refine Below.st ?_ (by simp; try omega)) | (with_reducible refine Below.tr ?_ (Hid.out (by assumption))) | (with_reducible exact Hid.out (by assumption)))))).mono ?_; rintro e wa1 ⟨rfl, hb_wa1⟩; obtain ⟨hc_wa1, hf_wa1⟩ := bcell hb_wa1; have hs_wa1 := hb_wa1.size; (try simp at hs_wa1); have hz_wa1_w_0 : w.heap.size < wa1.heap.size := (by omega); clear hs_wa1; have HB_wa1 := Lib.hid hb_wa1; clear hb_wa1; go_wp2_with fail)
      | (go_at_call 172; refine (H2.out _ (by (repeat (first | (with_reducible exact Below.refl _ _) | (with_reducible assumption) | (with_reducible refine below_drewN ?_ _) | (with_reducible refine Below.drew ?_) | (with_reducible refine Below.al ?_ _) | (with_reducible refine Below.st ?_ (by simp; try omega)) | (with_reducible refine Below.tr ?_ (Hid.out (by assumption))) | (with_reducible exact Hid.out (by assumption)))))).mono ?_; rintro e wa2 ⟨rfl, hb_wa2⟩; obtain ⟨hc_wa2, hf_wa2⟩ := bcell hb_wa2; have hs_wa2 := hb_wa2.size; (try simp at hs_wa2); have hz_wa2_w_0 : w.heap.size < wa2.heap.size := (by omega); clear hs_wa2; have HB_wa2 := Lib.hid hb_wa2; clear hb_wa2; go_wp2_with fail)
      | (go_at_call 105; refine (H4.out _ (by (repeat (first | (with_reducible exact Below.refl _ _) | (with_reducible assumption) | (with_reducible refine below_drewN ?_ _) | (with_reducible refine Below.drew ?_) | (with_reducible refine Below.al ?_ _) | (with_reducible refine Below.st ?_ (by simp; try omega)) | (with_reducible refine Below.tr ?_ (Hid.out (by assumption))) | (with_reducible exact Hid.out (by assumption)))))).mono ?_; rintro e wa3 ⟨rfl, hb_wa3⟩; obtain ⟨hc_wa3, hf_wa3⟩ := bcell hb_wa3; have hs_wa3 := hb_wa3.size; (try simp at hs_wa3); have hz_wa3_w_0 : w.heap.size < wa3.heap.size := (by omega); clear hs_wa3; have HB_wa3 := Lib.hid hb_wa3; clear hb_wa3; go_wp2_with fail)
      | (go_ret; exact ⟨ret_bool (by (rw [← HS.out]; first | (simp [*]; done) | (simp [*]; omega) | (simp [*]; intros; omega) | (rename_i h9; simp at h9; simp [*]; done))), by (repeat (first | (with_reducible exact Below.refl _ _) | (with_reducible assumption) | (with_reducible refine below_drewN ?_ _) | (with_reducible refine Below.drew ?_) | (with_reducible refine Below.al ?_ _) | (with_reducible refine Below.st ?_ (by simp; try omega)) | (with_reducible refine Below.tr ?_ (Hid.out (by assumption))) | (with_reducible exact Hid.out (by assumption))))⟩))
set_option maxHeartbeats 1600000 in
theorem rQValid_any (q : Qu) (A1 A2 A3 : Option Addr) (c1 c2 c3 : Nat) (w : World) (B : Nat) (hq : QF w B A1 A2 A3 q) :
    Calls Tryz.prog 95 #[q.val A1 A2 A3 c1 c2 c3] w (Ret w (.bool (settledB q))) := by
  have H1 := Lib.hid (fun W (hb : Below w.heap.size w W) => rSettled_any q A1 A2 A3 c1 c2 c3 W B (hq.below hb))
  have H2 := Lib.hid (fun W (hb : Below w.heap.size w W) => rSound_any q A1 A2 A3 c1 c2 c3 W B (hq.below hb))
  have HS : Hid (soundB q = false → settledB q = false) := Lib.hid (fun h => by unfold settledB; rw [h]; rfl)
  clear hq
  generalize settledB q = R at *
  generalize soundB q = s1 at *
  obtain ⟨⟨nm, kd, un, h⟩, hs, cs, ws, gen⟩ := q
  unfold Qu.val at *
  dsimp only at H1 H2 ⊢
  go_enter Tryz.func95, Tryz.ntmps95
  go_wp2_with fail
  repeat' (first
    | (go_at_call 141; refine (H2.out _ (by (repeat (first | (with_reducible exact Below.refl _ _) | (with_reducible assumption) | (with_reducible refine below_drewN ?_ _) | (with_reducible refine Below.drew ?_) | (with_reducible refine Below.al ?_ _) | (with_reducible refine Below.st ?_ (by simp; try omega)) | (with_reducible refine Below.tr ?_ (Hid.out (by assumption))) | (with_reducible exact Hid.out (by assumption)))))).mono ?_; rintro e wa1 ⟨rfl, hb_wa1⟩; obtain ⟨hc_wa1, hf_wa1⟩ := bcell hb_wa1; have hs_wa1 := hb_wa1.size; (try simp at hs_wa1); have hz_wa1_w_0 : w.heap.size < wa1.heap.size := (by omega); clear hs_wa1; have HB_wa1 := Lib.hid hb_wa1; clear hb_wa1; go_wp2_with fail)
    | (go_at_call 142; refine (H1.out _ (by (repeat (first | (with_reducible exact Below.refl _ _) | (with_reducible assumption) | (with_reducible refine below_drewN ?_ _) | (with_reducible refine Below.drew ?_) | (with_reducible refine Below.al ?_ _) | (with_reducible refine Below.st ?_ (by simp; try omega)) | (with_reducible refine Below.tr ?_ (Hid.out (by assumption))) | (with_reducible exact Hid.out (by assumption)))))).mono ?_; rintro e wa2 ⟨rfl, hb_wa2⟩; obtain ⟨hc_wa2, hf_wa2⟩ := bcell hb_wa2; have hs_wa2 := hb_wa2.size; (try simp at hs_wa2); have hz_wa2_w_0 : w.heap.size < wa2.heap.size := (by omega); clear hs_wa2; have HB_wa2 := Lib.hid hb_wa2; clear hb_wa2; go_wp2_with fail)
    | (go_ret; first | exact ⟨ret_bool (HS.out (by first | assumption | exact Bool.eq_false_iff.2 (by assumption))).symm, by (repeat (first | (with_reducible exact Below.refl _ _) | (with_reducible assumption) | (with_reducible refine below_drewN ?_ _) | (with_reducible refine Below.drew ?_) | (with_reducible refine Below.al ?_ _) | (with_reducible refine Below.st ?_ (by simp; try omega)) | (with_reducible refine Below.tr ?_ (Hid.out (by assumption))) | (with_reducible exact Hid.out (by assumption))))⟩ | exact ⟨ret_bool rfl, by (repeat (first | (with_reducible exact Below.refl _ _) | (with_reducible assumption) | (with_reducible refine below_drewN ?_ _) | (with_reducible refine Below.drew ?_) | (with_reducible refine Below.al ?_ _) | (with_reducible refine Below.st ?_ (by simp; try omega)) | (with_reducible refine Below.tr ?_ (Hid.out (by assumption))) | (with_reducible exact Hid.out (by assumption))))⟩))
end Go.Proofs.YtogeihdfmnohnaaGreatDoor
namespace Go.Proofs.YtogeihdfmnohnaaGreatDoor
open Go.RowKit
theorem wtInfo : (Tryz.prog.info? 87).map (fun i => (i.zero, i.size, i.bytes)) = some (some (.agg #[.int .i64 0, .int .i64 0, .int .i64 0, .int .i64 0, .int .i64 0, .int .i64 0, .int .i64 0]), 7, 56) := by kernel_rfl
theorem grow_run (n : Nat) (h0 : 0 < n) (hn : n ≤ 1000000) (w : World) : ∃ (G : Nat) (mc : Array Value), n ≤ G ∧ G ≤ maxLen ∧ mc.size = G * 7 ∧
    ∀ ty, (Builtin.append_ #[46, 3] ty #[.slice none 0 0, .int .i64 (n : Int)]).run Tryz.prog w = .ok (.slice (some ⟨w.heap.size, 0, none⟩) n G) (w.drew.alloc (.cells mc 87)) := by
  obtain ⟨i0, hi, hz0, hz1, hz2⟩ := info_parts wtInfo
  have hold : (Builtin.firstCells i0.size 0 (.slice none 0 0)).run Tryz.prog w.drew = .ok #[] w.drew := rfl
  have hbig : (0 + n) * i0.bytes ≤ 140737488355328 := by rw [hz2]; omega
  have hG := grownCap_ge w (0 + n) 0 87
  have hGm := grownCap_le_maxLen w (0 + n) 0 87 (by unfold maxLen; omega)
  have hr := fun ty => Lib.run_append_grow_zeros w 46 3 ty 87 i0 _ .i64 .i64 Tryz.underlying46 Tryz.underlying3 hi hz0 none 0 0 [] hold n (by omega) (by rw [hz1]; decide) (by omega) (by omega)
      (by rw [hz2]; omega) (growslice_fits (by omega) hbig)
  rw [Nat.zero_add] at hr hG hGm
  refine ⟨grownCap w n 0 87, #[] ++ Builtin.zeroCells #[.int .i64 0, .int .i64 0, .int .i64 0, .int .i64 0, .int .i64 0, .int .i64 0, .int .i64 0] n ++ Builtin.zeroCells #[.int .i64 0, .int .i64 0, .int .i64 0, .int .i64 0, .int .i64 0, .int .i64 0, .int .i64 0] (grownCap w n 0 87 - n), hG, hGm, ?_, fun ty => ?_⟩
  · simp [Builtin.zeroCells]
    omega
  · have h := hr ty
    exact h
theorem wpList_append_run {P : Program} (w w' : World) {ops : Array Oper} {rest : List Oper} {o : Oper} {a : Act} {Q : Exit → Act → World → Prop} (hgd : o.guard = none) (s x : Operand) (t t' : TypeId)
    (ho : o.op = .call { callee := .builtin .append, args := #[s, x], argTypes := #[t, t'] }) (v1 v2 r : Value) (hs : a.eval s = v1) (hx : a.eval x = v2) (hrun : (Builtin.append_ #[t, t'] o.type #[v1, v2]).run P w = .ok r w')
    (h : wpList P ops Q rest (a.put o.dst r) w') : wpList P ops Q (o :: rest) a w := by
  refine wpList_plain hgd fun K hK => ?_
  unfold Oper.wp
  simp [execOp, ho, resolve, invoke, builtin, hs, hx, hrun, Result.andThen]
  exact hK _ _ h
set_option maxHeartbeats 1600000 in
theorem Grow_any (n : Nat) (hn : n ≤ 1000000) (w : World) : Calls Tryz.prog 116 #[.slice none 0 0, .int .i64 (n : Int)] w fun e w' => ∃ A cap, e = .returned (.slice A 0 cap) ∧ OwnRows wtE 87 w' w.heap.size (.slice A 0 cap) [] ∧ Below w.heap.size w w' := by
  rcases Nat.eq_zero_or_pos n with rfl | h0
  · go_enter Tryz.func116, Tryz.ntmps116
    go_wp2_with fail
    go_ret
    exact ⟨none, 0, rfl, OwnRows.nil _ _ _ _ (Nat.le_refl _), Below.refl _ _⟩
  · obtain ⟨G, mc, hG, hGm, hsz, hrun⟩ := grow_run n h0 hn w
    have HO : Hid (OwnRows wtE 87 (w.drew.alloc (.cells mc 87)) w.heap.size (.slice (some ⟨w.heap.size, 0, none⟩) 0 G) []) := Lib.hid (OwnRows.made wtE 87 w.drew w.heap.size mc G (Nat.le_refl _) hGm hsz)
    have h0i : (0 : Int) < (n : Int) := by omega
    have hw : IntKind.i64.wrap ((n : Int) - 0) = (n : Int) := by rw [IntWalk.i64_in _ (by omega)]; omega
    have hw0 : IntKind.i64.wrap ((0 : Int) - 0) = 0 := rfl
    clear hsz
    go_enter Tryz.func116, Tryz.ntmps116
    go_wp2_with (at_builtin; refine wpList_append_run w (w.drew.alloc (.cells mc 87)) rfl (.tmp 20) (.tmp 21) 46 3 rfl _ _ _ rfl rfl (hrun _) ?_)
    go_ret
    exact ⟨_, G, rfl, HO.out, Below.al (Below.refl _ _).drew _⟩
def upto2 (cs ws : List Wt) : Nat → List Wt
  | 0 => []
  | 1 => cs
  | _ => cs ++ ws
set_option maxRecDepth 100000 in
set_option maxHeartbeats 3200000 in
theorem Concat_any (g : Nat) (A2 A3 : Option Addr) (c2 c3 : Nat) (cs ws : List Wt) (w : World) (B : Nat) (hB : B ≤ w.heap.size) (h0 : w.cell? ⟨g, 0, none⟩ = some (.slice A2 cs.length c2)) (h1 : w.cell? ⟨g, 1, none⟩ = some (.slice A3 ws.length c3))
    (r2 : RowsAt wtE w (Lo B) A2 cs) (r3 : RowsAt wtE w (Lo B) A3 ws) (hl : cs.length + ws.length ≤ 1000000) :
    Calls Tryz.prog 78 #[.slice (some ⟨g, 0, none⟩) 2 2] w (RetRow wtE 87 w (cs ++ ws)) := by
  have HG := Lib.hid (fun W => Grow_any (cs.length + ws.length) hl W)
  rw [show ((cs.length + ws.length : Nat) : Int) = (cs.length : Int) + (ws.length : Int) by omega] at HG
  have hgl : g < w.heap.size := World.block_lt_of_cell? w _ h0
  have HR2 := Lib.hid r2
  have HR3 := Lib.hid r3
  have HH0 := Lib.hid h0
  have HH1 := Lib.hid h1
  clear r2 r3
  go_enter Tryz.func78, Tryz.ntmps78
  go_wp2_with fail
  go_loopg [3, 11] 2 (fun m0 v3 v11 wq => ∃ j : Nat, v11 = .int .i64 (j : Int) ∧ j ≤ 2 ∧ 2 ≤ j + m0 ∧ v3 = .int .i64 ((upto2 cs ws j).length : Int) ∧ wq = w)
  case atStart => exact ⟨0, rfl, by omega, by omega, rfl, rfl⟩
  case round =>
    obtain ⟨j, rfl, hj, hjm, rfl, rfl⟩ := hrel
    have hj3 : j = 0 ∨ j = 1 ∨ j = 2 := by omega
    have hw1 : IntKind.i64.wrap ((0 : Int) + (cs.length : Int)) = (cs.length : Int) := by rw [IntWalk.i64_in _ (by omega)]; omega
    have hw2 : IntKind.i64.wrap ((cs.length : Int) + (ws.length : Int)) = (cs.length : Int) + (ws.length : Int) := IntWalk.i64_in _ (by omega)
    have hn1 : ¬ (cs.length : Int) < 0 := by omega
    have hn2 : ¬ (cs.length : Int) + (ws.length : Int) < 0 := by omega
    rcases hj3 with rfl | rfl | rfl
    · simp only [upto2, List.length_nil]
      go_wp2_with fail
      go_roundg (gk - 1)
      case measure => omega
      case rel => exact ⟨1, by go_num, by omega, by omega, by simp [upto2], rfl⟩
    · simp only [upto2]
      go_wp2_with fail
      go_roundg (gk - 1)
      case measure => omega
      case rel => exact ⟨2, by go_num, by omega, by omega, by simp [upto2], rfl⟩
    · simp only [upto2, List.length_append]
      rw [show ((cs.length + ws.length : Nat) : Int) = (cs.length : Int) + (ws.length : Int) by omega]
      go_wp2_with fail
      refine (HG.out _).mono ?_
      rintro e w1 ⟨A1, cap1, rfl, hown1, hb1⟩
      have HO1 := Lib.hid hown1
      have HB1 := Lib.hid hb1
      clear hown1 hb1 h0 h1
      obtain ⟨wo, hwo⟩ : ∃ x, x = wr := ⟨_, rfl⟩
      subst hwo
      go_wp2_with fail
      go_loopg [6, 27] 2 (fun m0 v6 v27 wq => ∃ j : Nat, v27 = .int .i64 (j : Int) ∧ j ≤ 2 ∧ 2 ≤ j + m0 ∧ Hid (OwnRows wtE 87 wq wo.heap.size v6 (upto2 cs ws j)) ∧ Hid (Below wo.heap.size wo wq))
      case atStart => exact ⟨0, rfl, by omega, by omega, HO1, HB1⟩
      case round =>
        obtain ⟨j, rfl, hj, hjm, HO, HB⟩ := hrel
        have hj3 : j = 0 ∨ j = 1 ∨ j = 2 := by omega
        have h0 := (HB.out.cell (p := ⟨g, 0, none⟩) hgl).trans HH0.out
        have h1 := (HB.out.cell (p := ⟨g, 1, none⟩) hgl).trans HH1.out
        have hgl2 : g < wr.heap.size := Nat.lt_of_lt_of_le hgl HB.out.size
        rcases hj3 with rfl | rfl | rfl
        · replace HO : Hid (OwnRows wtE 87 wr wo.heap.size u6 []) := Lib.hid HO.out
          go_wp2_with (at_builtin; refine pushRB wtTB rfl (.tmp 31) (.tmp 32) rfl wr wo.heap.size u6 [] cs cs.length rfl A2 c2 rfl HO.out rfl (HR2.out.same (fun b hb => HB.out.block b (Nat.lt_of_lt_of_le hb hB)) fun b hb => HO.out.oth (Nat.lt_of_lt_of_le hb hB)) (by first | (unfold maxLen; simp; omega) | (unfold maxLen; omega)) (by first | omega | (simp; omega)) ?_; intro v7 w7 hown7 hb7 hsp7; have HB7 : Hid (Below wo.heap.size wo w7) := Lib.hid (HB.out.trans hb7); have HO7 := Lib.hid hown7; clear hown7 hb7 hsp7)
          go_roundg (gk - 1)
          case measure => omega
          case rel => exact ⟨1, by go_num, by omega, by omega, Lib.hid (by have := HO7.out; simpa [upto2] using this), HB7⟩
        · replace HO : Hid (OwnRows wtE 87 wr wo.heap.size u6 cs) := Lib.hid HO.out
          go_wp2_with (at_builtin; refine pushRB wtTB rfl (.tmp 31) (.tmp 32) rfl wr wo.heap.size u6 cs ws ws.length rfl A3 c3 rfl HO.out rfl (HR3.out.same (fun b hb => HB.out.block b (Nat.lt_of_lt_of_le hb hB)) fun b hb => HO.out.oth (Nat.lt_of_lt_of_le hb hB)) (by first | (unfold maxLen; simp; omega) | (unfold maxLen; omega)) (by first | omega | (simp; omega)) ?_; intro v7 w7 hown7 hb7 hsp7; have HB7 : Hid (Below wo.heap.size wo w7) := Lib.hid (HB.out.trans hb7); have HO7 := Lib.hid hown7; clear hown7 hb7 hsp7)
          go_roundg (gk - 1)
          case measure => omega
          case rel => exact ⟨2, by go_num, by omega, by omega, HO7, HB7⟩
        · go_wp2_with fail
          go_ret
          exact ⟨_, rfl, HO.out, HB.out⟩
def ordL (q : Qu) : List Pr := (q.convs ++ q.waits).map (·.proc)
set_option maxHeartbeats 1600000 in
theorem order_any (q : Qu) (A1 A2 A3 : Option Addr) (c1 c2 c3 : Nat) (w : World) (B : Nat) (hq : QF w B A1 A2 A3 q) (h8 : q.convs.length ≤ 8) (h8' : q.waits.length ≤ 8) :
    Calls Tryz.prog 42 #[q.val A1 A2 A3 c1 c2 c3] w (RetRow wtE 87 w (q.convs ++ q.waits)) := by
  have HC := Lib.hid (fun g W (hb : Below w.heap.size w W) h0 h1 => Concat_any g A2 A3 c2 c3 q.convs q.waits W B (Nat.le_trans hq.hB hb.size) h0 h1 (hq.r2.below hb hq.hB (Nat.le_refl _)) (hq.r3.below hb hq.hB (Nat.le_refl _)) (by omega))
  clear hq
  obtain ⟨⟨nm, kd, un, h⟩, hs, cs, ws, gen⟩ := q
  unfold Qu.val
  dsimp only at HC h8 h8' ⊢
  go_enter Tryz.func42, Tryz.ntmps42
  go_wp2_with fail
  refine (HC.out (w.heap.size + 1) _ (by (repeat (first | (with_reducible exact Below.refl _ _) | (with_reducible assumption) | (with_reducible refine below_drewN ?_ _) | (with_reducible refine Below.drew ?_) | (with_reducible refine Below.al ?_ _) | (with_reducible refine Below.st ?_ (by simp; try omega)) | (with_reducible refine Below.tr ?_ (Hid.out (by assumption))) | (with_reducible exact Hid.out (by assumption))))) (by go_simp) (by go_simp)).mono ?_
  rintro e w1 ⟨v1, rfl, hown1, hb1⟩
  have HO1 := Lib.hid hown1
  have HB1 := Lib.hid hb1
  clear hown1 hb1
  go_wp2_with fail
  go_ret
  exact ⟨_, rfl, HO1.out.older (by simp; omega), by (repeat (first | (with_reducible exact Below.refl _ _) | (with_reducible assumption) | (with_reducible refine below_drewN ?_ _) | (with_reducible refine Below.drew ?_) | (with_reducible refine Below.al ?_ _) | (with_reducible refine Below.st ?_ (by simp; try omega)) | (with_reducible refine Below.tr ?_ (Hid.out (by assumption))) | (with_reducible exact Hid.out (by assumption))))⟩
end Go.Proofs.YtogeihdfmnohnaaGreatDoor
