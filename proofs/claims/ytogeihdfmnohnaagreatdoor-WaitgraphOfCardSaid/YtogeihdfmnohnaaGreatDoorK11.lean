/- Part 11 of 49 of the proof of waitgraphOf_holds (no condition). -/
import Derived.Test.YtogeihdfmnohnaaGreatDoorK07
import Derived.Test.YtogeihdfmnohnaaGreatDoorK08
import Derived.Test.YtogeihdfmnohnaaGreatDoorK10
import Derived.Test.YtogeihdfmnohnaaGreatDoorK05
import Derived.Deep.RegionHeld3
set_option linter.unusedVariables false
set_option linter.unusedSimpArgs false
namespace Go.Proofs.YtogeihdfmnohnaaGreatDoor
open Go.RowKit
def propB (r : Rs) (l : List Ho) (p : Pr) (a : Am) : Bool := hvB r l && vpB p && fitsB r a
def roomB (r : Rs) (l : List Ho) (p : Pr) (a : Am) : Bool := propB r l p a && hvB r (setH l p a)
theorem hvB_len {r : Rs} {l : List Ho} (h : hvB r l = true) : l.length ≤ 8 := by
  unfold hvB at h
  simp only [Bool.and_eq_true, decide_eq_true_eq] at h
  exact h.1.1.2
theorem insH_len (x : Ho) : ∀ l : List Ho, (insH x l).length = l.length + 1
  | [] => rfl
  | h :: l => by
    rw [insH_cons]
    cases decide (0 < cmpP h.proc x.proc) <;> simp [insH_len x l]
theorem setH_len (l : List Ho) (p : Pr) (a : Am) : (setH l p a).length ≤ l.length + 1 := by
  have := filP_len l p
  unfold setH
  cases zeroB a
  · simp [insH_len]; omega
  · simp; omega
structure BoxR (w : World) (nm : ByteArray) (kd un h x y z m u : Int) (v : World) : Prop where
  below : Below (((w.alloc (.cells #[.string nm, .int .i64 kd, .int .i64 un, .int .i64 h] 44)).alloc (.cells #[.int .i64 x, .int .i64 y, .int .i64 z] 51)).alloc (.cells #[.int .i64 m, .int .i64 u] 53)).heap.size (((w.alloc (.cells #[.string nm, .int .i64 kd, .int .i64 un, .int .i64 h] 44)).alloc (.cells #[.int .i64 x, .int .i64 y, .int .i64 z] 51)).alloc (.cells #[.int .i64 m, .int .i64 u] 53)) v
variable {w v v' : World} {nm : ByteArray} {kd un h x y z m u : Int}
theorem BoxR.made : BoxR w nm kd un h x y z m u (((w.alloc (.cells #[.string nm, .int .i64 kd, .int .i64 un, .int .i64 h] 44)).alloc (.cells #[.int .i64 x, .int .i64 y, .int .i64 z] 51)).alloc (.cells #[.int .i64 m, .int .i64 u] 53)) := ⟨Below.refl _ _⟩
theorem BoxR.next (b : BoxR w nm kd un h x y z m u v) (hb : Below v.heap.size v v') : BoxR w nm kd un h x y z m u v' := ⟨Below.tr b.below hb⟩
theorem BoxR.bel (b : BoxR w nm kd un h x y z m u v) : Below w.heap.size w v := Below.tr (Below.al (Below.al (Below.al (Below.refl _ _) _) _) _) b.below
theorem BoxR.lt (b : BoxR w nm kd un h x y z m u v) : w.heap.size + 1 + 1 < v.heap.size := by have := b.below.size; simp at this; omega
theorem BoxR.res (b : BoxR w nm kd un h x y z m u v) : Blk v w.heap.size 44 #[.string nm, .int .i64 kd, .int .i64 un, .int .i64 h] := (((Blk.new w 44 #[.string nm, .int .i64 kd, .int .i64 un, .int .i64 h]).alloc _).alloc _).below b.below (by simp; omega)
theorem BoxR.prc (b : BoxR w nm kd un h x y z m u v) : Blk v (w.heap.size + 1) 51 #[.int .i64 x, .int .i64 y, .int .i64 z] := ((by have := Blk.new (w.alloc (.cells #[.string nm, .int .i64 kd, .int .i64 un, .int .i64 h] 44)) 51 #[.int .i64 x, .int .i64 y, .int .i64 z]; simpa using this : Blk _ (w.heap.size + 1) 51 #[.int .i64 x, .int .i64 y, .int .i64 z]).alloc _).below b.below (by simp)
theorem BoxR.amt (b : BoxR w nm kd un h x y z m u v) : Blk v (w.heap.size + 1 + 1) 53 #[.int .i64 m, .int .i64 u] := (by have := Blk.new ((w.alloc (.cells #[.string nm, .int .i64 kd, .int .i64 un, .int .i64 h] 44)).alloc (.cells #[.int .i64 x, .int .i64 y, .int .i64 z] 51)) 53 #[.int .i64 m, .int .i64 u]; simpa using this : Blk _ (w.heap.size + 1 + 1) 53 #[.int .i64 m, .int .i64 u]).below b.below (by simp)
structure CelR (w : World) (nm : ByteArray) (kd un h x y z m u : Int) (v : World) : Prop where
  c0 : v.cell? ⟨w.heap.size, 0, none⟩ = some (.string nm)
  c1 : v.cell? ⟨w.heap.size, 1, none⟩ = some (.int .i64 kd)
  c2 : v.cell? ⟨w.heap.size, 2, none⟩ = some (.int .i64 un)
  c3 : v.cell? ⟨w.heap.size, 3, none⟩ = some (.int .i64 h)
  p0 : v.cell? ⟨w.heap.size + 1, 0, none⟩ = some (.int .i64 x)
  p1 : v.cell? ⟨w.heap.size + 1, 1, none⟩ = some (.int .i64 y)
  p2 : v.cell? ⟨w.heap.size + 1, 2, none⟩ = some (.int .i64 z)
  a0 : v.cell? ⟨w.heap.size + 1 + 1, 0, none⟩ = some (.int .i64 m)
  a1 : v.cell? ⟨w.heap.size + 1 + 1, 1, none⟩ = some (.int .i64 u)
  l0 : w.heap.size < v.heap.size
  l1 : w.heap.size + 1 < v.heap.size
  l2 : w.heap.size + 1 + 1 < v.heap.size
theorem BoxR.cel (b : BoxR w nm kd un h x y z m u v) : CelR w nm kd un h x y z m u v := ⟨b.res.cellx 0 rfl, b.res.cellx 1 rfl, b.res.cellx 2 rfl, b.res.cellx 3 rfl, b.prc.cellx 0 rfl, b.prc.cellx 1 rfl, b.prc.cellx 2 rfl, b.amt.cellx 0 rfl, b.amt.cellx 1 rfl, b.res.lt, b.prc.lt, b.amt.lt⟩
theorem BoxR.cj (b : BoxR w nm kd un h x y z m u v) : v.cell? ⟨w.heap.size, 0, none⟩ = some (.string nm) ∧ v.cell? ⟨w.heap.size, 1, none⟩ = some (.int .i64 kd) ∧ v.cell? ⟨w.heap.size, 2, none⟩ = some (.int .i64 un) ∧ v.cell? ⟨w.heap.size, 3, none⟩ = some (.int .i64 h) ∧ v.cell? ⟨w.heap.size + 1, 0, none⟩ = some (.int .i64 x) ∧ v.cell? ⟨w.heap.size + 1, 1, none⟩ = some (.int .i64 y) ∧ v.cell? ⟨w.heap.size + 1, 2, none⟩ = some (.int .i64 z) ∧ v.cell? ⟨w.heap.size + 1 + 1, 0, none⟩ = some (.int .i64 m) ∧ v.cell? ⟨w.heap.size + 1 + 1, 1, none⟩ = some (.int .i64 u) := ⟨b.cel.c0, b.cel.c1, b.cel.c2, b.cel.c3, b.cel.p0, b.cel.p1, b.cel.p2, b.cel.a0, b.cel.a1⟩
set_option maxHeartbeats 3200000 in
theorem proper_any (r : Rs) (A : Option Addr) (B cap : Nat) (l : List Ho) (x y z m u : Int) (w : World) (hT : Tog w) (hm : l.length ≤ maxLen) (hB : B ≤ w.heap.size) (hr : RowsAt hoE w (Lo B) A l) :
    Calls Tryz.prog 90 #[r.val, .slice A l.length cap, .agg #[.int .i64 x, .int .i64 y, .int .i64 z], .agg #[.int .i64 m, .int .i64 u]] w (Ret w (.bool (propB r l ⟨x, y, z⟩ ⟨m, u⟩))) := by
  obtain ⟨nm, kd, un, h⟩ := r
  have H1 := Lib.hid (fun W (hb : Below w.heap.size w W) => HValid_any ⟨nm, kd, un, h⟩ A B cap l W (hT.below hb) hm (Nat.le_trans hB hb.size) (hr.below hb hB (Nat.le_refl _)))
  have H2 := Lib.hid (fun W => VProc_any ⟨x, y, z⟩ W)
  have H3 := Lib.hid (fun W => Fits_any ⟨nm, kd, un, h⟩ m u W)
  clear hT hr
  unfold Rs.val
  go_enter Tryz.func90, Tryz.ntmps90
  go_wp2_with fail
  repeat' (first
    | (go_at_call 136; refine (H1.out _ (by (repeat (first | (with_reducible exact Below.refl _ _) | (with_reducible assumption) | (with_reducible refine below_drewN ?_ _) | (with_reducible refine Below.drew ?_) | (with_reducible refine Below.al ?_ _) | (with_reducible refine Below.st ?_ (by simp; try omega)) | (with_reducible refine Below.tr ?_ (Hid.out (by assumption))) | (with_reducible exact Hid.out (by assumption)))))).mono ?_; rintro e wa1 ⟨rfl, hb_wa1⟩; obtain ⟨hc_wa1, hf_wa1⟩ := bcell hb_wa1; have hs_wa1 := hb_wa1.size; (try simp at hs_wa1); have hz_wa1_w_0 : w.heap.size < wa1.heap.size := (by omega); have hz_wa1_w_1 : w.heap.size + 1 < wa1.heap.size := (by omega); have hz_wa1_w_2 : w.heap.size + 1 + 1 < wa1.heap.size := (by omega); clear hs_wa1; have HB_wa1 := Lib.hid hb_wa1; clear hb_wa1; go_wp2_with fail)
    | (go_at_call 39; refine (H2.out _).mono ?_; rintro e wa2 ⟨rfl, hb_wa2⟩; obtain ⟨hc_wa2, hf_wa2⟩ := bcell hb_wa2; have hs_wa2 := hb_wa2.size; (try simp at hs_wa2); have hz_wa2_w_0 : w.heap.size < wa2.heap.size := (by omega); have hz_wa2_w_1 : w.heap.size + 1 < wa2.heap.size := (by omega); have hz_wa2_w_2 : w.heap.size + 1 + 1 < wa2.heap.size := (by omega); clear hs_wa2; have HB_wa2 := Lib.hid hb_wa2; clear hb_wa2; go_wp2_with fail)
    | (go_at_call 137; refine (H3.out _).mono ?_; rintro e wa3 ⟨rfl, hb_wa3⟩; obtain ⟨hc_wa3, hf_wa3⟩ := bcell hb_wa3; have hs_wa3 := hb_wa3.size; (try simp at hs_wa3); have hz_wa3_w_0 : w.heap.size < wa3.heap.size := (by omega); have hz_wa3_w_1 : w.heap.size + 1 < wa3.heap.size := (by omega); have hz_wa3_w_2 : w.heap.size + 1 + 1 < wa3.heap.size := (by omega); clear hs_wa3; have HB_wa3 := Lib.hid hb_wa3; clear hb_wa3; go_wp2_with fail)
    | (go_ret; refine ⟨ret_bool ?_, by (repeat (first | (with_reducible exact Below.refl _ _) | (with_reducible assumption) | (with_reducible refine below_drewN ?_ _) | (with_reducible refine Below.drew ?_) | (with_reducible refine Below.al ?_ _) | (with_reducible refine Below.st ?_ (by simp; try omega)) | (with_reducible refine Below.tr ?_ (Hid.out (by assumption))) | (with_reducible exact Hid.out (by assumption))))⟩; (first | (simp_all [propB]; done) | (simp_all [propB]; omega) | (rw [Bool.eq_iff_iff]; simp_all [propB]; done) | (rw [Bool.eq_iff_iff]; simp_all [propB]; omega))))
set_option maxRecDepth 100000 in
set_option maxHeartbeats 6400000 in
theorem Room_any (r : Rs) (A : Option Addr) (B cap : Nat) (l : List Ho) (x y z m u : Int) (w : World) (hT : Tog w) (hm : l.length ≤ maxLen) (hB : B ≤ w.heap.size) (hr : RowsAt hoE w (Lo B) A l) :
    Calls Tryz.prog 91 #[r.val, .slice A l.length cap, .agg #[.int .i64 x, .int .i64 y, .int .i64 z], .agg #[.int .i64 m, .int .i64 u]] w (Ret w (.bool (roomB r l ⟨x, y, z⟩ ⟨m, u⟩))) := by
  obtain ⟨nm, kd, un, h⟩ := r
  have H1 := Lib.hid (fun W (hb : Below w.heap.size w W) => proper_any ⟨nm, kd, un, h⟩ A B cap l x y z m u W (hT.below hb) hm (Nat.le_trans hB hb.size) (hr.below hb hB (Nat.le_refl _)))
  have H2 := Lib.hid (fun hl W (hb : Below w.heap.size w W) => Set_any A B cap l x y z m u W hl (Nat.le_trans hB hb.size) (hr.below hb hB (Nat.le_refl _)))
  have H3 := Lib.hid (fun A B cap l W (hb : Below w.heap.size w W) hm hB hr => HValid_any ⟨nm, kd, un, h⟩ A B cap l W (hT.below hb) hm hB hr)
  have HD : Hid (roomB ⟨nm, kd, un, h⟩ l ⟨x, y, z⟩ ⟨m, u⟩ = (propB ⟨nm, kd, un, h⟩ l ⟨x, y, z⟩ ⟨m, u⟩ && hvB ⟨nm, kd, un, h⟩ (setH l ⟨x, y, z⟩ ⟨m, u⟩))) := Lib.hid rfl
  have HL8 : Hid (propB ⟨nm, kd, un, h⟩ l ⟨x, y, z⟩ ⟨m, u⟩ = true → l.length ≤ 8) := Lib.hid (fun hp => by unfold propB at hp; simp only [Bool.and_eq_true] at hp; exact hvB_len hp.1.1)
  clear hT hr
  unfold Rs.val at *
  obtain ⟨q, hq⟩ : ∃ q, propB ⟨nm, kd, un, h⟩ l ⟨x, y, z⟩ ⟨m, u⟩ = q := ⟨_, rfl⟩
  rw [hq] at H1 HD HL8
  clear hq
  have HBX := Lib.hid (BoxR.made (w := w) (nm := nm) (kd := kd) (un := un) (h := h) (x := x) (y := y) (z := z) (m := m) (u := u))
  cases q with
  | false =>
    have C := HBX.out.cel
    obtain ⟨c0, c1, c2, c3, p0, p1, p2, a0, a1, _, _, _⟩ := C
    have g0 := Ext.cell c0
    have g1 := Ext.cell c1
    have g2 := Ext.cell c2
    have g3 := Ext.cell c3
    have g4 := Ext.cell p0
    have g5 := Ext.cell p1
    have g6 := Ext.cell p2
    have g7 := Ext.cell a0
    have g8 := Ext.cell a1
    clear c0 c1 c2 c3 p0 p1 p2 a0 a1
    go_enter Tryz.func91, Tryz.ntmps91
    go_wp2_with fail
    refine wp_region_grow (by kernel_rfl) (by kernel_rfl) ?_; (repeat (go_big_quiet_step ((go_at_call 90; exact Ext.call _ (H1.out _ (Below.trans HBX.out.bel (by rename_i n; exact (n.below).mono HBX.out.bel.size))))))); refine wpQuiet_nil ?_; rintro w2 ⟨n2, rfl⟩; have hb2 := n2.below; generalize n2.w = w2 at hb2 ⊢; clear n2
    have HB2 := Lib.hid hb2
    clear hb2
    go_wp2_with fail
    go_ret
    exact ⟨ret_bool HD.out.symm, by (repeat (first | (with_reducible exact Below.refl _ _) | (with_reducible assumption) | (with_reducible refine below_drewN ?_ _) | (with_reducible refine Below.drew ?_) | (with_reducible refine Below.al ?_ _) | (with_reducible refine Below.st ?_ (by simp; try omega)) | (with_reducible refine Below.tr ?_ (Hid.out (by assumption))) | (with_reducible exact Hid.out (by assumption))))⟩
  | true =>
    have hl8 : l.length ≤ 8 := HL8.out rfl
    have HSL : Hid ((setH l ⟨x, y, z⟩ ⟨m, u⟩).length ≤ maxLen) := Lib.hid (by have := setH_len l ⟨x, y, z⟩ ⟨m, u⟩; unfold maxLen; omega)
    have HBD : Hid (BoxR w nm kd un h x y z m u (((w.alloc (.cells #[.string nm, .int .i64 kd, .int .i64 un, .int .i64 h] 44)).alloc (.cells #[.int .i64 x, .int .i64 y, .int .i64 z] 51)).alloc (.cells #[.int .i64 m, .int .i64 u] 53)).drew) := Lib.hid (HBX.out.next (Below.refl _ _).drew)
    go_enter Tryz.func91, Tryz.ntmps91
    go_wp2_with fail
    go_region_held3 (fun w' => w'.cell? ⟨w.heap.size, 0, none⟩ = some (.string nm) ∧ w'.cell? ⟨w.heap.size, 1, none⟩ = some (.int .i64 kd) ∧ w'.cell? ⟨w.heap.size, 2, none⟩ = some (.int .i64 un) ∧ w'.cell? ⟨w.heap.size, 3, none⟩ = some (.int .i64 h) ∧ w'.cell? ⟨w.heap.size + 1, 0, none⟩ = some (.int .i64 x) ∧ w'.cell? ⟨w.heap.size + 1, 1, none⟩ = some (.int .i64 y) ∧ w'.cell? ⟨w.heap.size + 1, 2, none⟩ = some (.int .i64 z) ∧ w'.cell? ⟨w.heap.size + 1 + 1, 0, none⟩ = some (.int .i64 m) ∧ w'.cell? ⟨w.heap.size + 1 + 1, 1, none⟩ = some (.int .i64 u))
      (first | exact HBD.out.cj | exact hC5 | exact hC4 | exact hC3 | exact hC2)
      ((first
        | (go_at_call 90; refine (H1.out _ HBD.out.bel).mono ?_; rintro e w2 ⟨rfl, hb2⟩; have hX2 := HBD.out.next hb2; have hC2 := hX2.cj)
        | (go_at_call 138; refine (H2.out (by omega) _ hX2.bel).mono ?_; rintro e w3 ⟨v3, rfl, hown3, hb3⟩; obtain ⟨A3, cap3, rfl, hr3, hl3, hl3'⟩ := hown3.form; have hX3 := hX2.next hb3; have hC3 := hX3.cj)
        | (go_at_call 136; refine (H3.out A3 w3.heap.size cap3 (setH l ⟨x, y, z⟩ ⟨m, u⟩) w3 hX3.bel HSL.out (Nat.le_refl _) hr3).mono ?_; rintro e w4 ⟨rfl, hb4⟩; have hX4 := hX3.next hb4; have hC4 := hX4.cj)))
    all_goals
      go_wp2
      go_ret
      exact ⟨ret_bool HD.out.symm, hX4.bel⟩
set_option maxRecDepth 100000 in
set_option maxHeartbeats 6400000 in
theorem rRoom_any (r : Rs) (A : Option Addr) (B cap : Nat) (l : List Ho) (x y z m u : Int) (w : World) (hm : l.length ≤ maxLen) (hB : B ≤ w.heap.size) (hr : RowsAt hoE w (Lo B) A l) :
    Calls Tryz.prog 105 #[r.val, .slice A l.length cap, .agg #[.int .i64 x, .int .i64 y, .int .i64 z], .agg #[.int .i64 m, .int .i64 u]] w (Ret w (.bool (roomB r l ⟨x, y, z⟩ ⟨m, u⟩))) := by
  obtain ⟨nm, kd, un, h⟩ := r
  have H1 := Lib.hid (fun W (hb : Below w.heap.size w W) => rHValid_any ⟨nm, kd, un, h⟩ A B cap l W hm (Nat.le_trans hB hb.size) (hr.below hb hB (Nat.le_refl _)))
  have H4 := Lib.hid (fun W => rVProc_any ⟨x, y, z⟩ W)
  have H5 := Lib.hid (fun W => rFits_any ⟨nm, kd, un, h⟩ m u W)
  have H2 := Lib.hid (fun hl W (hb : Below w.heap.size w W) => rSet_any A B cap l x y z m u W hl (Nat.le_trans hB hb.size) (hr.below hb hB (Nat.le_refl _)))
  have H3 := Lib.hid (fun A B cap l W hm hB hr => rHValid_any ⟨nm, kd, un, h⟩ A B cap l W hm hB hr)
  have HD : Hid (roomB ⟨nm, kd, un, h⟩ l ⟨x, y, z⟩ ⟨m, u⟩ = (hvB ⟨nm, kd, un, h⟩ l && vpB ⟨x, y, z⟩ && fitsB ⟨nm, kd, un, h⟩ ⟨m, u⟩ && hvB ⟨nm, kd, un, h⟩ (setH l ⟨x, y, z⟩ ⟨m, u⟩))) := Lib.hid rfl
  have HL8 : Hid (hvB ⟨nm, kd, un, h⟩ l = true → l.length ≤ 8) := Lib.hid hvB_len
  clear hr
  unfold Rs.val Pr.val at *
  obtain ⟨q1, hq1⟩ : ∃ q, hvB ⟨nm, kd, un, h⟩ l = q := ⟨_, rfl⟩
  obtain ⟨q2, hq2⟩ : ∃ q, vpB ⟨x, y, z⟩ = q := ⟨_, rfl⟩
  obtain ⟨q3, hq3⟩ : ∃ q, fitsB ⟨nm, kd, un, h⟩ ⟨m, u⟩ = q := ⟨_, rfl⟩
  rw [hq1] at H1 HD HL8
  rw [hq2] at H4 HD
  rw [hq3] at H5 HD
  clear hq1 hq2 hq3
  have HBX := Lib.hid (BoxR.made (w := w) (nm := nm) (kd := kd) (un := un) (h := h) (x := x) (y := y) (z := z) (m := m) (u := u))
  by_cases hall : q1 = true ∧ q2 = true ∧ q3 = true
  · obtain ⟨rfl, rfl, rfl⟩ := hall
    have hl8 : l.length ≤ 8 := HL8.out rfl
    have HSL : Hid ((setH l ⟨x, y, z⟩ ⟨m, u⟩).length ≤ maxLen) := Lib.hid (by have := setH_len l ⟨x, y, z⟩ ⟨m, u⟩; unfold maxLen; omega)
    have HBD : Hid (BoxR w nm kd un h x y z m u (((w.alloc (.cells #[.string nm, .int .i64 kd, .int .i64 un, .int .i64 h] 44)).alloc (.cells #[.int .i64 x, .int .i64 y, .int .i64 z] 51)).alloc (.cells #[.int .i64 m, .int .i64 u] 53)).drew) := Lib.hid (HBX.out.next (Below.refl _ _).drew)
    go_enter Tryz.func105, Tryz.ntmps105
    go_wp2_with fail
    go_region_held3 (fun w' => w'.cell? ⟨w.heap.size, 0, none⟩ = some (.string nm) ∧ w'.cell? ⟨w.heap.size, 1, none⟩ = some (.int .i64 kd) ∧ w'.cell? ⟨w.heap.size, 2, none⟩ = some (.int .i64 un) ∧ w'.cell? ⟨w.heap.size, 3, none⟩ = some (.int .i64 h) ∧ w'.cell? ⟨w.heap.size + 1, 0, none⟩ = some (.int .i64 x) ∧ w'.cell? ⟨w.heap.size + 1, 1, none⟩ = some (.int .i64 y) ∧ w'.cell? ⟨w.heap.size + 1, 2, none⟩ = some (.int .i64 z) ∧ w'.cell? ⟨w.heap.size + 1 + 1, 0, none⟩ = some (.int .i64 m) ∧ w'.cell? ⟨w.heap.size + 1 + 1, 1, none⟩ = some (.int .i64 u))
      (first | exact HBD.out.cj | exact hC6 | exact hC5 | exact hC4 | exact hC3 | exact hC2)
      ((first
        | (go_at_call 148; refine (H2.out (by omega) _ hX4.bel).mono ?_; rintro e w5 ⟨v5, rfl, hown5, hb5⟩; obtain ⟨A5, cap5, rfl, hr5, hl5, hl5'⟩ := hown5.form; have hX5 := hX4.next hb5; have hC5 := hX5.cj)
        | (go_at_call 103; refine (H3.out A5 w5.heap.size cap5 (setH l ⟨x, y, z⟩ ⟨m, u⟩) w5 HSL.out (Nat.le_refl _) hr5).mono ?_; rintro e w6 ⟨rfl, hb6⟩; have hX6 := hX5.next hb6; have hC6 := hX6.cj)
        | (go_at_call 103; refine (H1.out _ HBD.out.bel).mono ?_; rintro e w2 ⟨rfl, hb2⟩; have hX2 := HBD.out.next hb2; have hC2 := hX2.cj)
        | (go_at_call 58; refine (H4.out _).mono ?_; rintro e w3 ⟨rfl, hb3⟩; have hX3 := hX2.next hb3; have hC3 := hX3.cj)
        | (go_at_call 104; refine (H5.out _).mono ?_; rintro e w4 ⟨rfl, hb4⟩; have hX4 := hX3.next hb4; have hC4 := hX4.cj)))
    all_goals
      go_wp2
      go_ret
      exact ⟨ret_bool HD.out.symm, hX6.bel⟩
  · have HF : Hid (roomB ⟨nm, kd, un, h⟩ l ⟨x, y, z⟩ ⟨m, u⟩ = false) := Lib.hid (by
      rw [HD.out]
      cases q1 <;> cases q2 <;> cases q3 <;> first | rfl | exact absurd ⟨rfl, rfl, rfl⟩ hall)
    have HN := Lib.hid hall
    have C := HBX.out.cel
    obtain ⟨c0, c1, c2, c3, p0, p1, p2, a0, a1, _, _, _⟩ := C
    have g0 := Ext.cell c0
    have g1 := Ext.cell c1
    have g2 := Ext.cell c2
    have g3 := Ext.cell c3
    have g4 := Ext.cell p0
    have g5 := Ext.cell p1
    have g6 := Ext.cell p2
    have g7 := Ext.cell a0
    have g8 := Ext.cell a1
    clear c0 c1 c2 c3 p0 p1 p2 a0 a1 hall
    have H1' : Hid (∀ n : Ext (((w.alloc (.cells #[.string nm, .int .i64 kd, .int .i64 un, .int .i64 h] 44)).alloc (.cells #[.int .i64 x, .int .i64 y, .int .i64 z] 51)).alloc (.cells #[.int .i64 m, .int .i64 u] 53)), Calls Tryz.prog 103 #[.agg #[.string nm, .int .i64 kd, .int .i64 un, .int .i64 h], .slice A l.length cap] n.w (Ret n.w (.bool q1))) := Lib.hid (fun n => H1.out _ (Below.trans HBX.out.bel (n.below.mono HBX.out.bel.size)))
    cases q1 <;> cases q2 <;> cases q3
    all_goals first
      | exact absurd ⟨rfl, rfl, rfl⟩ HN.out
      | skip
    all_goals
      go_enter Tryz.func105, Tryz.ntmps105
      go_wp2_with fail
      refine wp_region_grow (by kernel_rfl) (by kernel_rfl) ?_; (repeat (go_big_quiet_step ((first | (go_at_call 103; exact Ext.call _ (H1'.out _)) | (go_at_call 58; exact Ext.call _ (H4.out _)) | (go_at_call 104; exact Ext.call _ (H5.out _)))))); refine wpQuiet_nil ?_; rintro w2 ⟨n2, rfl⟩; have hb2 := n2.below; generalize n2.w = w2 at hb2 ⊢; clear n2
      have HB2 := Lib.hid hb2
      clear hb2
      go_wp2_with fail
      go_ret
      exact ⟨ret_bool HF.out.symm, by (repeat (first | (with_reducible exact Below.refl _ _) | (with_reducible assumption) | (with_reducible refine below_drewN ?_ _) | (with_reducible refine Below.drew ?_) | (with_reducible refine Below.al ?_ _) | (with_reducible refine Below.st ?_ (by simp; try omega)) | (with_reducible refine Below.tr ?_ (Hid.out (by assumption))) | (with_reducible exact Hid.out (by assumption))))⟩
end Go.Proofs.YtogeihdfmnohnaaGreatDoor
namespace Go.Proofs.YtogeihdfmnohnaaGreatDoor
open Go.RowKit
structure Qu where
  res : Rs
  holds : List Ho
  convs : List Wt
  waits : List Wt
  gen : Int
def Qu.val (q : Qu) (A1 A2 A3 : Option Addr) (c1 c2 c3 : Nat) : Value := .agg #[.string q.res.name, .int .i64 q.res.kind, .int .i64 q.res.units, .int .i64 q.res.home, .slice A1 q.holds.length c1, .slice A2 q.convs.length c2, .slice A3 q.waits.length c3, .int .i64 q.gen]
structure QF (w : World) (B : Nat) (A1 A2 A3 : Option Addr) (q : Qu) : Prop where
  r1 : RowsAt hoE w (Lo B) A1 q.holds
  r2 : RowsAt wtE w (Lo B) A2 q.convs
  r3 : RowsAt wtE w (Lo B) A3 q.waits
  m1 : q.holds.length ≤ maxLen
  m2 : q.convs.length ≤ maxLen
  m3 : q.waits.length ≤ maxLen
  hB : B ≤ w.heap.size
theorem QF.below {w w' : World} {B : Nat} {A1 A2 A3 : Option Addr} {q : Qu} (f : QF w B A1 A2 A3 q) (hb : Below w.heap.size w w') : QF w' B A1 A2 A3 q :=
  ⟨f.r1.below hb f.hB (Nat.le_refl _), f.r2.below hb f.hB (Nat.le_refl _), f.r3.below hb f.hB (Nat.le_refl _), f.m1, f.m2, f.m3, Nat.le_trans f.hB hb.size⟩
structure BoxQ (w : World) (nm : ByteArray) (kd un h : Int) (A1 : Option Addr) (n1 c1 : Nat) (A2 : Option Addr) (n2 c2 : Nat) (A3 : Option Addr) (n3 c3 : Nat) (gen : Int) (v : World) : Prop where
  below : Below w.heap.size w v
  blk : Blk v w.heap.size 48 #[.string nm, .int .i64 kd, .int .i64 un, .int .i64 h, .slice A1 n1 c1, .slice A2 n2 c2, .slice A3 n3 c3, .int .i64 gen]
section
variable {w v v' : World} {nm : ByteArray} {kd un h gen : Int} {A1 A2 A3 : Option Addr} {n1 n2 n3 c1 c2 c3 : Nat}
theorem BoxQ.made : BoxQ w nm kd un h A1 n1 c1 A2 n2 c2 A3 n3 c3 gen (w.alloc (.cells #[.string nm, .int .i64 kd, .int .i64 un, .int .i64 h, .slice A1 n1 c1, .slice A2 n2 c2, .slice A3 n3 c3, .int .i64 gen] 48)) := ⟨Below.al (Below.refl _ _) _, Blk.new _ _ _⟩
theorem BoxQ.next (b : BoxQ w nm kd un h A1 n1 c1 A2 n2 c2 A3 n3 c3 gen v) (hb : Below v.heap.size v v') : BoxQ w nm kd un h A1 n1 c1 A2 n2 c2 A3 n3 c3 gen v' := ⟨Below.tr b.below hb, b.blk.below hb b.blk.lt⟩
structure CelQ (w : World) (nm : ByteArray) (kd un h : Int) (A1 : Option Addr) (n1 c1 : Nat) (A2 : Option Addr) (n2 c2 : Nat) (A3 : Option Addr) (n3 c3 : Nat) (gen : Int) (v : World) : Prop where
  q0 : v.cell? ⟨w.heap.size, 0, none⟩ = some (.string nm)
  q1 : v.cell? ⟨w.heap.size, 1, none⟩ = some (.int .i64 kd)
  q2 : v.cell? ⟨w.heap.size, 2, none⟩ = some (.int .i64 un)
  q3 : v.cell? ⟨w.heap.size, 3, none⟩ = some (.int .i64 h)
  q4 : v.cell? ⟨w.heap.size, 4, none⟩ = some (.slice A1 n1 c1)
  q5 : v.cell? ⟨w.heap.size, 5, none⟩ = some (.slice A2 n2 c2)
  q6 : v.cell? ⟨w.heap.size, 6, none⟩ = some (.slice A3 n3 c3)
  q7 : v.cell? ⟨w.heap.size, 7, none⟩ = some (.int .i64 gen)
  ql : w.heap.size < v.heap.size
theorem BoxQ.cel (b : BoxQ w nm kd un h A1 n1 c1 A2 n2 c2 A3 n3 c3 gen v) : CelQ w nm kd un h A1 n1 c1 A2 n2 c2 A3 n3 c3 gen v := ⟨b.blk.cellx 0 rfl, b.blk.cellx 1 rfl, b.blk.cellx 2 rfl, b.blk.cellx 3 rfl, b.blk.cellx 4 rfl, b.blk.cellx 5 rfl, b.blk.cellx 6 rfl, b.blk.cellx 7 rfl, b.blk.lt⟩
end
def headQ (q : Qu) : Option Wt := match q.convs with | x :: _ => some x | [] => q.waits.head?
def headV : Option Wt → Value
  | some x => .tuple #[x.val, .bool true]
  | none => .tuple #[.agg #[.int .i64 0, .int .i64 0, .int .i64 0, .int .i64 0, .int .i64 0, .int .i64 0, .int .i64 0], .bool false]
set_option maxHeartbeats 1600000 in
theorem Held_any (q : Qu) (A1 A2 A3 : Option Addr) (c1 c2 c3 : Nat) (x y z : Int) (w : World) (B : Nat) (hq : QF w B A1 A2 A3 q) :
    Calls Tryz.prog 176 #[q.val A1 A2 A3 c1 c2 c3, .agg #[.int .i64 x, .int .i64 y, .int .i64 z]] w (Ret w (getH q.holds ⟨x, y, z⟩).val) := by
  obtain ⟨⟨nm, kd, un, h⟩, hs, cs, ws, gen⟩ := q
  have HG := Lib.hid (fun W (hb : Below w.heap.size w W) => Get_any A1 B c1 hs x y z W hq.m1 (Nat.le_trans hq.hB hb.size) (hq.r1.below hb hq.hB (Nat.le_refl _)))
  unfold Qu.val
  dsimp only
  obtain ⟨⟨gm, gu⟩, hg⟩ : ∃ a, getH hs ⟨x, y, z⟩ = a := ⟨_, rfl⟩
  rw [hg] at HG ⊢
  unfold Am.val at *
  clear hg hq
  go_enter Tryz.func176, Tryz.ntmps176
  go_wp2_with fail
  refine (HG.out _ (by (repeat (first | (with_reducible exact Below.refl _ _) | (with_reducible assumption) | (with_reducible refine below_drewN ?_ _) | (with_reducible refine Below.drew ?_) | (with_reducible refine Below.al ?_ _) | (with_reducible refine Below.st ?_ (by simp; try omega)) | (with_reducible refine Below.tr ?_ (Hid.out (by assumption))) | (with_reducible exact Hid.out (by assumption)))))).mono ?_
  rintro e w2 ⟨rfl, hb2⟩
  obtain ⟨hc_w2, hf_w2⟩ := bcell hb2
  have hs_w2 := hb2.size
  (try simp at hs_w2)
  have hz_w2_0 : w.heap.size < w2.heap.size := (by omega)
  have hz_w2_1 : w.heap.size + 1 < w2.heap.size := (by omega)
  have hz_w2_2 : w.heap.size + 1 + 1 < w2.heap.size := (by omega)
  clear hs_w2
  have HB2 := Lib.hid hb2
  clear hb2
  go_wp2_with fail
  refine bodyPost_ret_by (v := _) ?_ rfl ⟨rfl, by (repeat (first | (with_reducible exact Below.refl _ _) | (with_reducible assumption) | (with_reducible refine below_drewN ?_ _) | (with_reducible refine Below.drew ?_) | (with_reducible refine Below.al ?_ _) | (with_reducible refine Below.st ?_ (by simp; try omega)) | (with_reducible refine Below.tr ?_ (Hid.out (by assumption))) | (with_reducible exact Hid.out (by assumption))))⟩
  rw [results_cell rfl]
  go_simp
set_option maxHeartbeats 3200000 in
theorem head_any (q : Qu) (A1 A2 A3 : Option Addr) (c1 c2 c3 : Nat) (w : World) (B : Nat) (hq : QF w B A1 A2 A3 q) :
    Calls Tryz.prog 112 #[q.val A1 A2 A3 c1 c2 c3] w (Ret w (headV (headQ q))) := by
  obtain ⟨⟨nm, kd, un, h⟩, hs, cs, ws, gen⟩ := q
  unfold Qu.val headQ
  dsimp only
  have HBQ := Lib.hid (Below.refl w.heap.size w)
  rcases cs with _ | ⟨⟨⟨a, b, c⟩, ⟨m, u⟩, pr, pa⟩, cs⟩
  · rcases ws with _ | ⟨⟨⟨a, b, c⟩, ⟨m, u⟩, pr, pa⟩, ws⟩
    · clear hq
      go_enter Tryz.func112, Tryz.ntmps112
      go_wp2_with fail
      refine bodyPost_ret_by (v := _) ?_ rfl ⟨rfl, by (repeat (first | (with_reducible exact Below.refl _ _) | (with_reducible assumption) | (with_reducible refine below_drewN ?_ _) | (with_reducible refine Below.drew ?_) | (with_reducible refine Below.al ?_ _) | (with_reducible refine Below.st ?_ (by simp; try omega)) | (with_reducible refine Below.tr ?_ (Hid.out (by assumption))) | (with_reducible exact Hid.out (by assumption))))⟩
      rw [results_cell_tmp rfl]
      go_simp
      rfl
    · obtain ⟨g, off, rfl, hbl, d0, d1, d2, d3, d4, d5, d6⟩ := wt_cells hq.r3 (i := 0) (by simp) rfl
      have hgl : g < w.heap.size := Nat.lt_of_lt_of_le hbl hq.hB
      simp only [Nat.zero_mul, Nat.add_zero] at d0 d1 d2 d3 d4 d5 d6
      clear hq hbl
      go_enter Tryz.func112, Tryz.ntmps112
      go_wp2_with fail
      refine bodyPost_ret_by (v := _) ?_ rfl ⟨rfl, by (repeat (first | (with_reducible exact Below.refl _ _) | (with_reducible assumption) | (with_reducible refine below_drewN ?_ _) | (with_reducible refine Below.drew ?_) | (with_reducible refine Below.al ?_ _) | (with_reducible refine Below.st ?_ (by simp; try omega)) | (with_reducible refine Below.tr ?_ (Hid.out (by assumption))) | (with_reducible exact Hid.out (by assumption))))⟩
      rw [results_cell_tmp rfl]
      go_simp
      rfl
  · obtain ⟨g, off, rfl, hbl, d0, d1, d2, d3, d4, d5, d6⟩ := wt_cells hq.r2 (i := 0) (by simp) rfl
    have hgl : g < w.heap.size := Nat.lt_of_lt_of_le hbl hq.hB
    simp only [Nat.zero_mul, Nat.add_zero] at d0 d1 d2 d3 d4 d5 d6
    clear hq hbl
    go_enter Tryz.func112, Tryz.ntmps112
    go_wp2_with fail
    refine bodyPost_ret_by (v := _) ?_ rfl ⟨rfl, by (repeat (first | (with_reducible exact Below.refl _ _) | (with_reducible assumption) | (with_reducible refine below_drewN ?_ _) | (with_reducible refine Below.drew ?_) | (with_reducible refine Below.al ?_ _) | (with_reducible refine Below.st ?_ (by simp; try omega)) | (with_reducible refine Below.tr ?_ (Hid.out (by assumption))) | (with_reducible exact Hid.out (by assumption))))⟩
    rw [results_cell_tmp rfl]
    go_simp
    rfl
set_option maxHeartbeats 3200000 in
theorem rHead_any (q : Qu) (A1 A2 A3 : Option Addr) (c1 c2 c3 : Nat) (w : World) (B : Nat) (hq : QF w B A1 A2 A3 q) :
    Calls Tryz.prog 172 #[q.val A1 A2 A3 c1 c2 c3] w (Ret w (headV (headQ q))) := by
  obtain ⟨⟨nm, kd, un, h⟩, hs, cs, ws, gen⟩ := q
  unfold Qu.val headQ
  dsimp only
  have HBQ := Lib.hid (Below.refl w.heap.size w)
  rcases cs with _ | ⟨⟨⟨a, b, c⟩, ⟨m, u⟩, pr, pa⟩, cs⟩
  · rcases ws with _ | ⟨⟨⟨a, b, c⟩, ⟨m, u⟩, pr, pa⟩, ws⟩
    · clear hq
      go_enter Tryz.func172, Tryz.ntmps172
      go_wp2_with fail
      refine bodyPost_ret_by (v := _) ?_ rfl ⟨rfl, by (repeat (first | (with_reducible exact Below.refl _ _) | (with_reducible assumption) | (with_reducible refine below_drewN ?_ _) | (with_reducible refine Below.drew ?_) | (with_reducible refine Below.al ?_ _) | (with_reducible refine Below.st ?_ (by simp; try omega)) | (with_reducible refine Below.tr ?_ (Hid.out (by assumption))) | (with_reducible exact Hid.out (by assumption))))⟩
      rw [results_cell_tmp rfl]
      go_simp
      rfl
    · obtain ⟨g, off, rfl, hbl, d0, d1, d2, d3, d4, d5, d6⟩ := wt_cells hq.r3 (i := 0) (by simp) rfl
      have hgl : g < w.heap.size := Nat.lt_of_lt_of_le hbl hq.hB
      simp only [Nat.zero_mul, Nat.add_zero] at d0 d1 d2 d3 d4 d5 d6
      clear hq hbl
      go_enter Tryz.func172, Tryz.ntmps172
      go_wp2_with fail
      refine bodyPost_ret_by (v := _) ?_ rfl ⟨rfl, by (repeat (first | (with_reducible exact Below.refl _ _) | (with_reducible assumption) | (with_reducible refine below_drewN ?_ _) | (with_reducible refine Below.drew ?_) | (with_reducible refine Below.al ?_ _) | (with_reducible refine Below.st ?_ (by simp; try omega)) | (with_reducible refine Below.tr ?_ (Hid.out (by assumption))) | (with_reducible exact Hid.out (by assumption))))⟩
      rw [results_cell_tmp rfl]
      go_simp
      rfl
  · obtain ⟨g, off, rfl, hbl, d0, d1, d2, d3, d4, d5, d6⟩ := wt_cells hq.r2 (i := 0) (by simp) rfl
    have hgl : g < w.heap.size := Nat.lt_of_lt_of_le hbl hq.hB
    simp only [Nat.zero_mul, Nat.add_zero] at d0 d1 d2 d3 d4 d5 d6
    clear hq hbl
    go_enter Tryz.func172, Tryz.ntmps172
    go_wp2_with fail
    refine bodyPost_ret_by (v := _) ?_ rfl ⟨rfl, by (repeat (first | (with_reducible exact Below.refl _ _) | (with_reducible assumption) | (with_reducible refine below_drewN ?_ _) | (with_reducible refine Below.drew ?_) | (with_reducible refine Below.al ?_ _) | (with_reducible refine Below.st ?_ (by simp; try omega)) | (with_reducible refine Below.tr ?_ (Hid.out (by assumption))) | (with_reducible exact Hid.out (by assumption))))⟩
    rw [results_cell_tmp rfl]
    go_simp
    rfl
end Go.Proofs.YtogeihdfmnohnaaGreatDoor
