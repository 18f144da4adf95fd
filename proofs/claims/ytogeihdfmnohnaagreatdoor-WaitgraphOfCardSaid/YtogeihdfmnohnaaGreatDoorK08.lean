/- Part 8 of 49 of the proof of waitgraphOf_holds (no condition). -/
import Derived.Test.YtogeihdfmnohnaaGreatDoorK03
import Derived.Test.YtogeihdfmnohnaaGreatDoorK07
import Derived.Test.YtogeihdfmnohnaaGreatDoorK05
import Derived.Deep.RegionHeld3
set_option linter.unusedVariables false
set_option linter.unusedSimpArgs false
namespace Go.Proofs.YtogeihdfmnohnaaGreatDoor
open Go.RowKit
set_option maxRecDepth 100000 in
set_option maxHeartbeats 1600000 in
theorem rCProc_any (p q : Pr) (w : World) : Calls Tryz.prog 60 #[p.val, q.val] w (Ret w (.int .i64 (cmpP p q))) := by
  obtain ⟨a, b, c⟩ := p
  obtain ⟨x, y, z⟩ := q
  unfold Pr.val cmpP
  dsimp only
  obtain ⟨r1, h1⟩ : ∃ r, ordI a x = r := ⟨_, rfl⟩
  obtain ⟨r2, h2⟩ : ∃ r, ordI b y = r := ⟨_, rfl⟩
  obtain ⟨r3, h3⟩ : ∃ r, ordI c z = r := ⟨_, rfl⟩
  rw [h1, h2, h3]
  obtain ⟨r, hr⟩ : ∃ r, (if r1 ≠ 0 then r1 else if r2 ≠ 0 then r2 else r3) = r := ⟨_, rfl⟩
  rw [hr]
  have HR := Lib.hid hr
  have G1 : Hid (∀ W : World, Calls Tryz.prog 97 #[.int .i64 a, .int .i64 x] W (Same W (.int .i64 r1))) := Lib.hid (fun W => by have := Order_any a x W; rw [h1] at this; exact this)
  have G2 : Hid (∀ W : World, Calls Tryz.prog 97 #[.int .i64 b, .int .i64 y] W (Same W (.int .i64 r2))) := Lib.hid (fun W => by have := Order_any b y W; rw [h2] at this; exact this)
  have G3 : Hid (∀ W : World, Calls Tryz.prog 97 #[.int .i64 c, .int .i64 z] W (Same W (.int .i64 r3))) := Lib.hid (fun W => by have := Order_any c z W; rw [h3] at this; exact this)
  clear hr h1 h2 h3
  go_enter Tryz.func60, Tryz.ntmps60
  go_wp2_with fail
  refine (G1.out _).mono ?_
  rintro e w' ⟨rfl, rfl⟩
  go_wp2_with fail
  rotate_left
  refine (G2.out _).mono ?_
  rintro e w' ⟨rfl, rfl⟩
  go_wp2_with fail
  rotate_left
  refine (G3.out _).mono ?_
  rintro e w' ⟨rfl, rfl⟩
  go_wp2_with fail
  all_goals go_ret
  all_goals refine ⟨ret_int ?_, ((Below.refl _ _).alloc (Nat.le_refl _) _).alloc (by simp) _⟩
  all_goals rw [← HR.out]
  all_goals (clear HR G1 G2 G3; simp_all)
end Go.Proofs.YtogeihdfmnohnaaGreatDoor
namespace Go.Proofs.YtogeihdfmnohnaaGreatDoor
open Go.RowKit
set_option maxRecDepth 100000 in
set_option maxHeartbeats 6400000 in
theorem rHValid_any (r : Rs) (A : Option Addr) (B cap : Nat) (l : List Ho) (w : World) (hm : l.length ≤ maxLen) (hB : B ≤ w.heap.size) (hr : RowsAt hoE w (Lo B) A l) :
    Calls Tryz.prog 103 #[r.val, .slice A l.length cap] w (Ret w (.bool (hvB r l))) := by
  unfold maxLen at hm
  have HR := Lib.hid hr
  clear hr
  have HS := Lib.hid (fun W => rShaped_any r W)
  have HF := Lib.hid (fun m u W => rFits_any r m u W)
  have HV := Lib.hid (fun p W => rVProc_any p W)
  have HC := Lib.hid (fun p q W => rCProc_any p q W)
  have HAM := Lib.hid (fun A B cap l W hm hB hr => rAmounts_any A B cap l W hm hB hr)
  have HCM := Lib.hid (fun A B cap l W hm hB hr => rCompatible_any r A B cap l W hm hB hr)
  obtain ⟨q, hq⟩ : ∃ q, hvB r l = q := ⟨_, rfl⟩
  rw [hq]
  have HQ0 := Lib.hid hq
  clear hq
  by_cases hs : shapedB r = true ∧ l.length ≤ 8
  · obtain ⟨hs, h8⟩ := hs
    have h8i : ¬ (8 : Int) < (l.length : Int) := by omega
    have HQ : Hid ((chkH r none l && compB r (amsL l)) = q) := Lib.hid (by have h := HQ0.out; unfold hvB at h; rw [hs, decide_eq_true h8] at h; exact h)
    rw [hs] at HS
    clear hs HQ0
    obtain ⟨nm, kd, un, h⟩ := r
    unfold Rs.val Pr.val at *
    go_enter Tryz.func103, Tryz.ntmps103
    go_wp2_with fail
    refine (HS.out _).mono ?_
    rintro e w1 ⟨rfl, hb1⟩
    have HB1 := Lib.hid hb1
    have HBW1 : Hid (Below w.heap.size w w1) := Lib.hid (by (repeat (first | (with_reducible exact Below.refl _ _) | (with_reducible assumption) | (with_reducible refine below_drewN ?_ _) | (with_reducible refine Below.drew ?_) | (with_reducible refine Below.al ?_ _) | (with_reducible refine Below.st ?_ (by simp; try omega)) | (with_reducible refine Below.tr ?_ (Hid.out (by assumption))) | (with_reducible exact Hid.out (by assumption)))))
    have HK1 : Hid (Blk w1 w.heap.size 44 #[.string nm, .int .i64 kd, .int .i64 un, .int .i64 h]) := Lib.hid ((Blk.new w 44 #[.string nm, .int .i64 kd, .int .i64 un, .int .i64 h]).below hb1 (by simp))
    clear hb1
    go_wp2_with fail
    go_loopg [5] l.length (fun m v5 wq => ∃ k : Nat, v5 = .int .i64 (k : Int) ∧ k ≤ l.length ∧ l.length ≤ k + m ∧ Hid ((chkH ⟨nm, kd, un, h⟩ (prevP l k) (l.drop k) && compB ⟨nm, kd, un, h⟩ (amsL l)) = q) ∧ Hid (Below w1.heap.size w1 wq))
    case atStart => exact ⟨0, rfl, Nat.zero_le _, by omega, HQ, Lib.hid (Below.refl _ _)⟩
    case round =>
      obtain ⟨k, rfl, hk, hkm, HI, HBL⟩ := hrel
      have HBW : Hid (Below w.heap.size w wr) := Lib.hid (by (repeat (first | (with_reducible exact Below.refl _ _) | (with_reducible assumption) | (with_reducible refine below_drewN ?_ _) | (with_reducible refine Below.drew ?_) | (with_reducible refine Below.al ?_ _) | (with_reducible refine Below.st ?_ (by simp; try omega)) | (with_reducible refine Below.tr ?_ (Hid.out (by assumption))) | (with_reducible exact Hid.out (by assumption)))))
      have HK : Hid (Blk wr w.heap.size 44 #[.string nm, .int .i64 kd, .int .i64 un, .int .i64 h]) := Lib.hid (HK1.out.below HBL.out HK1.out.lt)
      have g6 := Ext.cell (HK.out.cellx 0 (v := .string nm) rfl)
      have g7 := Ext.cell (HK.out.cellx 1 (v := .int .i64 kd) rfl)
      have g8 := Ext.cell (HK.out.cellx 2 (v := .int .i64 un) rfl)
      have g9 := Ext.cell (HK.out.cellx 3 (v := .int .i64 h) rfl)
      by_cases hlt : k < l.length
      · obtain ⟨⟨⟨a, b, c⟩, ⟨m, u⟩⟩, hx⟩ : ∃ x, l[k] = x := ⟨_, rfl⟩
        obtain ⟨g, off, rfl, hbl, c0, c1, c2, c3, c4⟩ := ho_cells (HR.out.below (B'' := w.heap.size) HBW.out hB hB) hlt hx
        have hbl2 : g < wr.heap.size := Nat.lt_of_lt_of_le hbl HBW.out.size
        have hlti : (k : Int) < (l.length : Int) := by omega
        have HST : Hid ((vpB ⟨a, b, c⟩ && fitsB ⟨nm, kd, un, h⟩ ⟨m, u⟩ && (match prevP l k with | none => true | some p => decide (cmpP p ⟨a, b, c⟩ < 0)) && chkH ⟨nm, kd, un, h⟩ (prevP l (k + 1)) (l.drop (k + 1)) && compB ⟨nm, kd, un, h⟩ (amsL l)) = q) := Lib.hid (by
          have h1 := HI.out
          rw [drop_step hlt hx, chkH_cons] at h1
          rw [prevP_succ hlt hx]
          exact h1)
        have HX := Lib.hid hx
        obtain ⟨p1, hp1⟩ : ∃ p, vpB ⟨a, b, c⟩ = p := ⟨_, rfl⟩
        obtain ⟨p2, hp2⟩ : ∃ p, fitsB ⟨nm, kd, un, h⟩ ⟨m, u⟩ = p := ⟨_, rfl⟩
        have HV1 : Hid (∀ W, Calls Tryz.prog 58 #[.agg #[.int .i64 a, .int .i64 b, .int .i64 c]] W (Ret W (.bool p1))) := Lib.hid (fun W => hp1 ▸ HV.out ⟨a, b, c⟩ W)
        have HF1 : Hid (∀ W, Calls Tryz.prog 104 #[.agg #[.string nm, .int .i64 kd, .int .i64 un, .int .i64 h], .agg #[.int .i64 m, .int .i64 u]] W (Ret W (.bool p2))) := Lib.hid (fun W => hp2 ▸ HF.out m u W)
        rw [hp1, hp2] at HST
        have g0 := Ext.cell c0
        have g1 := Ext.cell c1
        have g2 := Ext.cell c2
        have g3 := Ext.cell c3
        have g4 := Ext.cell c4
        clear hp1 hp2 hx hbl c0 c1 c2 c3 c4
        rcases Nat.eq_zero_or_pos k with hk0 | hk0
        · have hd : decide ((0 : Int) < (k : Int)) = false := decide_eq_false (by omega)
          have hd' : decide (0 < k) = false := decide_eq_false (by omega)
          have HNX : Hid ((p1 && p2 && (chkH ⟨nm, kd, un, h⟩ (prevP l (k + 1)) (l.drop (k + 1)) && compB ⟨nm, kd, un, h⟩ (amsL l))) = q) := Lib.hid (by have h1 := HST.out; rw [hk0, prevP_zero] at h1; rw [hk0]; simpa [Bool.and_assoc] using h1)
          clear hk0
          cases p1 <;> cases p2
          all_goals
            go_wp2_with fail
            refine wp_region_grow (by kernel_rfl) (by kernel_rfl) ?_; (repeat (go_big_quiet_step ((first | (go_at_call 58; exact Ext.call _ (HV1.out _)) | (go_at_call 104; exact Ext.call _ (HF1.out _)))))); refine wpQuiet_nil ?_; rintro w2 ⟨n2, rfl⟩; have hb2 := n2.below; generalize n2.w = w2 at hb2 ⊢; clear n2
            have HB3 := Lib.hid hb2
            clear hb2
            go_wp2_with fail
            first
              | (go_ret; exact ⟨ret_bool (show false = q from HNX.out), by (repeat (first | (with_reducible exact Below.refl _ _) | (with_reducible assumption) | (with_reducible refine below_drewN ?_ _) | (with_reducible refine Below.drew ?_) | (with_reducible refine Below.al ?_ _) | (with_reducible refine Below.st ?_ (by simp; try omega)) | (with_reducible refine Below.tr ?_ (Hid.out (by assumption))) | (with_reducible exact Hid.out (by assumption))))⟩)
              | (go_roundg (gk - 1); (case measure => omega); (case rel => exact ⟨k + 1, by go_num, by omega, by omega, Lib.hid HNX.out, Lib.hid (Below.tr HBL.out HB3.out)⟩))
        · have hd : decide ((0 : Int) < (k : Int)) = true := decide_eq_true (by omega)
          have hd' : decide (0 < k) = true := decide_eq_true (by omega)
          have hki : IntKind.i64.wrap ((k : Int) - 1) = ((k - 1 : Nat) : Int) := by rw [IntWalk.i64_in _ (by omega)]; omega
          obtain ⟨⟨⟨a', b', c'⟩, ⟨m', u'⟩⟩, hx'⟩ : ∃ x, l[k - 1]'(by omega) = x := ⟨_, rfl⟩
          obtain ⟨_, _, hA, _, d0, d1, d2, _, _⟩ := ho_cells (HR.out.below (B'' := w.heap.size) HBW.out hB hB) (show k - 1 < l.length by omega) hx'
          injection hA with hA
          injection hA with e1 e2
          subst e1
          subst e2
          have g10 := Ext.cell d0
          have g11 := Ext.cell d1
          have g12 := Ext.cell d2
          have hkl : ((k - 1 : Nat) : Int) < (l.length : Int) := by omega
          obtain ⟨n, hn⟩ : ∃ n, cmpP ⟨a', b', c'⟩ ⟨a, b, c⟩ = n := ⟨_, rfl⟩
          have HC1 : Hid (∀ W, Calls Tryz.prog 60 #[.agg #[.int .i64 a', .int .i64 b', .int .i64 c'], .agg #[.int .i64 a, .int .i64 b, .int .i64 c]] W (Ret W (.int .i64 n))) := Lib.hid (fun W => hn ▸ HC.out ⟨a', b', c'⟩ ⟨a, b, c⟩ W)
          have HN : Hid ((p1 && p2 && (decide (n < 0) && (chkH ⟨nm, kd, un, h⟩ (prevP l (k + 1)) (l.drop (k + 1)) && compB ⟨nm, kd, un, h⟩ (amsL l)))) = q) := Lib.hid (by have h1 := HST.out; rw [prevP_pos hk0 (by omega) hx'] at h1; simp only [hn] at h1; simpa [Bool.and_assoc] using h1)
          clear hn hx' d0 d1 d2 HST
          by_cases hnn : n < 0
          · have hge : ¬ (0 : Int) ≤ n := by omega
            have hdd : decide ((0 : Int) ≤ n) = false := decide_eq_false (by omega)
            have HNX : Hid ((p1 && p2 && (chkH ⟨nm, kd, un, h⟩ (prevP l (k + 1)) (l.drop (k + 1)) && compB ⟨nm, kd, un, h⟩ (amsL l))) = q) := Lib.hid (by have h1 := HN.out; rw [decide_eq_true hnn] at h1; exact h1)
            clear hnn HN
            cases p1 <;> cases p2
            all_goals
              go_wp2_with fail
              refine wp_region_grow (by kernel_rfl) (by kernel_rfl) ?_; (repeat (go_big_quiet_step ((first | (go_at_call 58; exact Ext.call _ (HV1.out _)) | (go_at_call 104; exact Ext.call _ (HF1.out _)) | (go_at_call 60; exact Ext.call _ (HC1.out _)))))); refine wpQuiet_nil ?_; rintro w2 ⟨n2, rfl⟩; have hb2 := n2.below; generalize n2.w = w2 at hb2 ⊢; clear n2
              have HB3 := Lib.hid hb2
              clear hb2
              go_wp2_with fail
              first
                | (go_ret; exact ⟨ret_bool (show false = q from HNX.out), by (repeat (first | (with_reducible exact Below.refl _ _) | (with_reducible assumption) | (with_reducible refine below_drewN ?_ _) | (with_reducible refine Below.drew ?_) | (with_reducible refine Below.al ?_ _) | (with_reducible refine Below.st ?_ (by simp; try omega)) | (with_reducible refine Below.tr ?_ (Hid.out (by assumption))) | (with_reducible exact Hid.out (by assumption))))⟩)
                | (go_roundg (gk - 1); (case measure => omega); (case rel => exact ⟨k + 1, by go_num, by omega, by omega, Lib.hid HNX.out, Lib.hid (Below.tr HBL.out HB3.out)⟩))
          · have hge : (0 : Int) ≤ n := by omega
            have hdd : decide ((0 : Int) ≤ n) = true := decide_eq_true (by omega)
            have HQF : Hid (q = false) := Lib.hid (by have h1 := HN.out; rw [decide_eq_false hnn] at h1; rw [← h1]; simp)
            clear hnn HN
            cases p1 <;> cases p2
            all_goals
              go_wp2_with fail
              refine wp_region_grow (by kernel_rfl) (by kernel_rfl) ?_; (repeat (go_big_quiet_step ((first | (go_at_call 58; exact Ext.call _ (HV1.out _)) | (go_at_call 104; exact Ext.call _ (HF1.out _)) | (go_at_call 60; exact Ext.call _ (HC1.out _)))))); refine wpQuiet_nil ?_; rintro w2 ⟨n2, rfl⟩; have hb2 := n2.below; generalize n2.w = w2 at hb2 ⊢; clear n2
              have HB3 := Lib.hid hb2
              clear hb2
              go_wp2_with fail
              go_ret
              exact ⟨ret_bool HQF.out.symm, by (repeat (first | (with_reducible exact Below.refl _ _) | (with_reducible assumption) | (with_reducible refine below_drewN ?_ _) | (with_reducible refine Below.drew ?_) | (with_reducible refine Below.al ?_ _) | (with_reducible refine Below.st ?_ (by simp; try omega)) | (with_reducible refine Below.tr ?_ (Hid.out (by assumption))) | (with_reducible exact Hid.out (by assumption))))⟩
      · have HQT : Hid (compB ⟨nm, kd, un, h⟩ (amsL l) = q) := Lib.hid (by have h1 := HI.out; rw [drop_end hlt] at h1; exact h1)
        have HAL : Hid ((amsL l).length ≤ maxLen) := Lib.hid (by simp [amsL, maxLen]; omega)
        rw [show Rs.mk nm kd un h = ⟨nm, kd, un, h⟩ from rfl] at HQT
        have hlti : ¬ (k : Int) < (l.length : Int) := by omega
        clear g6 g7 g8 g9
        have HBD : Hid (Below w.heap.size w wr.drew) := Lib.hid HBW.out.drew
        have HRW : Hid (RowsAt hoE wr.drew (Lo w.heap.size) A l) := Lib.hid (HR.out.below (B'' := w.heap.size) HBD.out hB hB)
        have HKD : Hid (Blk wr.drew w.heap.size 44 #[.string nm, .int .i64 kd, .int .i64 un, .int .i64 h]) := Lib.hid HK.out
        go_wp2_with fail
        go_region_held3 (fun w' => w'.cell? ⟨w.heap.size, 0, none⟩ = some (.string nm) ∧ w'.cell? ⟨w.heap.size, 1, none⟩ = some (.int .i64 kd) ∧ w'.cell? ⟨w.heap.size, 2, none⟩ = some (.int .i64 un) ∧ w'.cell? ⟨w.heap.size, 3, none⟩ = some (.int .i64 h))
          (first
            | exact ⟨HKD.out.cellx 0 rfl, HKD.out.cellx 1 rfl, HKD.out.cellx 2 rfl, HKD.out.cellx 3 rfl⟩
            | exact hC3 | exact hC2)
          ((first
            | (go_at_call 146; refine (HAM.out A w.heap.size cap l _ (by omega) HBD.out.size HRW.out).mono ?_; rintro e w2 ⟨v2, rfl, hown2, hb2⟩; obtain ⟨A2, c2, rfl, hr2, hl2, hl2'⟩ := hown2.form; have hK2 : Blk w2 w.heap.size 44 #[.string nm, .int .i64 kd, .int .i64 un, .int .i64 h] := HKD.out.below hb2 HKD.out.lt; have hB2 : Below w.heap.size w w2 := Below.tr HBD.out hb2; have hC2 := And.intro (hK2.cellx 0 (v := .string nm) rfl) (And.intro (hK2.cellx 1 (v := .int .i64 kd) rfl) (And.intro (hK2.cellx 2 (v := .int .i64 un) rfl) (hK2.cellx 3 (v := .int .i64 h) rfl))))
            | (go_at_call 70; refine (HCM.out A2 w2.heap.size c2 (amsL l) w2 HAL.out (Nat.le_refl _) hr2).mono ?_; rintro e w3 ⟨rfl, hb3⟩; have hB3 : Below w.heap.size w w3 := Below.tr hB2 hb3; have hK3 := hK2.below hb3 hK2.lt; have hC3 := And.intro (hK3.cellx 0 (v := .string nm) rfl) (And.intro (hK3.cellx 1 (v := .int .i64 kd) rfl) (And.intro (hK3.cellx 2 (v := .int .i64 un) rfl) (hK3.cellx 3 (v := .int .i64 h) rfl))))))
        all_goals
          go_wp2
          go_ret
          exact ⟨ret_bool HQT.out, hB3⟩
  · have HQF : Hid (q = false) := Lib.hid (by
      rw [← HQ0.out]
      unfold hvB
      cases hc : shapedB r with
      | false => rfl
      | true =>
        rw [decide_eq_false (fun h => hs ⟨hc, h⟩)]
        rfl)
    have HNS := Lib.hid hs
    clear hs HQ0
    by_cases h8 : l.length ≤ 8
    · have hs : shapedB r = false := Bool.eq_false_iff.2 fun h => HNS.out ⟨h, h8⟩
      rw [hs] at HS
      clear hs
      obtain ⟨nm, kd, un, h⟩ := r
      unfold Rs.val at *
      go_enter Tryz.func103, Tryz.ntmps103
      go_wp2_with fail
      repeat' (first
        | (go_at_call 106; refine (HS.out _).mono ?_; rintro e wa1 ⟨rfl, hb_wa1⟩; obtain ⟨hc_wa1, hf_wa1⟩ := bcell hb_wa1; have hs_wa1 := hb_wa1.size; (try simp at hs_wa1); have hz_wa1_w_0 : w.heap.size < wa1.heap.size := (by omega); clear hs_wa1; have HB_wa1 := Lib.hid hb_wa1; clear hb_wa1; go_wp2_with fail)
        | (go_ret; exact ⟨ret_bool HQF.out.symm, by (repeat (first | (with_reducible exact Below.refl _ _) | (with_reducible assumption) | (with_reducible refine below_drewN ?_ _) | (with_reducible refine Below.drew ?_) | (with_reducible refine Below.al ?_ _) | (with_reducible refine Below.st ?_ (by simp; try omega)) | (with_reducible refine Below.tr ?_ (Hid.out (by assumption))) | (with_reducible exact Hid.out (by assumption))))⟩))
    · have h8i : (8 : Int) < (l.length : Int) := by omega
      obtain ⟨nm, kd, un, h⟩ := r
      unfold Rs.val at *
      go_enter Tryz.func103, Tryz.ntmps103
      go_wp2_with fail
      repeat' (first
        | (go_at_call 106; refine (HS.out _).mono ?_; rintro e wa1 ⟨rfl, hb_wa1⟩; obtain ⟨hc_wa1, hf_wa1⟩ := bcell hb_wa1; have hs_wa1 := hb_wa1.size; (try simp at hs_wa1); have hz_wa1_w_0 : w.heap.size < wa1.heap.size := (by omega); clear hs_wa1; have HB_wa1 := Lib.hid hb_wa1; clear hb_wa1; go_wp2_with fail)
        | (go_ret; exact ⟨ret_bool HQF.out.symm, by (repeat (first | (with_reducible exact Below.refl _ _) | (with_reducible assumption) | (with_reducible refine below_drewN ?_ _) | (with_reducible refine Below.drew ?_) | (with_reducible refine Below.al ?_ _) | (with_reducible refine Below.st ?_ (by simp; try omega)) | (with_reducible refine Below.tr ?_ (Hid.out (by assumption))) | (with_reducible exact Hid.out (by assumption))))⟩))
end Go.Proofs.YtogeihdfmnohnaaGreatDoor
namespace Go.Proofs.YtogeihdfmnohnaaGreatDoor
open Go.RowKit
def filP (l : List Ho) (p : Pr) : List Ho := l.filter fun h => !decide (h.proc = p)
def insH (x : Ho) : List Ho → List Ho
  | [] => [x]
  | h :: l => bif decide (0 < cmpP h.proc x.proc) then x :: h :: l else h :: insH x l
def setH (l : List Ho) (p : Pr) (a : Am) : List Ho := bif zeroB a then filP l p else insH ⟨p, a⟩ (filP l p)
theorem filP_cons (h : Ho) (l : List Ho) (p : Pr) : filP (h :: l) p = bif decide (h.proc = p) then filP l p else h :: filP l p := by
  unfold filP
  rw [List.filter_cons]
  cases decide (h.proc = p) <;> rfl
theorem insH_cons (x h : Ho) (l : List Ho) : insH x (h :: l) = bif decide (0 < cmpP h.proc x.proc) then x :: h :: l else h :: insH x l := rfl
set_option maxRecDepth 100000 in
set_option maxHeartbeats 6400000 in
theorem rSet_any (A : Option Addr) (B cap : Nat) (l : List Ho) (x y z m u : Int) (w : World) (hm : l.length ≤ 1000000) (hB : B ≤ w.heap.size) (hr : RowsAt hoE w (Lo B) A l) :
    Calls Tryz.prog 148 #[.slice A l.length cap, .agg #[.int .i64 x, .int .i64 y, .int .i64 z], .agg #[.int .i64 m, .int .i64 u]] w (RetRow hoE 126 w (setH l ⟨x, y, z⟩ ⟨m, u⟩)) := by
  have HR := Lib.hid hr
  clear hr
  have HZ := Lib.hid (fun W => rZero_any m u W)
  have HC := Lib.hid (fun a b c W => rCProc_any ⟨a, b, c⟩ ⟨x, y, z⟩ W)
  unfold Pr.val at HC
  obtain ⟨d0, hd0⟩ : ∃ d, zeroB ⟨m, u⟩ = d := ⟨_, rfl⟩
  rw [hd0] at HZ
  obtain ⟨R, hR⟩ : ∃ R, setH l ⟨x, y, z⟩ ⟨m, u⟩ = R := ⟨_, rfl⟩
  rw [hR]
  have HQ : Hid ([] ++ (bif d0 then filP l ⟨x, y, z⟩ else insH ⟨⟨x, y, z⟩, ⟨m, u⟩⟩ (filP l ⟨x, y, z⟩)) = R) := Lib.hid (by rw [← hR, ← hd0]; rfl)
  clear hR hd0
  go_enter Tryz.func148, Tryz.ntmps148
  go_wp2_with fail
  refine (HZ.out _).mono ?_
  rintro e w1 ⟨rfl, hb1⟩
  have HB1 := Lib.hid hb1
  have HBW1 : Hid (Below w.heap.size w w1) := Lib.hid (by (repeat (first | (with_reducible exact Below.refl _ _) | (with_reducible assumption) | (with_reducible refine below_drewN ?_ _) | (with_reducible refine Below.drew ?_) | (with_reducible refine Below.al ?_ _) | (with_reducible refine Below.st ?_ (by simp; try omega)) | (with_reducible refine Below.tr ?_ (Hid.out (by assumption))) | (with_reducible exact Hid.out (by assumption)))))
  have HP1 : Hid (Blk w1 w.heap.size 51 #[.int .i64 x, .int .i64 y, .int .i64 z]) := Lib.hid (((Blk.new w 51 #[.int .i64 x, .int .i64 y, .int .i64 z]).alloc _).below hb1 (by simp; omega))
  have HA1 : Hid (Blk w1 (w.heap.size + 1) 53 #[.int .i64 m, .int .i64 u]) := Lib.hid ((by have := Blk.new (w.alloc (.cells #[.int .i64 x, .int .i64 y, .int .i64 z] 51)) 53 #[.int .i64 m, .int .i64 u]; simpa using this : Blk _ (w.heap.size + 1) 53 #[.int .i64 m, .int .i64 u]).below hb1 (by simp))
  clear hb1
  go_wp2_with fail
  go_loopg [7, 8, 9] l.length (fun m' v7 v8 v9 wq => ∃ (k : Nat) (dn : Bool) (acc : List Ho), v8 = .bool dn ∧ v9 = .int .i64 (k : Int) ∧ k ≤ l.length ∧ l.length ≤ k + m' ∧ acc.length ≤ k + 1 ∧ Hid (dn = false → acc.length ≤ k) ∧ Hid (OwnRows hoE 126 wq w1.heap.size v7 acc) ∧ Hid (acc ++ (bif dn then filP (l.drop k) ⟨x, y, z⟩ else insH ⟨⟨x, y, z⟩, ⟨m, u⟩⟩ (filP (l.drop k) ⟨x, y, z⟩)) = R) ∧ Hid (Below w1.heap.size w1 wq))
  case atStart => exact ⟨0, d0, [], rfl, rfl, Nat.zero_le _, by omega, by simp, Lib.hid (fun _ => Nat.le_refl _), Lib.hid (OwnRows.nil _ _ _ _ (Nat.le_refl _)), HQ, Lib.hid (Below.refl _ _)⟩
  case round =>
    obtain ⟨k, dn, acc, rfl, rfl, hk, hkm, hacc, HAC, HO, HI, HBL⟩ := hrel
    have HBW : Hid (Below w.heap.size w wr) := Lib.hid (by (repeat (first | (with_reducible exact Below.refl _ _) | (with_reducible assumption) | (with_reducible refine below_drewN ?_ _) | (with_reducible refine Below.drew ?_) | (with_reducible refine Below.al ?_ _) | (with_reducible refine Below.st ?_ (by simp; try omega)) | (with_reducible refine Below.tr ?_ (Hid.out (by assumption))) | (with_reducible exact Hid.out (by assumption)))))
    have HPW : Hid (Blk wr w.heap.size 51 #[.int .i64 x, .int .i64 y, .int .i64 z]) := Lib.hid (HP1.out.below HBL.out HP1.out.lt)
    have HAW : Hid (Blk wr (w.heap.size + 1) 53 #[.int .i64 m, .int .i64 u]) := Lib.hid (HA1.out.below HBL.out HA1.out.lt)
    have p0 := HPW.out.cellx 0 (v := .int .i64 x) rfl
    have p1 := HPW.out.cellx 1 (v := .int .i64 y) rfl
    have p2 := HPW.out.cellx 2 (v := .int .i64 z) rfl
    have hpl : w.heap.size < wr.heap.size := HPW.out.lt
    by_cases hlt : k < l.length
    · obtain ⟨⟨⟨a, b, c⟩, ⟨m', u'⟩⟩, hx⟩ : ∃ x, l[k] = x := ⟨_, rfl⟩
      obtain ⟨g, off, rfl, hbl, c0, c1, c2, c3, c4⟩ := ho_cells (HR.out.below (B'' := w.heap.size) HBW.out hB hB) hlt hx
      have hgw : g < w.heap.size := hbl
      have hbl2 : g < wr.heap.size := Nat.lt_of_lt_of_le hbl HBW.out.size
      have hlti : (k : Int) < (l.length : Int) := by omega
      obtain ⟨_, k1, k2⟩ := cmpPr a b c x y z
      obtain ⟨q, hq⟩ : ∃ q, decide ((⟨a, b, c⟩ : Pr) = ⟨x, y, z⟩) = q := ⟨_, rfl⟩
      obtain ⟨n, hn⟩ : ∃ n, cmpP ⟨a, b, c⟩ ⟨x, y, z⟩ = n := ⟨_, rfl⟩
      have HC1 := Lib.hid (fun W => HC.out a b c W)
      rw [hn] at HC1
      have HST : Hid (acc ++ (bif dn then (bif q then filP (l.drop (k + 1)) ⟨x, y, z⟩ else ⟨⟨a, b, c⟩, ⟨m', u'⟩⟩ :: filP (l.drop (k + 1)) ⟨x, y, z⟩) else insH ⟨⟨x, y, z⟩, ⟨m, u⟩⟩ (bif q then filP (l.drop (k + 1)) ⟨x, y, z⟩ else ⟨⟨a, b, c⟩, ⟨m', u'⟩⟩ :: filP (l.drop (k + 1)) ⟨x, y, z⟩)) = R) := Lib.hid (by
        have h1 := HI.out
        rw [drop_step hlt hx, filP_cons] at h1
        rw [← hq]
        exact h1)
      have HIN : Hid (∀ f, insH ⟨⟨x, y, z⟩, ⟨m, u⟩⟩ (⟨⟨a, b, c⟩, ⟨m', u'⟩⟩ :: f) = bif decide (0 < n) then ⟨⟨x, y, z⟩, ⟨m, u⟩⟩ :: ⟨⟨a, b, c⟩, ⟨m', u'⟩⟩ :: f else ⟨⟨a, b, c⟩, ⟨m', u'⟩⟩ :: insH ⟨⟨x, y, z⟩, ⟨m, u⟩⟩ f) := Lib.hid (fun f => by rw [insH_cons, hn])
      rw [hq] at k1
      have HX := Lib.hid hx
      have HRK : Hid (∀ W, Below w.heap.size w W → RowsAt hoE W (Lo w.heap.size) (some ⟨g, off, none⟩) l) := Lib.hid (fun W h => HR.out.below (B'' := w.heap.size) h hB hB)
      clear hq hx hbl hn
      cases q with
      | true =>
        have HNX : Hid (acc ++ (bif dn then filP (l.drop (k + 1)) ⟨x, y, z⟩ else insH ⟨⟨x, y, z⟩, ⟨m, u⟩⟩ (filP (l.drop (k + 1)) ⟨x, y, z⟩)) = R) := Lib.hid HST.out
        go_wp2_with fail
        go_quiet (fail)
        go_wp2_with fail
        go_roundg (gk - 1)
        case measure => omega
        case rel => exact ⟨k + 1, dn, acc, rfl, by go_num, by omega, by omega, by omega, Lib.hid (fun h => by have := HAC.out h; omega), Lib.hid (HO.out.drewN _), HNX, Lib.hid (below_drewN HBL.out _)⟩
      | false =>
        go_wp2_with fail
        go_quiet (fail)
        have g0 := Ext.cell (w0 := World.drewN wr nq) c0
        have g1 := Ext.cell (w0 := World.drewN wr nq) c1
        have g2 := Ext.cell (w0 := World.drewN wr nq) c2
        have g3 := Ext.cell (w0 := World.drewN wr nq) p0
        have g4 := Ext.cell (w0 := World.drewN wr nq) p1
        have g5 := Ext.cell (w0 := World.drewN wr nq) p2
        clear k1 k2
        cases dn with
        | true =>
          have HNX : Hid ((acc ++ [⟨⟨a, b, c⟩, ⟨m', u'⟩⟩]) ++ (bif true then filP (l.drop (k + 1)) ⟨x, y, z⟩ else insH ⟨⟨x, y, z⟩, ⟨m, u⟩⟩ (filP (l.drop (k + 1)) ⟨x, y, z⟩)) = R) := Lib.hid (by have h1 := HST.out; simpa using h1)
          go_wp2_with fail
          refine wp_region_grow (by kernel_rfl) (by kernel_rfl) ?_; (repeat (go_big_quiet_step ((go_at_call 60; exact Ext.call _ (HC1.out _))))); refine wpQuiet_nil ?_; rintro w2 ⟨n2, rfl⟩; have hb2 := n2.below; generalize n2.w = w2 at hb2 ⊢; clear n2
          have HBL2 : Hid (Below w1.heap.size w1 w2) := Lib.hid (Below.tr (below_drewN HBL.out nq) hb2)
          have HBW2 : Hid (Below w.heap.size w w2) := Lib.hid (Below.tr HBW1.out HBL2.out)
          have HO2 := Lib.hid ((HO.out.drewN nq).below (B := (World.drewN wr nq).heap.size) hb2 (Nat.le_refl _))
          clear hb2 g0 g1 g2 g3 g4 g5 c0 c1 c2 c3 c4 p0 p1 p2
          · skip
            obtain ⟨_, _, hA, _, e0, e1, e2, e3, e4⟩ := ho_cells (HRK.out w2 HBW2.out) hlt HX.out
            injection hA with hA
            injection hA with ea eb
            subst ea
            subst eb
            have hgl : g < w2.heap.size := Nat.lt_of_lt_of_le hgw HBW2.out.size
            go_wp2_with (at_builtin; refine pushOneB hoTB rfl (.tmp 43) (.tmp 48) rfl w2 w1.heap.size u7 acc ⟨⟨a, b, c⟩, ⟨m', u'⟩⟩ [.int .i64 a, .int .i64 b, .int .i64 c, .int .i64 m', .int .i64 u'] _ rfl rfl HO2.out w2.heap.size rfl rfl rfl (by (try simp); unfold maxLen; omega) (by (try simp); omega) ?_; intro v7 w7 hown7 hb7 hsp7; have HB7 : Hid (Below w1.heap.size w1 w7) := Lib.hid (HBL2.out.trans hb7); have HO7 := Lib.hid hown7; clear hown7 hb7 hsp7)
            go_roundg (gk - 1)
            case measure => omega
            case rel => exact ⟨k + 1, true, _, rfl, by go_num, by omega, by omega, by (have := HAC.out; simp at this ⊢; omega), Lib.hid (fun h => by cases h), HO7, HNX, HB7⟩
        | false =>
          by_cases hnn : 0 < n
          · have hdn : decide (0 < n) = true := decide_eq_true hnn
            have HNX : Hid (((acc ++ [⟨⟨x, y, z⟩, ⟨m, u⟩⟩]) ++ [⟨⟨a, b, c⟩, ⟨m', u'⟩⟩]) ++ (bif true then filP (l.drop (k + 1)) ⟨x, y, z⟩ else insH ⟨⟨x, y, z⟩, ⟨m, u⟩⟩ (filP (l.drop (k + 1)) ⟨x, y, z⟩)) = R) := Lib.hid (by have h1 := HST.out; simp only [cond_false] at h1; rw [HIN.out, hdn] at h1; simpa using h1)
            go_wp2_with fail
            refine wp_region_grow (by kernel_rfl) (by kernel_rfl) ?_; (repeat (go_big_quiet_step ((go_at_call 60; exact Ext.call _ (HC1.out _))))); refine wpQuiet_nil ?_; rintro w2 ⟨n2, rfl⟩; have hb2 := n2.below; generalize n2.w = w2 at hb2 ⊢; clear n2
            have HBL2 : Hid (Below w1.heap.size w1 w2) := Lib.hid (Below.tr (below_drewN HBL.out nq) hb2)
            have HBW2 : Hid (Below w.heap.size w w2) := Lib.hid (Below.tr HBW1.out HBL2.out)
            have HO2 := Lib.hid ((HO.out.drewN nq).below (B := (World.drewN wr nq).heap.size) hb2 (Nat.le_refl _))
            clear hb2 g0 g1 g2 g3 g4 g5 c0 c1 c2 c3 c4 p0 p1 p2
            have HP2 : Hid (Blk w2 w.heap.size 51 #[.int .i64 x, .int .i64 y, .int .i64 z]) := Lib.hid (HP1.out.below HBL2.out HP1.out.lt)
            have HA2 : Hid (Blk w2 (w.heap.size + 1) 53 #[.int .i64 m, .int .i64 u]) := Lib.hid (HA1.out.below HBL2.out HA1.out.lt)
            have r0 := HP2.out.cellx 0 (v := .int .i64 x) rfl
            have r1 := HP2.out.cellx 1 (v := .int .i64 y) rfl
            have r2 := HP2.out.cellx 2 (v := .int .i64 z) rfl
            have r3 := HA2.out.cellx 0 (v := .int .i64 m) rfl
            have r4 := HA2.out.cellx 1 (v := .int .i64 u) rfl
            have rl1 : w.heap.size < w2.heap.size := HP2.out.lt
            have rl2 : w.heap.size + 1 < w2.heap.size := HA2.out.lt
            go_wp2_with (at_builtin; first | (refine pushOneB hoTB rfl (.tmp 37) (.tmp 41) rfl w2 w1.heap.size u7 acc ⟨⟨x, y, z⟩, ⟨m, u⟩⟩ [.int .i64 x, .int .i64 y, .int .i64 z, .int .i64 m, .int .i64 u] _ rfl rfl HO2.out w2.heap.size rfl rfl rfl (by unfold maxLen; omega) (by omega) ?_; intro v8 w8 hown8 hb8 hsp8; have HB8 : Hid (Below w1.heap.size w1 w8) := Lib.hid (HBL2.out.trans hb8); have HBW8 : Hid (Below w.heap.size w w8) := Lib.hid (Below.tr HBW1.out HB8.out); have HO8 := Lib.hid hown8; clear hown8 hb8 hsp8; obtain ⟨_, _, hA, _, e0, e1, e2, e3, e4⟩ := ho_cells (HRK.out w8 HBW8.out) hlt HX.out; injection hA with hA; injection hA with ea eb; subst ea; subst eb; have hgl : g < w8.heap.size := Nat.lt_of_lt_of_le hgw HBW8.out.size; clear r0 r1 r2 r3 r4 rl1 rl2) | (refine pushOneB hoTB rfl (.tmp 43) (.tmp 48) rfl w8 w1.heap.size v8 (acc ++ [⟨⟨x, y, z⟩, ⟨m, u⟩⟩]) ⟨⟨a, b, c⟩, ⟨m', u'⟩⟩ [.int .i64 a, .int .i64 b, .int .i64 c, .int .i64 m', .int .i64 u'] _ rfl rfl HO8.out w8.heap.size rfl rfl rfl (by (try simp); unfold maxLen; omega) (by (try simp); omega) ?_; intro v7 w7 hown7 hb7 hsp7; have HB7 : Hid (Below w1.heap.size w1 w7) := Lib.hid (HB8.out.trans hb7); have HO7 := Lib.hid hown7; clear hown7 hb7 hsp7))
            go_roundg (gk - 1)
            case measure => omega
            case rel => exact ⟨k + 1, true, _, rfl, by go_num, by omega, by omega, by (have := HAC.out; simp at this ⊢; omega), Lib.hid (fun h => by cases h), HO7, HNX, HB7⟩
          · have hdn : decide (0 < n) = false := decide_eq_false hnn
            have HNX : Hid ((acc ++ [⟨⟨a, b, c⟩, ⟨m', u'⟩⟩]) ++ (bif false then filP (l.drop (k + 1)) ⟨x, y, z⟩ else insH ⟨⟨x, y, z⟩, ⟨m, u⟩⟩ (filP (l.drop (k + 1)) ⟨x, y, z⟩)) = R) := Lib.hid (by have h1 := HST.out; simp only [cond_false] at h1; rw [HIN.out, hdn] at h1; simpa using h1)
            go_wp2_with fail
            refine wp_region_grow (by kernel_rfl) (by kernel_rfl) ?_; (repeat (go_big_quiet_step ((go_at_call 60; exact Ext.call _ (HC1.out _))))); refine wpQuiet_nil ?_; rintro w2 ⟨n2, rfl⟩; have hb2 := n2.below; generalize n2.w = w2 at hb2 ⊢; clear n2
            have HBL2 : Hid (Below w1.heap.size w1 w2) := Lib.hid (Below.tr (below_drewN HBL.out nq) hb2)
            have HBW2 : Hid (Below w.heap.size w w2) := Lib.hid (Below.tr HBW1.out HBL2.out)
            have HO2 := Lib.hid ((HO.out.drewN nq).below (B := (World.drewN wr nq).heap.size) hb2 (Nat.le_refl _))
            clear hb2 g0 g1 g2 g3 g4 g5 c0 c1 c2 c3 c4 p0 p1 p2
            obtain ⟨_, _, hA, _, e0, e1, e2, e3, e4⟩ := ho_cells (HRK.out w2 HBW2.out) hlt HX.out
            injection hA with hA
            injection hA with ea eb
            subst ea
            subst eb
            have hgl : g < w2.heap.size := Nat.lt_of_lt_of_le hgw HBW2.out.size
            go_wp2_with (at_builtin; refine pushOneB hoTB rfl (.tmp 43) (.tmp 48) rfl w2 w1.heap.size u7 acc ⟨⟨a, b, c⟩, ⟨m', u'⟩⟩ [.int .i64 a, .int .i64 b, .int .i64 c, .int .i64 m', .int .i64 u'] _ rfl rfl HO2.out w2.heap.size rfl rfl rfl (by (try simp); unfold maxLen; omega) (by (try simp); omega) ?_; intro v7 w7 hown7 hb7 hsp7; have HB7 : Hid (Below w1.heap.size w1 w7) := Lib.hid (HBL2.out.trans hb7); have HO7 := Lib.hid hown7; clear hown7 hb7 hsp7)
            go_roundg (gk - 1)
            case measure => omega
            case rel => exact ⟨k + 1, false, _, rfl, by go_num, by omega, by omega, by simp; omega, Lib.hid (fun _ => by have := HAC.out (by simp); simp; omega), HO7, HNX, HB7⟩
    · have hlti : ¬ (k : Int) < (l.length : Int) := by omega
      have HE : Hid (acc ++ (bif dn then [] else [⟨⟨x, y, z⟩, ⟨m, u⟩⟩]) = R) := Lib.hid (by have h1 := HI.out; rw [drop_end hlt] at h1; exact h1)
      cases dn with
      | true =>
        have HE2 : Hid (acc = R) := Lib.hid (by have h1 := HE.out; simpa using h1)
        rw [HE2.out] at HO
        go_wp2_with fail
        go_ret
        exact ⟨_, rfl, HO.out.older HBW1.out.size, HBW.out⟩
      | false =>
        have r3 := HAW.out.cellx 0 (v := .int .i64 m) rfl
        have r4 := HAW.out.cellx 1 (v := .int .i64 u) rfl
        have rl2 : w.heap.size + 1 < wr.heap.size := HAW.out.lt
        go_wp2_with (at_builtin; refine pushOneB hoTB rfl (.tmp 52) (.tmp 56) rfl wr w1.heap.size u7 acc ⟨⟨x, y, z⟩, ⟨m, u⟩⟩ [.int .i64 x, .int .i64 y, .int .i64 z, .int .i64 m, .int .i64 u] _ rfl rfl HO.out wr.heap.size rfl rfl rfl (by unfold maxLen; omega) (by omega) ?_; intro v8 w8 hown8 hb8 hsp8; have HB8 : Hid (Below w1.heap.size w1 w8) := Lib.hid (HBL.out.trans hb8); have HBW8 : Hid (Below w.heap.size w w8) := Lib.hid (Below.tr HBW1.out HB8.out); have HO8 := Lib.hid hown8; clear hown8 hb8 hsp8)
        have HE2 : Hid (acc ++ [⟨⟨x, y, z⟩, ⟨m, u⟩⟩] = R) := Lib.hid HE.out
        rw [HE2.out] at HO8
        go_ret
        exact ⟨_, rfl, HO8.out.older HBW1.out.size, HBW8.out⟩
end Go.Proofs.YtogeihdfmnohnaaGreatDoor
