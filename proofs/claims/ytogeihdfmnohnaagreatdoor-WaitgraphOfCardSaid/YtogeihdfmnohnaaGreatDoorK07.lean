/- Part 7 of 49 of the proof of waitgraphOf_holds (no condition). -/
import Derived.Test.YtogeihdfmnohnaaGreatDoorK05
import Derived.Test.YtogeihdfmnohnaaGreatDoorK06
set_option linter.unusedVariables false
set_option linter.unusedSimpArgs false
namespace Go.Proofs.YtogeihdfmnohnaaGreatDoor
open Go.RowKit
def chkH (r : Rs) : Option Pr → List Ho → Bool
  | _, [] => true
  | p, x :: l => vpB x.proc && fitsB r x.am && (match p with | none => true | some p => decide (cmpP p x.proc < 0)) && chkH r (some x.proc) l
def hvB (r : Rs) (l : List Ho) : Bool := shapedB r && decide (l.length ≤ 8) && chkH r none l && compB r (amsL l)
theorem chkH_cons (r : Rs) (p : Option Pr) (x : Ho) (l : List Ho) : chkH r p (x :: l) = (vpB x.proc && fitsB r x.am && (match p with | none => true | some p => decide (cmpP p x.proc < 0)) && chkH r (some x.proc) l) := rfl
def prevP (l : List Ho) (k : Nat) : Option Pr := if k = 0 then none else (l[k - 1]?).map (·.proc)
theorem prevP_zero (l : List Ho) : prevP l 0 = none := rfl
theorem prevP_succ {l : List Ho} {k : Nat} {x : Ho} (h : k < l.length) (hx : l[k] = x) : prevP l (k + 1) = some x.proc := by
  unfold prevP
  rw [if_neg (by omega), Nat.add_sub_cancel, List.getElem?_eq_getElem h, hx]
  rfl
theorem prevP_pos {l : List Ho} {k : Nat} {x : Ho} (h0 : 0 < k) (h : k - 1 < l.length) (hx : l[k - 1] = x) : prevP l k = some x.proc := by
  unfold prevP
  rw [if_neg (by omega), List.getElem?_eq_getElem h, hx]
  rfl
set_option maxRecDepth 100000 in
set_option maxHeartbeats 6400000 in
theorem HValid_any (r : Rs) (A : Option Addr) (B cap : Nat) (l : List Ho) (w : World) (hT : Tog w) (hm : l.length ≤ maxLen) (hB : B ≤ w.heap.size) (hr : RowsAt hoE w (Lo B) A l) :
    Calls Tryz.prog 136 #[r.val, .slice A l.length cap] w (Ret w (.bool (hvB r l))) := by
  unfold maxLen at hm
  have HR := Lib.hid hr
  have HT := Lib.hid hT
  clear hr hT
  have HS := Lib.hid (fun W => Shaped_any r W)
  have HF := Lib.hid (fun m u W => Fits_any r m u W)
  have HV := Lib.hid (fun p W => VProc_any p W)
  have HC := Lib.hid (fun p q W => CProc_any p q W)
  have HCM := Lib.hid (fun A B cap l W hT hm hB hr => Compatible_any r A B cap l W hT hm hB hr)
  obtain ⟨q, hq⟩ : ∃ q, hvB r l = q := ⟨_, rfl⟩
  rw [hq]
  have HQ0 := Lib.hid hq
  clear hq
  by_cases hs : shapedB r = true ∧ l.length ≤ 8
  · obtain ⟨hs, h8⟩ := hs
    have h8i : ¬ (8 : Int) < (l.length : Int) := by omega
    have HQ : Hid ((chkH r none l && compB r (amsL l)) = q) := Lib.hid (by have h := HQ0.out; unfold hvB at h; rw [hs, decide_eq_true h8] at h; exact h)
    rw [hs] at HS
    clear hs HQ0
    obtain ⟨nm, kd, un, h⟩ := r
    unfold Rs.val Pr.val at *
    go_enter Tryz.func136, Tryz.ntmps136
    go_wp2_with fail
    refine (HS.out _).mono ?_
    rintro e w1 ⟨rfl, hb1⟩
    have HB1 := Lib.hid hb1
    have HBW1 : Hid (Below w.heap.size w w1) := Lib.hid (by (repeat (first | (with_reducible exact Below.refl _ _) | (with_reducible assumption) | (with_reducible refine below_drewN ?_ _) | (with_reducible refine Below.drew ?_) | (with_reducible refine Below.al ?_ _) | (with_reducible refine Below.st ?_ (by simp; try omega)) | (with_reducible refine Below.tr ?_ (Hid.out (by assumption))) | (with_reducible exact Hid.out (by assumption)))))
    have HK1 : Hid (Blk w1 w.heap.size 44 #[.string nm, .int .i64 kd, .int .i64 un, .int .i64 h]) := Lib.hid ((Blk.new w 44 #[.string nm, .int .i64 kd, .int .i64 un, .int .i64 h]).below hb1 (by simp))
    clear hb1
    go_wp2_with fail
    go_loopg [5, 18] l.length (fun m v5 v18 wq => ∃ k : Nat, v18 = .int .i64 (k : Int) ∧ k ≤ l.length ∧ l.length ≤ k + m ∧ Hid (OwnRows amE 53 wq w1.heap.size v5 (amsL (l.take k))) ∧ Hid ((chkH ⟨nm, kd, un, h⟩ (prevP l k) (l.drop k) && compB ⟨nm, kd, un, h⟩ (amsL l)) = q) ∧ Hid (Below w1.heap.size w1 wq))
    case atStart => exact ⟨0, rfl, Nat.zero_le _, by omega, Lib.hid (OwnRows.nil _ _ _ _ (Nat.le_refl _)), HQ, Lib.hid (Below.refl _ _)⟩
    case round =>
      obtain ⟨k, rfl, hk, hkm, HO, HI, HBL⟩ := hrel
      have HBW : Hid (Below w.heap.size w wr) := Lib.hid (by (repeat (first | (with_reducible exact Below.refl _ _) | (with_reducible assumption) | (with_reducible refine below_drewN ?_ _) | (with_reducible refine Below.drew ?_) | (with_reducible refine Below.al ?_ _) | (with_reducible refine Below.st ?_ (by simp; try omega)) | (with_reducible refine Below.tr ?_ (Hid.out (by assumption))) | (with_reducible exact Hid.out (by assumption)))))
      have HK : Hid (Blk wr w.heap.size 44 #[.string nm, .int .i64 kd, .int .i64 un, .int .i64 h]) := Lib.hid (HK1.out.below HBL.out HK1.out.lt)
      have z0 := HK.out.cellx 0 (v := .string nm) rfl
      have z1 := HK.out.cellx 1 (v := .int .i64 kd) rfl
      have z2 := HK.out.cellx 2 (v := .int .i64 un) rfl
      have z3 := HK.out.cellx 3 (v := .int .i64 h) rfl
      have hzl : w.heap.size < wr.heap.size := HK.out.lt
      by_cases hlt : k < l.length
      · obtain ⟨⟨⟨a, b, c⟩, ⟨m, u⟩⟩, hx⟩ : ∃ x, l[k] = x := ⟨_, rfl⟩
        obtain ⟨g, off, rfl, hbl, c0, c1, c2, c3, c4⟩ := ho_cells (HR.out.below (B'' := w.heap.size) HBW.out hB hB) hlt hx
        have hgw : g < w.heap.size := hbl
        have hbl2 : g < wr.heap.size := Nat.lt_of_lt_of_le hbl HBW.out.size
        have hlti : (k : Int) < (l.length : Int) := by omega
        have HE : Hid (amsL (l.take k) ++ [⟨m, u⟩] = amsL (l.take (k + 1))) := Lib.hid (by unfold amsL; rw [List.take_add_one, List.map_append, List.getElem?_eq_getElem hlt, hx]; rfl)
        have HL : Hid ((amsL (l.take k)).length = k) := Lib.hid (by simp [amsL]; omega)
        have HST : Hid ((vpB ⟨a, b, c⟩ && fitsB ⟨nm, kd, un, h⟩ ⟨m, u⟩ && (match prevP l k with | none => true | some p => decide (cmpP p ⟨a, b, c⟩ < 0)) && chkH ⟨nm, kd, un, h⟩ (prevP l (k + 1)) (l.drop (k + 1)) && compB ⟨nm, kd, un, h⟩ (amsL l)) = q) := Lib.hid (by
          have h1 := HI.out
          rw [drop_step hlt hx, chkH_cons] at h1
          rw [prevP_succ hlt hx]
          exact h1)
        have HX := Lib.hid hx
        obtain ⟨p1, hp1⟩ : ∃ p, vpB ⟨a, b, c⟩ = p := ⟨_, rfl⟩
        obtain ⟨p2, hp2⟩ : ∃ p, fitsB ⟨nm, kd, un, h⟩ ⟨m, u⟩ = p := ⟨_, rfl⟩
        have HV1 : Hid (∀ W, Calls Tryz.prog 39 #[.agg #[.int .i64 a, .int .i64 b, .int .i64 c]] W (Ret W (.bool p1))) := Lib.hid (fun W => hp1 ▸ HV.out ⟨a, b, c⟩ W)
        have HF1 : Hid (∀ W, Calls Tryz.prog 137 #[.agg #[.string nm, .int .i64 kd, .int .i64 un, .int .i64 h], .agg #[.int .i64 m, .int .i64 u]] W (Ret W (.bool p2))) := Lib.hid (fun W => hp2 ▸ HF.out m u W)
        rw [hp1, hp2] at HST
        clear hp1 hp2 hx hbl
        cases p1 <;> cases p2
        all_goals
          go_wp2_with fail
          repeat' (first
            | (go_at_call 39; refine (HV1.out _).mono ?_; rintro e wa1 ⟨rfl, hb_wa1⟩; obtain ⟨hc_wa1, hf_wa1⟩ := bcell hb_wa1; have hs_wa1 := hb_wa1.size; (try simp at hs_wa1); have hz_wa1_w_0 : w.heap.size < wa1.heap.size := (by omega); have hz_wa1_wr_0 : wr.heap.size < wa1.heap.size := (by omega); clear hs_wa1; have HB_wa1 := Lib.hid hb_wa1; clear hb_wa1; go_wp2_with fail)
            | (go_at_call 137; refine (HF1.out _).mono ?_; rintro e wa2 ⟨rfl, hb_wa2⟩; obtain ⟨hc_wa2, hf_wa2⟩ := bcell hb_wa2; have hs_wa2 := hb_wa2.size; (try simp at hs_wa2); have hz_wa2_w_0 : w.heap.size < wa2.heap.size := (by omega); have hz_wa2_wr_0 : wr.heap.size < wa2.heap.size := (by omega); clear hs_wa2; have HB_wa2 := Lib.hid hb_wa2; clear hb_wa2; go_wp2_with fail)
            | (go_ret; exact ⟨ret_bool (show false = q from HST.out), by (repeat (first | (with_reducible exact Below.refl _ _) | (with_reducible assumption) | (with_reducible refine below_drewN ?_ _) | (with_reducible refine Below.drew ?_) | (with_reducible refine Below.al ?_ _) | (with_reducible refine Below.st ?_ (by simp; try omega)) | (with_reducible refine Below.tr ?_ (Hid.out (by assumption))) | (with_reducible exact Hid.out (by assumption))))⟩))
        have HBX : Hid (Blk wa2 wr.heap.size 126 #[.int .i64 a, .int .i64 b, .int .i64 c, .int .i64 m, .int .i64 u]) := Lib.hid (((Blk.new wr 126 #[.int .i64 a, .int .i64 b, .int .i64 c, .int .i64 m, .int .i64 u]).below HB_wa1.out (by simp)).below HB_wa2.out (by have := HB_wa1.out.size; simp at this; omega))
        have HBA : Hid (Below wr.heap.size wr wa2) := Lib.hid (by (repeat (first | (with_reducible exact Below.refl _ _) | (with_reducible assumption) | (with_reducible refine below_drewN ?_ _) | (with_reducible refine Below.drew ?_) | (with_reducible refine Below.al ?_ _) | (with_reducible refine Below.st ?_ (by simp; try omega)) | (with_reducible refine Below.tr ?_ (Hid.out (by assumption))) | (with_reducible exact Hid.out (by assumption)))))
        clear hc_wa1 hf_wa1 hc_wa2 hf_wa2 hz_wa1_w_0 hz_wa1_wr_0 hz_wa2_w_0 hz_wa2_wr_0 z0 z1 z2 z3 c0 c1 c2 c3 c4 HB_wa1 HB_wa2
        have g0 := Ext.cell (HBX.out.cellx 0 (v := .int .i64 a) rfl)
        have g1 := Ext.cell (HBX.out.cellx 1 (v := .int .i64 b) rfl)
        have g2 := Ext.cell (HBX.out.cellx 2 (v := .int .i64 c) rfl)
        have HRA : Hid (RowsAt hoE wa2 (Lo w.heap.size) (some ⟨g, off, none⟩) l) := Lib.hid (HR.out.below (B'' := w.heap.size) (Below.tr HBW.out HBA.out) hB hB)
        have hba : wr.heap.size ≤ wa2.heap.size := HBA.out.size
        rcases Nat.eq_zero_or_pos k with hk0 | hk0
        · have hd : decide ((0 : Int) < (k : Int)) = false := decide_eq_false (by omega)
          have hd' : decide (0 < k) = false := decide_eq_false (by omega)
          have HNX : Hid ((chkH ⟨nm, kd, un, h⟩ (prevP l (k + 1)) (l.drop (k + 1)) && compB ⟨nm, kd, un, h⟩ (amsL l)) = q) := Lib.hid (by have h1 := HST.out; rw [hk0, prevP_zero] at h1; rw [hk0]; exact h1)
          clear hk0
          refine wp_region_grow (by kernel_rfl) (by kernel_rfl) ?_; (repeat (go_big_quiet_step (fail))); refine wpQuiet_nil ?_; rintro w2 ⟨n2, rfl⟩; have hb2 := n2.below; generalize n2.w = w2 at hb2 ⊢; clear n2
          have HB3 := Lib.hid hb2
          have HO3 := Lib.hid ((HO.out.below (B := wr.heap.size) HBA.out (Nat.le_refl _)).below (B := wa2.heap.size) hb2 (Nat.le_refl _))
          have HBX3 := Lib.hid (HBX.out.below hb2 HBX.out.lt)
          have y3 := HBX3.out.cellx 3 (v := .int .i64 m) rfl
          have y4 := HBX3.out.cellx 4 (v := .int .i64 u) rfl
          have HBL3 : Hid (Below w1.heap.size w1 w2) := Lib.hid (Below.tr (Below.tr HBL.out HBA.out) hb2)
          clear hb2 g0 g1 g2
          go_wp2_with (at_builtin; refine pushOneB amTB rfl (.tmp 48) (.tmp 51) rfl w2 w1.heap.size u5 _ ⟨m, u⟩ [.int .i64 m, .int .i64 u] _ rfl rfl HO3.out w2.heap.size rfl rfl rfl (by rw [HL.out]; unfold maxLen; omega) (by rw [HL.out]; omega) ?_; intro v7 w7 hown7 hb7 hsp7; have HB7 : Hid (Below w1.heap.size w1 w7) := Lib.hid (HBL3.out.trans hb7); have HO7 := Lib.hid hown7; clear hown7 hb7 hsp7)
          rw [HE.out] at HO7
          go_roundg (gk - 1)
          case measure => omega
          case rel => exact ⟨k + 1, by go_num, by omega, by omega, HO7, HNX, HB7⟩
        · have hd : decide ((0 : Int) < (k : Int)) = true := decide_eq_true (by omega)
          have hd' : decide (0 < k) = true := decide_eq_true (by omega)
          have hki : IntKind.i64.wrap ((k : Int) - 1) = ((k - 1 : Nat) : Int) := by rw [IntWalk.i64_in _ (by omega)]; omega
          obtain ⟨⟨⟨a', b', c'⟩, ⟨m', u'⟩⟩, hx'⟩ : ∃ x, l[k - 1]'(by omega) = x := ⟨_, rfl⟩
          obtain ⟨_, _, hA, _, d0, d1, d2, _, _⟩ := ho_cells HRA.out (show k - 1 < l.length by omega) hx'
          injection hA with hA
          injection hA with e1 e2
          subst e1
          subst e2
          have g3 := Ext.cell d0
          have g4 := Ext.cell d1
          have g5 := Ext.cell d2
          have hkl : ((k - 1 : Nat) : Int) < (l.length : Int) := by omega
          obtain ⟨n, hn⟩ : ∃ n, cmpP ⟨a', b', c'⟩ ⟨a, b, c⟩ = n := ⟨_, rfl⟩
          have HC1 : Hid (∀ W, Calls Tryz.prog 41 #[.agg #[.int .i64 a', .int .i64 b', .int .i64 c'], .agg #[.int .i64 a, .int .i64 b, .int .i64 c]] W (Ret W (.int .i64 n))) := Lib.hid (fun W => hn ▸ HC.out ⟨a', b', c'⟩ ⟨a, b, c⟩ W)
          have HN : Hid ((decide (n < 0) && chkH ⟨nm, kd, un, h⟩ (prevP l (k + 1)) (l.drop (k + 1)) && compB ⟨nm, kd, un, h⟩ (amsL l)) = q) := Lib.hid (by have h1 := HST.out; rw [prevP_pos hk0 (by omega) hx'] at h1; simp only [hn] at h1; exact h1)
          clear hn hx' d0 d1 d2
          by_cases hnn : n < 0
          · have hge : ¬ (0 : Int) ≤ n := by omega
            have hdd : decide ((0 : Int) ≤ n) = false := decide_eq_false (by omega)
            have HNX : Hid ((chkH ⟨nm, kd, un, h⟩ (prevP l (k + 1)) (l.drop (k + 1)) && compB ⟨nm, kd, un, h⟩ (amsL l)) = q) := Lib.hid (by have h1 := HN.out; rw [decide_eq_true hnn] at h1; exact h1)
            clear hnn
            refine wp_region_grow (by kernel_rfl) (by kernel_rfl) ?_; (repeat (go_big_quiet_step ((go_at_call 41; exact Ext.call _ (HC1.out _))))); refine wpQuiet_nil ?_; rintro w2 ⟨n2, rfl⟩; have hb2 := n2.below; generalize n2.w = w2 at hb2 ⊢; clear n2
            have HB3 := Lib.hid hb2
            have HO3 := Lib.hid ((HO.out.below (B := wr.heap.size) HBA.out (Nat.le_refl _)).below (B := wa2.heap.size) hb2 (Nat.le_refl _))
            have HBX3 := Lib.hid (HBX.out.below hb2 HBX.out.lt)
            have y3 := HBX3.out.cellx 3 (v := .int .i64 m) rfl
            have y4 := HBX3.out.cellx 4 (v := .int .i64 u) rfl
            have HBL3 : Hid (Below w1.heap.size w1 w2) := Lib.hid (Below.tr (Below.tr HBL.out HBA.out) hb2)
            clear hb2 g0 g1 g2 g3 g4 g5
            go_wp2_with (at_builtin; refine pushOneB amTB rfl (.tmp 48) (.tmp 51) rfl w2 w1.heap.size u5 _ ⟨m, u⟩ [.int .i64 m, .int .i64 u] _ rfl rfl HO3.out w2.heap.size rfl rfl rfl (by rw [HL.out]; unfold maxLen; omega) (by rw [HL.out]; omega) ?_; intro v7 w7 hown7 hb7 hsp7; have HB7 : Hid (Below w1.heap.size w1 w7) := Lib.hid (HBL3.out.trans hb7); have HO7 := Lib.hid hown7; clear hown7 hb7 hsp7)
            rw [HE.out] at HO7
            go_roundg (gk - 1)
            case measure => omega
            case rel => exact ⟨k + 1, by go_num, by omega, by omega, HO7, HNX, HB7⟩
          · have hge : (0 : Int) ≤ n := by omega
            have hdd : decide ((0 : Int) ≤ n) = true := decide_eq_true (by omega)
            have HQF : Hid (q = false) := Lib.hid (by have h1 := HN.out; rw [decide_eq_false hnn] at h1; exact h1.symm)
            clear hnn
            refine wp_region_grow (by kernel_rfl) (by kernel_rfl) ?_; (repeat (go_big_quiet_step ((go_at_call 41; exact Ext.call _ (HC1.out _))))); refine wpQuiet_nil ?_; rintro w2 ⟨n2, rfl⟩; have hb2 := n2.below; generalize n2.w = w2 at hb2 ⊢; clear n2
            have HB3 := Lib.hid hb2
            clear hb2
            go_wp2_with fail
            go_ret
            exact ⟨ret_bool HQF.out.symm, by (repeat (first | (with_reducible exact Below.refl _ _) | (with_reducible assumption) | (with_reducible refine below_drewN ?_ _) | (with_reducible refine Below.drew ?_) | (with_reducible refine Below.al ?_ _) | (with_reducible refine Below.st ?_ (by simp; try omega)) | (with_reducible refine Below.tr ?_ (Hid.out (by assumption))) | (with_reducible exact Hid.out (by assumption))))⟩
      · have HQT : Hid (compB ⟨nm, kd, un, h⟩ (amsL l) = q) := Lib.hid (by have h1 := HI.out; rw [drop_end hlt] at h1; exact h1)
        have HE : Hid (amsL (l.take k) = amsL l) := Lib.hid (by rw [List.take_of_length_le (by omega)])
        rw [HE.out] at HO
        obtain ⟨A5, cap5, rfl, hr5, hl5, hl5'⟩ := HO.out.form
        have HC5 := Lib.hid (HCM.out A5 wr.heap.size cap5 (amsL l) wr (HT.out.below HBW.out) (Nat.le_trans hl5 hl5') (Nat.le_refl _) hr5)
        rw [HQT.out] at HC5
        clear hr5
        go_wp2_with fail
        refine HC5.out.mono ?_
        rintro e w3 ⟨rfl, hb3⟩
        have HB3 := Lib.hid hb3
        clear hb3
        go_wp2_with fail
        go_ret
        exact ⟨ret_bool rfl, by (repeat (first | (with_reducible exact Below.refl _ _) | (with_reducible assumption) | (with_reducible refine below_drewN ?_ _) | (with_reducible refine Below.drew ?_) | (with_reducible refine Below.al ?_ _) | (with_reducible refine Below.st ?_ (by simp; try omega)) | (with_reducible refine Below.tr ?_ (Hid.out (by assumption))) | (with_reducible exact Hid.out (by assumption))))⟩
  · have HQF : Hid (q = false) := Lib.hid (by
      rw [← HQ0.out]
      unfold hvB
      cases hc : shapedB r with
      | false => rfl
      | true =>
        rw [decide_eq_false (fun h => hs ⟨hc, h⟩)]
        rfl)
    have HNS := Lib.hid hs
    clear hs HQ0
    by_cases h8 : l.length ≤ 8
    · have hs : shapedB r = false := Bool.eq_false_iff.2 fun h => HNS.out ⟨h, h8⟩
      rw [hs] at HS
      clear hs
      obtain ⟨nm, kd, un, h⟩ := r
      unfold Rs.val at *
      go_enter Tryz.func136, Tryz.ntmps136
      go_wp2_with fail
      repeat' (first
        | (go_at_call 92; refine (HS.out _).mono ?_; rintro e wa1 ⟨rfl, hb_wa1⟩; obtain ⟨hc_wa1, hf_wa1⟩ := bcell hb_wa1; have hs_wa1 := hb_wa1.size; (try simp at hs_wa1); have hz_wa1_w_0 : w.heap.size < wa1.heap.size := (by omega); clear hs_wa1; have HB_wa1 := Lib.hid hb_wa1; clear hb_wa1; go_wp2_with fail)
        | (go_ret; exact ⟨ret_bool HQF.out.symm, by (repeat (first | (with_reducible exact Below.refl _ _) | (with_reducible assumption) | (with_reducible refine below_drewN ?_ _) | (with_reducible refine Below.drew ?_) | (with_reducible refine Below.al ?_ _) | (with_reducible refine Below.st ?_ (by simp; try omega)) | (with_reducible refine Below.tr ?_ (Hid.out (by assumption))) | (with_reducible exact Hid.out (by assumption))))⟩))
    · have h8i : (8 : Int) < (l.length : Int) := by omega
      obtain ⟨nm, kd, un, h⟩ := r
      unfold Rs.val at *
      go_enter Tryz.func136, Tryz.ntmps136
      go_wp2_with fail
      repeat' (first
        | (go_at_call 92; refine (HS.out _).mono ?_; rintro e wa1 ⟨rfl, hb_wa1⟩; obtain ⟨hc_wa1, hf_wa1⟩ := bcell hb_wa1; have hs_wa1 := hb_wa1.size; (try simp at hs_wa1); have hz_wa1_w_0 : w.heap.size < wa1.heap.size := (by omega); clear hs_wa1; have HB_wa1 := Lib.hid hb_wa1; clear hb_wa1; go_wp2_with fail)
        | (go_ret; exact ⟨ret_bool HQF.out.symm, by (repeat (first | (with_reducible exact Below.refl _ _) | (with_reducible assumption) | (with_reducible refine below_drewN ?_ _) | (with_reducible refine Below.drew ?_) | (with_reducible refine Below.al ?_ _) | (with_reducible refine Below.st ?_ (by simp; try omega)) | (with_reducible refine Below.tr ?_ (Hid.out (by assumption))) | (with_reducible exact Hid.out (by assumption))))⟩))
end Go.Proofs.YtogeihdfmnohnaaGreatDoor
namespace Go.Proofs.YtogeihdfmnohnaaGreatDoor
open Go.RowKit
set_option maxRecDepth 100000 in
set_option maxHeartbeats 6400000 in
theorem rCompatible_any (r : Rs) (A : Option Addr) (B cap : Nat) (l : List Am) (w : World) (hm : l.length ≤ maxLen) (hB : B ≤ w.heap.size) (hr : RowsAt amE w (Lo B) A l) :
    Calls Tryz.prog 70 #[r.val, .slice A l.length cap] w (Ret w (.bool (compB r l))) := by
  unfold maxLen at hm
  have HR := Lib.hid hr
  clear hr
  have HS := Lib.hid (fun W => rShaped_any r W)
  have HP := Lib.hid (fun m u W => rPermitted_any r m u W)
  have HZ := Lib.hid (fun m u W => rZero_any m u W)
  have HM := Lib.hid (fun a b W => rmodeCompatible_any a b W)
  obtain ⟨q, hq⟩ : ∃ q, compB r l = q := ⟨_, rfl⟩
  rw [hq]
  have HQ0 := Lib.hid hq
  clear hq
  cases hs : shapedB r with
  | false =>
    have HQ : Hid (q = false) := Lib.hid (by rw [← HQ0.out]; unfold compB; rw [hs]; rfl)
    rw [hs] at HS
    clear hs
    obtain ⟨nm, kd, un, h⟩ := r
    unfold Rs.val at *
    go_enter Tryz.func70, Tryz.ntmps70
    go_wp2_with fail
    repeat' (first
      | (go_at_call 106; refine (HS.out _).mono ?_; rintro e wa1 ⟨rfl, hb_wa1⟩; obtain ⟨hc_wa1, hf_wa1⟩ := bcell hb_wa1; have hs_wa1 := hb_wa1.size; (try simp at hs_wa1); have hz_wa1_w_0 : w.heap.size < wa1.heap.size := (by omega); clear hs_wa1; have HB_wa1 := Lib.hid hb_wa1; clear hb_wa1; go_wp2_with fail)
      | (go_ret; exact ⟨ret_bool HQ.out.symm, by (repeat (first | (with_reducible exact Below.refl _ _) | (with_reducible assumption) | (with_reducible refine below_drewN ?_ _) | (with_reducible refine Below.drew ?_) | (with_reducible refine Below.al ?_ _) | (with_reducible refine Below.st ?_ (by simp; try omega)) | (with_reducible refine Below.tr ?_ (Hid.out (by assumption))) | (with_reducible exact Hid.out (by assumption))))⟩))
  | true =>
    have HQ : Hid (compGo r 0 [] l = q) := Lib.hid (by have h := HQ0.out; unfold compB at h; rw [hs] at h; exact h)
    rw [hs] at HS
    have HSH := Lib.hid hs
    have hu : 0 ≤ r.units ∧ r.units ≤ 8 := by have := shaped_kinds hs; omega
    have hkd : r.kind = 1 ∨ r.kind = 2 := by have := shaped_kinds hs; omega
    clear hs HQ0
    obtain ⟨nm, kd, un, h⟩ := r
    unfold Rs.val at *
    dsimp only at hu hkd
    go_enter Tryz.func70, Tryz.ntmps70
    go_wp2_with fail
    refine (HS.out _).mono ?_
    rintro e w1 ⟨rfl, hb1⟩
    have HB1 := Lib.hid hb1
    have HK1 : Hid (Blk w1 w.heap.size 44 #[.string nm, .int .i64 kd, .int .i64 un, .int .i64 h]) := Lib.hid ((Blk.new w 44 #[.string nm, .int .i64 kd, .int .i64 un, .int .i64 h]).below hb1 (by simp))
    clear hb1
    go_wp2_with fail
    go_loopg [5, 6] l.length (fun m v5 v6 wq => ∃ (k : Nat) (s : Int), v5 = .int .i64 s ∧ v6 = .int .i64 (k : Int) ∧ k ≤ l.length ∧ l.length ≤ k + m ∧ 0 ≤ s ∧ s ≤ un ∧ Hid (compGo ⟨nm, kd, un, h⟩ s (l.take k) (l.drop k) = q) ∧ Hid (Below w.heap.size w wq) ∧ Hid (Blk wq w.heap.size 44 #[.string nm, .int .i64 kd, .int .i64 un, .int .i64 h]))
    case atStart => exact ⟨0, 0, rfl, rfl, Nat.zero_le _, by omega, by omega, by omega, HQ, Lib.hid (by (repeat (first | (with_reducible exact Below.refl _ _) | (with_reducible assumption) | (with_reducible refine below_drewN ?_ _) | (with_reducible refine Below.drew ?_) | (with_reducible refine Below.al ?_ _) | (with_reducible refine Below.st ?_ (by simp; try omega)) | (with_reducible refine Below.tr ?_ (Hid.out (by assumption))) | (with_reducible exact Hid.out (by assumption))))), HK1⟩
    case round =>
      obtain ⟨k, s, rfl, rfl, hk, hkm, hs0, hsu, HI, HB, HK⟩ := hrel
      by_cases hlt : k < l.length
      · obtain ⟨⟨m, u⟩, hx⟩ : ∃ x, l[k] = x := ⟨_, rfl⟩
        obtain ⟨g, off, rfl, hbl, c0, c1⟩ := am_cells (HR.out.below (B'' := w.heap.size) HB.out hB hB) hlt hx
        have hgw : g < w.heap.size := hbl
        have hbl2 : g < wr.heap.size := Nat.lt_of_lt_of_le hbl HB.out.size
        have hlti : (k : Int) < (l.length : Int) := by omega
        have HTK : Hid (l.take (k + 1) = l.take k ++ [⟨m, u⟩]) := Lib.hid (by rw [List.take_add_one, List.getElem?_eq_getElem hlt, hx]; rfl)
        have HST : Hid ((permB ⟨nm, kd, un, h⟩ ⟨m, u⟩ && (if kd = 2 then decide (s + u ≤ un) && compGo ⟨nm, kd, un, h⟩ (s + u) (l.take (k + 1)) (l.drop (k + 1)) else !clash ⟨m, u⟩ (l.take k) && compGo ⟨nm, kd, un, h⟩ s (l.take (k + 1)) (l.drop (k + 1)))) = q) := Lib.hid (by
          have h1 := HI.out
          rw [drop_step hlt hx, compGo_cons] at h1
          rw [HTK.out]
          exact h1)
        have HX := Lib.hid hx
        have z0 := HK.out.cellx 0 (v := .string nm) rfl
        have z1 := HK.out.cellx 1 (v := .int .i64 kd) rfl
        have z2 := HK.out.cellx 2 (v := .int .i64 un) rfl
        have z3 := HK.out.cellx 3 (v := .int .i64 h) rfl
        have g0 := Ext.cell c0
        have g1 := Ext.cell c1
        have g2 := Ext.cell z0
        have g3 := Ext.cell z1
        have g4 := Ext.cell z2
        have g5 := Ext.cell z3
        clear hx hbl c0 c1 z0 z1 z2 z3
        cases hp : permB ⟨nm, kd, un, h⟩ ⟨m, u⟩ with
        | false =>
          have HQF : Hid (q = false) := Lib.hid (by rw [← HST.out, hp]; rfl)
          have HPF : Hid (∀ W, Calls Tryz.prog 107 #[.agg #[.string nm, .int .i64 kd, .int .i64 un, .int .i64 h], .agg #[.int .i64 m, .int .i64 u]] W (Ret W (.bool false))) := Lib.hid (fun W => hp ▸ HP.out m u W)
          clear hp
          go_wp2_with fail
          refine wp_region_grow (by kernel_rfl) (by kernel_rfl) ?_; (repeat (go_big_quiet_step ((go_at_call 107; exact Ext.call _ (HPF.out _))))); refine wpQuiet_nil ?_; rintro w2 ⟨n2, rfl⟩; have hb2 := n2.below; generalize n2.w = w2 at hb2 ⊢; clear n2
          have HB2 := Lib.hid hb2
          clear hb2
          go_wp2_with fail
          go_ret
          exact ⟨ret_bool HQF.out.symm, by (repeat (first | (with_reducible exact Below.refl _ _) | (with_reducible assumption) | (with_reducible refine below_drewN ?_ _) | (with_reducible refine Below.drew ?_) | (with_reducible refine Below.al ?_ _) | (with_reducible refine Below.st ?_ (by simp; try omega)) | (with_reducible refine Below.tr ?_ (Hid.out (by assumption))) | (with_reducible exact Hid.out (by assumption))))⟩
        | true =>
          have HPT : Hid (∀ W, Calls Tryz.prog 107 #[.agg #[.string nm, .int .i64 kd, .int .i64 un, .int .i64 h], .agg #[.int .i64 m, .int .i64 u]] W (Ret W (.bool true))) := Lib.hid (fun W => hp ▸ HP.out m u W)
          have HP1 : Hid (permB ⟨nm, kd, un, h⟩ ⟨m, u⟩ = true) := Lib.hid hp
          have hub : 0 ≤ u ∧ u ≤ 8 := by
            by_cases hk1 : kd = 1
            · have := (perm_one hp hk1).1; dsimp only at this; omega
            · have := perm_two hp hk1; dsimp only at this; omega
          have hwr : IntKind.i64.wrap (s + u) = s + u := IntWalk.i64_in _ (by omega)
          clear hp
          go_wp2_with fail
          refine wp_region_grow (by kernel_rfl) (by kernel_rfl) ?_; (repeat (go_big_quiet_step ((go_at_call 107; exact Ext.call _ (HPT.out _))))); refine wpQuiet_nil ?_; rintro w2 ⟨n2, rfl⟩; have hb2 := n2.below; generalize n2.w = w2 at hb2 ⊢; clear n2
          have HB2 : Hid (Below w.heap.size w w2) := Lib.hid (HB.out.trans (hb2.mono HB.out.size))
          have HK2 : Hid (Blk w2 w.heap.size 44 #[.string nm, .int .i64 kd, .int .i64 un, .int .i64 h]) := Lib.hid (HK.out.below hb2 HK.out.lt)
          have z1 := HK2.out.cellx 1 (v := .int .i64 kd) rfl
          have z2 := HK2.out.cellx 2 (v := .int .i64 un) rfl
          have hz : w.heap.size < w2.heap.size := HK2.out.lt
          have hgw2 : g < w2.heap.size := Nat.lt_of_lt_of_le hgw HB2.out.size
          obtain ⟨_, _, hA, _, c0, c1⟩ := am_cells (HR.out.below (B'' := w.heap.size) HB2.out hB hB) hlt HX.out
          injection hA with hA
          injection hA with e1 e2
          subst e1
          subst e2
          clear hb2 g0 g1 g2 g3 g4 g5
          by_cases hk2 : kd = 2
          · have hkb : (kd == 2) = true := by simp [hk2]
            have HC : Hid ((decide (s + u ≤ un) && compGo ⟨nm, kd, un, h⟩ (s + u) (l.take (k + 1)) (l.drop (k + 1))) = q) := Lib.hid (by have h1 := HST.out; rw [HP1.out, if_pos hk2] at h1; simpa using h1)
            clear hk2 hkd
            by_cases hfit : s + u ≤ un
            · have hfi : ¬ (un < s + u) := by omega
              have HN : Hid (compGo ⟨nm, kd, un, h⟩ (s + u) (l.take (k + 1)) (l.drop (k + 1)) = q) := Lib.hid (by rw [← HC.out, decide_eq_true hfit]; rfl)
              go_wp2_with fail
              go_roundg (gk - 1)
              case measure => omega
              case rel => exact ⟨k + 1, s + u, by go_num, by go_num, by omega, by omega, by omega, by omega, HN, HB2, HK2⟩
            · have hfi : un < s + u := by omega
              have HQF : Hid (q = false) := Lib.hid (by rw [← HC.out, decide_eq_false hfit]; rfl)
              go_wp2_with fail
              go_ret
              exact ⟨ret_bool HQF.out.symm, HB2.out⟩
          · have hkb : (kd == 2) = false := by simp [hk2]
            have HC : Hid ((!clash ⟨m, u⟩ (l.take k) && compGo ⟨nm, kd, un, h⟩ s (l.take (k + 1)) (l.drop (k + 1))) = q) := Lib.hid (by have h1 := HST.out; rw [HP1.out, if_neg hk2] at h1; simpa using h1)
            clear hk2 hkd hwr
            obtain ⟨G, hG⟩ : ∃ G, G = gk := ⟨_, rfl⟩
            subst hG
            obtain ⟨wo, hwo⟩ : ∃ x, x = wr := ⟨_, rfl⟩
            subst hwo
            go_wp2_with fail
            go_loopg [7] k (fun m' v7 wq => ∃ j : Nat, v7 = .int .i64 (j : Int) ∧ j ≤ k ∧ k ≤ j + m' ∧ Hid (Below w2.heap.size w2 wq) ∧ Hid (∀ i (hi : i < l.length), i < j → (!zeroB ⟨m, u⟩ && !zeroB l[i] && !comM m l[i].mode) = false))
            case atStart => exact ⟨0, rfl, by omega, by omega, Lib.hid (Below.refl _ _), Lib.hid (fun _ _ h => absurd h (by omega))⟩
            case round =>
              obtain ⟨j, rfl, hjk, hjm, HW, HJ⟩ := hrel
              have HBW : Hid (Below w.heap.size w wr) := Lib.hid (by (repeat (first | (with_reducible exact Below.refl _ _) | (with_reducible assumption) | (with_reducible refine below_drewN ?_ _) | (with_reducible refine Below.drew ?_) | (with_reducible refine Below.al ?_ _) | (with_reducible refine Below.st ?_ (by simp; try omega)) | (with_reducible refine Below.tr ?_ (Hid.out (by assumption))) | (with_reducible exact Hid.out (by assumption)))))
              by_cases hj : j < k
              · obtain ⟨⟨m', u'⟩, hy⟩ : ∃ x, l[j]'(by omega) = x := ⟨_, rfl⟩
                obtain ⟨_, _, hA, _, d0, d1⟩ := am_cells (HR.out.below (B'' := w.heap.size) HBW.out hB hB) hlt HX.out
                injection hA with hA
                injection hA with e1 e2
                subst e1
                subst e2
                obtain ⟨_, _, hA, _, d2, d3⟩ := am_cells (HR.out.below (B'' := w.heap.size) HBW.out hB hB) (show j < l.length by omega) hy
                injection hA with hA
                injection hA with e1 e2
                subst e1
                subst e2
                have hji : (j : Int) < (k : Int) := by omega
                have hjl : (j : Int) < (l.length : Int) := by omega
                have hgw3 : g < wr.heap.size := Nat.lt_of_lt_of_le hgw HBW.out.size
                have g0 := Ext.cell d0
                have g1 := Ext.cell d1
                have g2 := Ext.cell d2
                have g3 := Ext.cell d3
                obtain ⟨p1, hp1⟩ : ∃ p, zeroB ⟨m, u⟩ = p := ⟨_, rfl⟩
                obtain ⟨p2, hp2⟩ : ∃ p, zeroB ⟨m', u'⟩ = p := ⟨_, rfl⟩
                obtain ⟨p3, hp3⟩ : ∃ p, comM m m' = p := ⟨_, rfl⟩
                have H1 : Hid (∀ W, Calls Tryz.prog 108 #[.agg #[.int .i64 m, .int .i64 u]] W (Ret W (.bool p1))) := Lib.hid (fun W => hp1 ▸ HZ.out m u W)
                have H2 : Hid (∀ W, Calls Tryz.prog 108 #[.agg #[.int .i64 m', .int .i64 u']] W (Ret W (.bool p2))) := Lib.hid (fun W => hp2 ▸ HZ.out m' u' W)
                have H3 : Hid (∀ W, Calls Tryz.prog 109 #[.int .i64 m, .int .i64 m'] W (Same W (.bool p3))) := Lib.hid (fun W => hp3 ▸ HM.out m m' W)
                have HY : Hid ((!zeroB ⟨m, u⟩ && !zeroB (l[j]'(by omega)) && !comM m (l[j]'(by omega)).mode) = (!p1 && !p2 && !p3)) := Lib.hid (by rw [hy, hp1, hp2, hp3])
                have HCL : Hid ((!p1 && !p2 && !p3) = true → q = false) := Lib.hid (fun hc => by
                  have h1 : clash ⟨m, u⟩ (l.take k) = true := by
                    unfold clash
                    rw [List.any_eq_true]
                    refine ⟨l[j]'(by omega), ?_, by rw [HY.out]; exact hc⟩
                    rw [List.mem_take_iff_getElem]
                    exact ⟨j, by omega, rfl⟩
                  rw [← HC.out, h1]; rfl)
                have HNX : Hid ((!p1 && !p2 && !p3) = false → ∀ i (hi : i < l.length), i < j + 1 → (!zeroB ⟨m, u⟩ && !zeroB l[i] && !comM m l[i].mode) = false) := Lib.hid (fun hc i hi h2 => by
                  rcases Nat.lt_or_ge i j with h1 | h1
                  · exact HJ.out i hi h1
                  · obtain rfl : i = j := by omega
                    rw [HY.out]; exact hc)
                clear hp1 hp2 hp3 hy d0 d1 d2 d3 c0 c1
                cases p1 <;> cases p2 <;> cases p3
                all_goals
                  go_wp2_with fail
                  refine wp_region_grow (by kernel_rfl) (by kernel_rfl) ?_; (repeat (go_big_quiet_step ((first | (go_at_call 108; first | with_reducible exact Ext.call _ (H1.out _) | with_reducible exact Ext.call _ (H2.out _)) | (go_at_call 109; exact Ext.call_same _ (H3.out _)))))); refine wpQuiet_nil ?_; rintro w2 ⟨n2, rfl⟩; have hb2 := n2.below; generalize n2.w = w2 at hb2 ⊢; clear n2
                  have HB3 := Lib.hid hb2
                  clear hb2
                  go_wp2_with fail
                  first
                    | (go_ret; exact ⟨ret_bool (HCL.out rfl).symm, by (repeat (first | (with_reducible exact Below.refl _ _) | (with_reducible assumption) | (with_reducible refine below_drewN ?_ _) | (with_reducible refine Below.drew ?_) | (with_reducible refine Below.al ?_ _) | (with_reducible refine Below.st ?_ (by simp; try omega)) | (with_reducible refine Below.tr ?_ (Hid.out (by assumption))) | (with_reducible exact Hid.out (by assumption))))⟩)
                    | (go_roundg (gk - 1); (case measure => omega); (case rel => exact ⟨j + 1, by go_num, by omega, by omega, Lib.hid (Below.tr HW.out HB3.out), Lib.hid (HNX.out rfl)⟩))
              · have hji : ¬ (j : Int) < (k : Int) := by omega
                have HN : Hid (compGo ⟨nm, kd, un, h⟩ s (l.take (k + 1)) (l.drop (k + 1)) = q) := Lib.hid (by
                  have h1 : clash ⟨m, u⟩ (l.take k) = false := by
                    unfold clash
                    rw [List.any_eq_false]
                    intro b hb
                    rw [List.mem_take_iff_getElem] at hb
                    obtain ⟨i, hi, rfl⟩ := hb
                    rw [HJ.out i (by omega) (by omega)]
                    simp
                  rw [← HC.out, h1]; rfl)
                go_wp2_with fail
                go_roundg (G - 1)
                case measure => omega
                case rel => exact ⟨k + 1, s, rfl, by go_num, by omega, by omega, by omega, by omega, HN, HBW, Lib.hid (HK2.out.below HW.out HK2.out.lt)⟩
      · have HQT : Hid (q = true) := Lib.hid (by have h1 := HI.out; rw [drop_end hlt] at h1; exact h1.symm)
        have hlti : ¬ (k : Int) < (l.length : Int) := by omega
        go_wp2_with fail
        go_ret
        exact ⟨ret_bool HQT.out.symm, by (repeat (first | (with_reducible exact Below.refl _ _) | (with_reducible assumption) | (with_reducible refine below_drewN ?_ _) | (with_reducible refine Below.drew ?_) | (with_reducible refine Below.al ?_ _) | (with_reducible refine Below.st ?_ (by simp; try omega)) | (with_reducible refine Below.tr ?_ (Hid.out (by assumption))) | (with_reducible exact Hid.out (by assumption))))⟩
end Go.Proofs.YtogeihdfmnohnaaGreatDoor
