/- Insert, the document's. -/
import Derived.Test.YtfmbkkpdmpgmdaaDoorbSpec
import Derived.Test.YtfmbkkpdmpgmdaaDoorbCut
namespace Go.Proofs.YtfmbkkpdmpgmdaaDoor
open Go.RowKit

set_option maxHeartbeats 8000000 in
set_option maxRecDepth 100000 in
theorem rInsert_any (A : Option Addr) (B cap : Nat) (l : Ct) (r : Rs) (w : World) (hc : l.length ≤ cap) (hcm : cap ≤ maxLen) (hB : B ≤ w.heap.size) (hr : RowsAt resE w (Lo B) A l) :
    Calls Tryd.prog 23 #[.slice A l.length cap, r.val] w (RetLE w (insS l r)) := by
  unfold maxLen at hcm
  have HR := Lib.hid hr
  have HVC := Lib.hid (fun W (h : Below w.heap.size w W) => rCatValid_any A B cap l W (by unfold maxLen; omega) (Nat.le_trans hB h.size) (hr.below h hB (Nat.le_refl _)))
  have HVN := Lib.hid (fun W => rValidName_any r.name W)
  have HVR := Lib.hid (fun W => rValidRes_any r W)
  have HI : Hid (insS l r = insS l r) := Lib.hid rfl
  unfold insS at HI
  obtain ⟨bn, hbn⟩ : ∃ b, nameB r.key = b := ⟨_, rfl⟩
  obtain ⟨br, hbr⟩ : ∃ b, resB r = b := ⟨_, rfl⟩
  have hbn' : nameB r.name.toList = bn := hbn
  rw [hbn'] at HVN
  rw [hbr] at HVR
  have HBN := Lib.hid hbn
  have HBR := Lib.hid hbr
  clear hbn hbr hbn' hr
  obtain ⟨⟨nm, kd, u, h⟩, hrr⟩ : ∃ x, r = x := ⟨_, rfl⟩
  have HRR := Lib.hid hrr
  have hval : r.val = .agg #[.string nm, .int .i64 kd, .int .i64 u, .int .i64 h] := by rw [hrr]; rfl
  have hnm : r.name = nm := by rw [hrr]
  rw [hval] at HVR ⊢
  rw [hnm] at HVN
  clear hrr hval hnm
  go_enter Tryd.func23, Tryd.ntmps23
  go_wp2_with fail
  refine (HVC.out _ ((Below.refl _ _).alloc (Nat.le_refl _) _)).mono ?_
  rintro e w2 ⟨bv, rfl, hv, hb2⟩
  have hbel2 : Below w.heap.size w w2 := ((Below.refl _ _).alloc (Nat.le_refl _) _).trans (hb2.mono (by simp))
  have hbox2 : Blk w2 w.heap.size 26 #[.string nm, .int .i64 kd, .int .i64 u, .int .i64 h] := (Blk.new w _ _).below hb2 (by simp)
  have hz0 := hbox2.cellx 0 (v := .string nm) rfl
  have hz1 := hbox2.cellx 1 (v := .int .i64 kd) rfl
  have hz2 := hbox2.cellx 2 (v := .int .i64 u) rfl
  have hz3 := hbox2.cellx 3 (v := .int .i64 h) rfl
  have HV := Lib.hid hv
  have HBEL2 := Lib.hid hbel2
  have HBOX2 := Lib.hid hbox2
  clear hb2 hv hbel2 hbox2
  cases bv with
  | false =>
    go_wp2
    go_ret2
    exact .no 2 (by unfold insS; rw [if_neg (fun h => by have := HV.out.2 h; cases this)]) rfl HBEL2.out
  | true =>
    have hvc := Lib.hid (HV.out.1 rfl)
    go_wp2_with fail
    refine (HVN.out _).mono ?_
    rintro e w3 ⟨rfl, rfl⟩
    cases bn with
    | false =>
      go_wp2
      go_ret2
      exact .no 9 (by unfold insS; rw [if_pos hvc.out, if_neg (by rw [HBN.out]; simp)]) rfl HBEL2.out
    | true =>
      go_wp2_with fail
      refine (HVR.out _).mono ?_
      rintro e w4 ⟨rfl, hb4⟩
      have hbel4 := HBEL2.out.trans (hb4.mono HBEL2.out.size)
      have hbox4 := HBOX2.out.below hb4 HBOX2.out.lt
      have hy0 := hbox4.cellx 0 (v := .string nm) rfl
      have hy1 := hbox4.cellx 1 (v := .int .i64 kd) rfl
      have hy2 := hbox4.cellx 2 (v := .int .i64 u) rfl
      have hy3 := hbox4.cellx 3 (v := .int .i64 h) rfl
      have HBEL4 := Lib.hid hbel4
      have HBOX4 := Lib.hid hbox4
      clear hb4 hbel4 hbox4 hz0 hz1 hz2 hz3
      cases br with
      | false =>
        go_wp2
        go_ret2
        exact .no 1 (by unfold insS; rw [if_pos hvc.out, if_pos HBN.out, if_neg (by rw [HBR.out]; simp)]) rfl HBEL4.out
      | true =>
        have h8 := hvc.out.1
        have hkey : Hid (r.key = nm.toList) := Lib.hid (by rw [HRR.out]; rfl)
        have hrn : Hid (r.name = nm) := Lib.hid (by rw [HRR.out])
        go_wp2_with fail
        refine (rFind_any A B cap l nm _ (by unfold maxLen; omega) (Nat.le_trans hB HBEL4.out.size) (HR.out.below HBEL4.out hB (Nat.le_refl _))).mono ?_
        rintro e w5 ⟨rfl, hb5⟩
        have hbel5 := HBEL4.out.trans (hb5.mono HBEL4.out.size)
        have hbox5 := HBOX4.out.below hb5 HBOX4.out.lt
        have hx0 := hbox5.cellx 0 (v := .string nm) rfl
        have hx1 := hbox5.cellx 1 (v := .int .i64 kd) rfl
        have hx2 := hbox5.cellx 2 (v := .int .i64 u) rfl
        have hx3 := hbox5.cellx 3 (v := .int .i64 h) rfl
        have HBEL5 := Lib.hid hbel5
        have HBOX5 := Lib.hid hbox5
        clear hb5 hbel5 hbox5 hy0 hy1 hy2 hy3
        obtain ⟨bf, hbf⟩ : ∃ b, (findR l nm).isSome = b := ⟨_, rfl⟩
        have HBF := Lib.hid hbf
        obtain ⟨⟨nm', kd', u', h'⟩, hrf⟩ : ∃ x, (findR l nm).getD Rs.zero = x := ⟨_, rfl⟩
        unfold retFind
        rw [hbf, hrf]
        unfold Rs.val
        clear hbf hrf
        cases bf with
        | true =>
          go_wp2
          go_ret2
          refine .no 11 ?_ rfl (HBEL5.out.alloc HBEL5.out.size _)
          unfold insS
          rw [if_pos hvc.out, if_pos HBN.out, if_pos HBR.out, if_pos]
          rw [hrn.out]
          exact HBF.out
        | false =>
          have hnf : Hid ¬ (findR l r.name).isSome = true := Lib.hid (by
            rw [hrn.out, HBF.out]
            simp)
          by_cases h88 : l.length = 8
          · have H88 := Lib.hid h88
            have hd : ((l.length : Int) == 8) = true := by rw [h88]; rfl
            clear h88
            go_wp2
            go_ret2
            refine .no 4 ?_ rfl (HBEL5.out.alloc HBEL5.out.size _)
            unfold insS
            rw [if_pos hvc.out, if_pos HBN.out, if_pos HBR.out, if_neg hnf.out, if_pos H88.out]
          · have hd : ((l.length : Int) == 8) = false := beq_eq_false_iff_ne.2 (by omega)
            have hins : Hid (insS l r = (0, insL l r)) := Lib.hid (by
              unfold insS
              rw [if_pos hvc.out, if_pos HBN.out, if_pos HBR.out, if_neg hnf.out, if_neg h88])
            have hne : Hid (∀ i (hi : i < l.length), l[i].key ≠ nm.toList) := Lib.hid fun i hi he => by
              have := findR_isSome.2 ⟨i, hi, he⟩
              rw [HBF.out] at this
              cases this
            go_wp2_with fail
            go_loopg [8, 9, 10] l.length (fun m v8 v9 v10 wq => ∃ (k : Nat) (d : Bool) (out : Ct), v10 = .int .i64 (k : Int) ∧ v9 = .bool d ∧ k ≤ l.length ∧ l.length ≤ k + m ∧ OwnRows resE 26 wq w5.heap.size v8 out ∧ Below w5.heap.size w5 wq ∧ Hid (out.length ≤ k + 1 ∧ if d = true then (out = insL (l.take k) r ∧ ∃ j, ∃ hj : j < l.length, j < k ∧ r.key < l[j].key) else (out = l.take k ∧ ∀ j (hj : j < l.length), j < k → l[j].key < r.key)))
            case atStart => exact ⟨0, false, [], rfl, rfl, Nat.zero_le _, by omega, OwnRows.nil _ _ _ _ (by simp), (Below.refl _ _).alloc (Nat.le_refl _) _, Lib.hid ⟨by simp, rfl, fun _ _ h => absurd h (by omega)⟩⟩
            case round =>
              obtain ⟨k, d, out, rfl, rfl, hk, hkm, hown, hbw, hI⟩ := hrel
              have hbox := HBOX5.out.below hbw HBOX5.out.lt
              have hz0 := hbox.cellx 0 (v := .string nm) rfl
              have hz1 := hbox.cellx 1 (v := .int .i64 kd) rfl
              have hz2 := hbox.cellx 2 (v := .int .i64 u) rfl
              have hz3 := hbox.cellx 3 (v := .int .i64 h) rfl
              have HBX := Lib.hid hbox
              have HOWN := Lib.hid hown
              have HBW := Lib.hid hbw
              have HBWW := Lib.hid (HBEL5.out.trans (hbw.mono HBEL5.out.size))
              have hsz5 : w.heap.size < w5.heap.size := HBOX5.out.lt
              have hszr : w5.heap.size ≤ wr.heap.size := hbw.size
              clear hx0 hx1 hx2 hx3 hbox hown hbw
              by_cases hlt : k < l.length
              · have hrw := HR.out.below (B'' := B) HBWW.out hB (Nat.le_refl _)
                obtain ⟨⟨nm2, kd2, u2, h2⟩, hx⟩ : ∃ x, l[k] = x := ⟨_, rfl⟩
                obtain ⟨b, off, rfl, hbl, hc0, hc1, hc2, hc3⟩ := res_cells hrw hlt hx
                have hbl2 : b < wr.heap.size := Nat.lt_of_lt_of_le hbl (Nat.le_trans hB HBWW.out.size)
                have HX := Lib.hid hx
                obtain ⟨lt, hlt2⟩ : ∃ lt, Op.bytesLess nm.toList nm2.toList = lt := ⟨_, rfl⟩
                have HLT := Lib.hid hlt2
                have hlti : (k : Int) < (l.length : Int) := by omega
                have HBL : Hid (b < w.heap.size) := Lib.hid (Nat.lt_of_lt_of_le hbl hB)
                clear hx hrw hbl
                have hol : Hid (out.length < 68719476736) := Lib.hid (by have := hI.out.1; omega)
                cases d with
                | true =>
                  have h2 := hI.out.2
                  rw [if_pos rfl] at h2
                  obtain ⟨hout, j, hj, hjk, hrj⟩ := h2
                  have hnew : Hid (out ++ [l[k]] = insL (l.take (k + 1)) r) := Lib.hid (by
                    rw [hout, insL_more hlt]
                    exact fun hlt2 => List.lt_irrefl _ (List.lt_trans hrj (List.lt_trans (hvc.out.2.2.lt k j hlt hjk) hlt2)))
                  have hj2 : Hid (∃ j, ∃ hj : j < l.length, j < k + 1 ∧ r.key < l[j].key) := Lib.hid ⟨j, hj, by omega, hrj⟩
                  clear hout hj hjk hrj
                  go_wp2_with fail
                  go_quiet (fail)
                  go_wp2_with (at_builtin; refine pushOne resT rfl (.tmp 54) (.tmp 59) rfl (wr.drewN nq) w5.heap.size u8 out ⟨nm2, kd2, u2, h2⟩ [.string nm2, .int .i64 kd2, .int .i64 u2, .int .i64 h2] _ rfl rfl (HOWN.out.drewN nq) wr.heap.size rfl rfl rfl hol.out ?_; intro v7 w7 hown7 hb7 hsp7; have HBEL7 := Lib.hid (HBW.out.trans (undrewN hb7)); have HOWN7 := Lib.hid hown7; clear hown7 hb7 hsp7)
                  go_roundg (gk - 1)
                  case measure => omega
                  case rel => exact ⟨k + 1, true, _, by go_num, rfl, by omega, by omega, HOWN7.out, HBEL7.out, Lib.hid ⟨by have := hI.out.1; simp; omega, by rw [if_pos rfl]; exact ⟨by rw [← hnew.out, HX.out], hj2.out⟩⟩⟩
                | false =>
                  have h2 := hI.out.2
                  rw [if_neg (by simp)] at h2
                  obtain ⟨hout, hall⟩ := h2
                  have HALL := Lib.hid hall
                  have HOUT := Lib.hid hout
                  clear hout hall
                  cases lt with
                  | true =>
                    have hrk : r.key < l[k].key := by
                      have := HLT.out
                      rw [bytesLess_eq, decide_eq_true_eq] at this
                      rw [hkey.out, HX.out]
                      exact this
                    have hnew : Hid (out ++ [r] ++ [l[k]] = insL (l.take (k + 1)) r) := Lib.hid (by
                      rw [HOUT.out, insL_more hlt (fun h => List.lt_irrefl _ (List.lt_trans h hrk)), insL_all HALL.out])
                    have hj2 : Hid (∃ j, ∃ hj : j < l.length, j < k + 1 ∧ r.key < l[j].key) := Lib.hid ⟨k, hlt, by omega, hrk⟩
                    clear hrk
                    go_wp2_with fail
                    go_quiet (fail)
                    go_wp2_with (first
                      | (at_builtin; refine pushOne resT rfl (.tmp 50) (.tmp 52) rfl (wr.drewN nq) w5.heap.size u8 out ⟨nm, kd, u, h⟩ [.string nm, .int .i64 kd, .int .i64 u, .int .i64 h] _ rfl rfl (HOWN.out.drewN nq) wr.heap.size rfl rfl rfl hol.out ?_; intro v6 w6 hown6 hb6 hsp6; have HBEL6 := Lib.hid (HBW.out.trans (undrewN hb6)); have HOWN6 := Lib.hid hown6; have hsz6 := hb6.size; have hb6u := undrewN hb6; have p0 := (hb6u.cell (p := ⟨b, off + k * 4, none⟩) (Nat.lt_trans HBL.out hsz5)).trans hc0; have p1 := (hb6u.cell (p := ⟨b, off + k * 4 + 1, none⟩) (Nat.lt_trans HBL.out hsz5)).trans hc1; have p2 := (hb6u.cell (p := ⟨b, off + k * 4 + 2, none⟩) (Nat.lt_trans HBL.out hsz5)).trans hc2; have p3 := (hb6u.cell (p := ⟨b, off + k * 4 + 3, none⟩) (Nat.lt_trans HBL.out hsz5)).trans hc3; clear hown6 hb6 hb6u hsp6 hc0 hc1 hc2 hc3)
                      | (at_builtin; refine pushOne resT rfl (.tmp 54) (.tmp 59) rfl w6 w5.heap.size v6 (out ++ [⟨nm, kd, u, h⟩]) ⟨nm2, kd2, u2, h2⟩ [.string nm2, .int .i64 kd2, .int .i64 u2, .int .i64 h2] _ rfl rfl HOWN6.out w6.heap.size rfl rfl rfl (by have := hI.out.1; simp; omega) ?_; intro v7 w7 hown7 hb7 hsp7; have HBEL7 := Lib.hid (HBEL6.out.trans hb7); have HOWN7 := Lib.hid hown7; clear hown7 hb7 hsp7))
                    go_roundg (gk - 1)
                    case measure => omega
                    case rel => exact ⟨k + 1, true, _, by go_num, rfl, by omega, by omega, HOWN7.out, HBEL7.out, Lib.hid ⟨by rw [HOUT.out]; simp; omega, by rw [if_pos rfl]; exact ⟨by rw [← hnew.out, HX.out, HRR.out], hj2.out⟩⟩⟩
                  | false =>
                    have hrk : l[k].key < r.key := by
                      have := HLT.out
                      rw [bytesLess_eq, decide_eq_false_iff_not] at this
                      refine lt_of_not ?_ ?_
                      · rw [hkey.out, HX.out]; exact this
                      · rw [hkey.out]; exact (hne.out k hlt).symm
                    have hnew : Hid (out ++ [l[k]] = l.take (k + 1)) := Lib.hid (by
                      rw [HOUT.out, List.take_succ_eq_append_getElem hlt])
                    have hj2 : Hid (∀ j (hj : j < l.length), j < k + 1 → l[j].key < r.key) := Lib.hid fun j hj hjk => by
                      rcases Nat.lt_or_ge j k with h2 | h2
                      · exact HALL.out j hj h2
                      · obtain rfl : j = k := by omega
                        exact hrk
                    clear hrk
                    go_wp2_with fail
                    go_quiet (fail)
                    go_wp2_with (at_builtin; refine pushOne resT rfl (.tmp 54) (.tmp 59) rfl (wr.drewN nq) w5.heap.size u8 out ⟨nm2, kd2, u2, h2⟩ [.string nm2, .int .i64 kd2, .int .i64 u2, .int .i64 h2] _ rfl rfl (HOWN.out.drewN nq) wr.heap.size rfl rfl rfl hol.out ?_; intro v7 w7 hown7 hb7 hsp7; have HBEL7 := Lib.hid (HBW.out.trans (undrewN hb7)); have HOWN7 := Lib.hid hown7; clear hown7 hb7 hsp7)
                    go_roundg (gk - 1)
                    case measure => omega
                    case rel => exact ⟨k + 1, false, _, by go_num, rfl, by omega, by omega, HOWN7.out, HBEL7.out, Lib.hid ⟨by have := hI.out.1; simp; omega, by rw [if_neg (by simp)]; exact ⟨by rw [← hnew.out, HX.out], hj2.out⟩⟩⟩
              · obtain rfl : k = l.length := by omega
                cases d with
                | true =>
                  have h2 := hI.out.2
                  rw [if_pos rfl] at h2
                  obtain ⟨hout, _⟩ := h2
                  rw [List.take_length] at hout
                  have HOUT := Lib.hid hout
                  clear hout
                  go_wp2_with fail
                  go_ret2
                  rw [hins.out]
                  exact ⟨_, rfl, by rw [← HOUT.out]; exact HOWN.out.older HBEL5.out.size, HBWW.out⟩
                | false =>
                  have h2 := hI.out.2
                  rw [if_neg (by simp)] at h2
                  obtain ⟨hout, hall⟩ := h2
                  have hnew : Hid (out ++ [r] = insL l r) := Lib.hid (by
                    have h1 := insL_all (l := l) (r := r) (k := l.length) (fun j hj hjk => hall j hj hjk)
                    rw [List.take_length] at h1
                    rw [h1, hout, List.take_length])
                  have hol : Hid (out.length < 68719476736) := Lib.hid (by have := hI.out.1; omega)
                  clear hout hall
                  go_wp2_with (at_builtin; refine pushOne resT rfl (.tmp 63) (.tmp 65) rfl wr w5.heap.size u8 out ⟨nm, kd, u, h⟩ [.string nm, .int .i64 kd, .int .i64 u, .int .i64 h] _ rfl rfl HOWN.out wr.heap.size rfl rfl rfl hol.out ?_; intro v7 w7 hown7 hb7 hsp7; have HBEL7 := Lib.hid (HBWW.out.trans (hb7.mono HBEL5.out.size)); have HOWN7 := Lib.hid hown7; clear hown7 hb7 hsp7)
                  go_ret2
                  rw [hins.out, ← hnew.out, HRR.out]
                  exact ⟨_, rfl, HOWN7.out.older HBEL5.out.size, HBEL7.out⟩
end Go.Proofs.YtfmbkkpdmpgmdaaDoor
