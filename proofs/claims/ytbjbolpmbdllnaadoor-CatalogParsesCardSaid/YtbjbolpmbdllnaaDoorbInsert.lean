/- Insert, the program's. -/
import Derived.Test.YtbjbolpmbdllnaaDoorbSpec
import Derived.Test.YtbjbolpmbdllnaaDoorbCut
namespace Go.Proofs.YtbjbolpmbdllnaaDoor
open Go.RowKit

set_option maxHeartbeats 1600000 in
set_option maxRecDepth 100000 in
theorem Insert_any (A : Option Addr) (B cap : Nat) (l : Ct) (r : Rs) (w : World) (hc : l.length ≤ cap) (hcm : cap ≤ maxLen) (hB : B ≤ w.heap.size) (hr : RowsAt resE w (Lo B) A l) :
    Calls Tryd.prog 16 #[.slice A l.length cap, r.val] w (RetLE w (insS l r)) := by
  unfold maxLen at hcm
  have HR := Lib.hid hr
  have HVC := Lib.hid (fun W (h : Below w.heap.size w W) => CatValid_any A B cap l W (by unfold maxLen; omega) (Nat.le_trans hB h.size) (hr.below h hB (Nat.le_refl _)))
  have HVN := Lib.hid (fun W => ValidName_any r.name W)
  have HVR := Lib.hid (fun W => ValidRes_any r W)
  have HI : Hid (insS l r = insS l r) := Lib.hid rfl
  unfold insS at HI
  obtain ⟨bn, hbn⟩ : ∃ b, nameB r.key = b := ⟨_, rfl⟩
  obtain ⟨br, hbr⟩ : ∃ b, resB r = b := ⟨_, rfl⟩
  have hbn' : nameB r.name.toList = bn := hbn
  rw [hbn'] at HVN
  rw [hbr] at HVR
  have HBN := Lib.hid hbn
  have HBR := Lib.hid hbr
  clear hbn hbr hbn' hr
  obtain ⟨⟨nm, kd, u, h⟩, hrr⟩ : ∃ x, r = x := ⟨_, rfl⟩
  have HRR := Lib.hid hrr
  have hval : r.val = .agg #[.string nm, .int .i64 kd, .int .i64 u, .int .i64 h] := by rw [hrr]; rfl
  have hnm : r.name = nm := by rw [hrr]
  rw [hval] at HVR ⊢
  rw [hnm] at HVN
  clear hrr hval hnm
  go_enter Tryd.func16, Tryd.ntmps16
  go_wp2_with fail
  refine (HVC.out _ ((Below.refl _ _).alloc (Nat.le_refl _) _)).mono ?_
  rintro e w2 ⟨bv, rfl, hv, hb2⟩
  have hbel2 : Below w.heap.size w w2 := ((Below.refl _ _).alloc (Nat.le_refl _) _).trans (hb2.mono (by simp))
  have hbox2 : Blk w2 w.heap.size 36 #[.string nm, .int .i64 kd, .int .i64 u, .int .i64 h] := (Blk.new w _ _).below hb2 (by simp)
  have hz0 := hbox2.cellx 0 (v := .string nm) rfl
  have hz1 := hbox2.cellx 1 (v := .int .i64 kd) rfl
  have hz2 := hbox2.cellx 2 (v := .int .i64 u) rfl
  have hz3 := hbox2.cellx 3 (v := .int .i64 h) rfl
  have HV := Lib.hid hv
  have HBEL2 := Lib.hid hbel2
  have HBOX2 := Lib.hid hbox2
  clear hb2 hv hbel2 hbox2
  cases bv with
  | false =>
    go_wp2
    go_ret2
    exact .no 2 (by unfold insS; rw [if_neg (fun h => by have := HV.out.2 h; cases this)]) rfl HBEL2.out
  | true =>
    have hvc := Lib.hid (HV.out.1 rfl)
    go_wp2_with fail
    refine (HVN.out _).mono ?_
    rintro e w3 ⟨rfl, rfl⟩
    cases bn with
    | false =>
      go_wp2
      go_ret2
      exact .no 9 (by unfold insS; rw [if_pos hvc.out, if_neg (by rw [HBN.out]; simp)]) rfl HBEL2.out
    | true =>
      go_wp2_with fail
      refine (HVR.out _).mono ?_
      rintro e w4 ⟨rfl, hb4⟩
      have hbel4 := HBEL2.out.trans (hb4.mono HBEL2.out.size)
      have hbox4 := HBOX2.out.below hb4 HBOX2.out.lt
      have hy0 := hbox4.cellx 0 (v := .string nm) rfl
      have hy1 := hbox4.cellx 1 (v := .int .i64 kd) rfl
      have hy2 := hbox4.cellx 2 (v := .int .i64 u) rfl
      have hy3 := hbox4.cellx 3 (v := .int .i64 h) rfl
      have HBEL4 := Lib.hid hbel4
      have HBOX4 := Lib.hid hbox4
      clear hb4 hbel4 hbox4 hz0 hz1 hz2 hz3
      cases br with
      | false =>
        go_wp2
        go_ret2
        exact .no 1 (by unfold insS; rw [if_pos hvc.out, if_pos HBN.out, if_neg (by rw [HBR.out]; simp)]) rfl HBEL4.out
      | true =>
        have h8 := hvc.out.1
        go_wp2_with fail
        refine (place_any A B cap l nm _ hvc.out.2.2 (by omega) (Nat.le_trans hB HBEL4.out.size) (HR.out.below HBEL4.out hB (Nat.le_refl _))).mono ?_
        rintro e w5 ⟨k, bf, rfl, hk, hlo, hhi, hf, hb5⟩
        have hbel5 := HBEL4.out.trans (hb5.mono HBEL4.out.size)
        have hbox5 := HBOX4.out.below hb5 HBOX4.out.lt
        have hx0 := hbox5.cellx 0 (v := .string nm) rfl
        have hx1 := hbox5.cellx 1 (v := .int .i64 kd) rfl
        have hx2 := hbox5.cellx 2 (v := .int .i64 u) rfl
        have hx3 := hbox5.cellx 3 (v := .int .i64 h) rfl
        have HBEL5 := Lib.hid hbel5
        have HBOX5 := Lib.hid hbox5
        have hfound := Lib.hid (hf.trans (place_found hvc.out.2.2 hlo hhi))
        have HLO := Lib.hid hlo
        have HHI := Lib.hid hhi
        clear hb5 hbel5 hbox5 hy0 hy1 hy2 hy3 hf hlo hhi
        cases bf with
        | true =>
          go_wp2
          go_ret2
          refine .no 11 ?_ rfl HBEL5.out
          unfold insS
          rw [if_pos hvc.out, if_pos HBN.out, if_pos HBR.out, if_pos]
          rw [HRR.out]
          first | exact hfound.out.1 rfl | exact hfound.out.1 trivial
        | false =>
          have hnf : Hid ¬ (findR l r.name).isSome = true := Lib.hid (by
            rw [HRR.out]
            intro h
            have := hfound.out.2 h
            cases this)
          by_cases h88 : l.length = 8
          · have H88 := Lib.hid h88
            have hd : ((l.length : Int) == 8) = true := by rw [h88]; rfl
            clear h88
            go_wp2
            go_ret2
            refine .no 4 ?_ rfl HBEL5.out
            unfold insS
            rw [if_pos hvc.out, if_pos HBN.out, if_pos HBR.out, if_neg hnf.out, if_pos H88.out]
          · have hd : ((l.length : Int) == 8) = false := beq_eq_false_iff_ne.2 (by omega)
            have hmk := fun w => mkRes (l.length + 1) (by omega) w
            rw [show ((l.length + 1 : Nat) : Int) = (l.length : Int) + 1 by omega] at hmk
            obtain ⟨mc, hmc⟩ : ∃ mc, (madeCells #[.string { data := #[] }, .int .i64 0, .int .i64 0, .int .i64 0] ((l.length + 1) * 4)) = mc := ⟨_, rfl⟩
            have hmsz : mc.size = (l.length + 1) * 4 := by rw [← hmc]; exact size_madeCells _ _
            rw [hmc] at hmk
            have HMSZ := Lib.hid hmsz
            clear hmc hmsz
            obtain ⟨hs1, hs2⟩ := cuts Tryd.underlying22 resInfo A l.length cap k hk hc
            have hown0 := OwnRows.made resE 36 w5 w5.heap.size mc (l.length + 1) (Nat.le_refl _) (by unfold maxLen; omega) HMSZ.out
            have HOWN0 := Lib.hid hown0
            clear hown0
            have htl : (l.take k).length = k := by rw [List.length_take]; omega
            have HTL := Lib.hid htl
            have hdl : (l.drop k).length = l.length - k := List.length_drop
            have HDL := Lib.hid hdl
            clear htl hdl
            have HK1 : Hid (RowsAt resE (w5.alloc (.cells mc 36)) (Lo B) A l) := Lib.hid (HR.out.below (HBEL5.out.alloc HBEL5.out.size _) hB (Nat.le_refl _))
            have HB5 : B ≤ w5.heap.size := Nat.le_trans hB HBEL5.out.size
            have HK2 : ∀ W, Below w.heap.size w W → Hid (RowsAt resE W (Lo B) (cutA A cap k 4) (l.drop k)) := fun W hW => Lib.hid ((HR.out.below (B'' := B) hW hB (Nat.le_refl _)).cut hk hc)
            have HK2' := Lib.hid HK2
            clear HK2
            go_wp2_with (first
              | (at_builtin; refine pushR resT rfl (.tmp 34) (.tmp 37) rfl _ w5.heap.size _ [] (l.take k) k HTL.out A cap rfl HOWN0.out rfl ((HK1.out.take k).mono fun b hb => HOWN0.out.oth (Nat.lt_of_lt_of_le hb HB5)) (by simp; omega) ?_; intro v6 w6 hown6 hb6 hsp6; rw [List.nil_append] at hown6; have hbox6 := (HBOX5.out.alloc _).below hb6 HBOX5.out.lt; have q0 := hbox6.cellx 0 (v := .string nm) rfl; have q1 := hbox6.cellx 1 (v := .int .i64 kd) rfl; have q2 := hbox6.cellx 2 (v := .int .i64 u) rfl; have q3 := hbox6.cellx 3 (v := .int .i64 h) rfl; have HBEL6 := Lib.hid ((HBEL5.out.alloc HBEL5.out.size _).trans (hb6.mono HBEL5.out.size)); have HOWN6 := Lib.hid hown6; clear hown6 hb6 hsp6 hbox6)
              | (at_builtin; refine pushOne resT rfl (.tmp 39) (.tmp 41) rfl w6 w5.heap.size v6 (l.take k) ⟨nm, kd, u, h⟩ [.string nm, .int .i64 kd, .int .i64 u, .int .i64 h] _ rfl rfl HOWN6.out w6.heap.size rfl rfl rfl (by rw [HTL.out]; omega) ?_; intro v7 w7 hown7 hb7 hsp7; have HBEL7 := Lib.hid (HBEL6.out.trans (hb7.mono HBEL5.out.size)); have HOWN7 := Lib.hid hown7; clear hown7 hb7 hsp7 q0 q1 q2 q3)
              | (at_builtin; refine pushR resT rfl (.tmp 43) (.tmp 46) rfl w7 w5.heap.size v7 (l.take k ++ [⟨nm, kd, u, h⟩]) (l.drop k) _ HDL.out _ _ rfl HOWN7.out rfl ((HK2'.out _ HBEL7.out).out.mono fun b hb => HOWN7.out.oth (Nat.lt_of_lt_of_le hb HB5)) (by rw [List.length_append, HTL.out]; simp; omega) ?_; intro v8 w8 hown8 hb8 hsp8; have HBEL8 := Lib.hid (HBEL7.out.trans (hb8.mono HBEL5.out.size)); have HOWN8 := Lib.hid hown8; clear hown8 hb8 hsp8))
            go_ret2
            have hkey : r.key = nm.toList := by rw [HRR.out]; rfl
            have hins : insS l r = (0, l.take k ++ [⟨nm, kd, u, h⟩] ++ l.drop k) := by
              unfold insS
              rw [if_pos hvc.out, if_pos HBN.out, if_pos HBR.out, if_neg hnf.out, if_neg h88, insL_eq hk (by rw [hkey]; exact HLO.out) (by rw [hkey]; exact HHI.out), HRR.out]
              simp
            rw [hins]
            exact ⟨_, rfl, HOWN8.out.older HBEL5.out.size, HBEL8.out⟩
end Go.Proofs.YtbjbolpmbdllnaaDoor
