/- Remove, the program's and the document's. -/
import Derived.Test.YtfmbkkpdmpgmdaaDoorbSpec
import Derived.Test.YtfmbkkpdmpgmdaaDoorbCut
namespace Go.Proofs.YtfmbkkpdmpgmdaaDoor
open Go.RowKit

theorem mkRes0 (c : Nat) (hc : c ≤ 1000000) : ∃ mc : Array Value, mc.size = c * 4 ∧ ∀ w, (Instr.makeSlice 24 (.int .i64 0) (.int .i64 (c : Int))).run Tryd.prog w = .ok (.slice (some ⟨w.heap.size, 0, none⟩) 0 c) (w.alloc (.cells mc 26)) :=
  ⟨_, size_madeCells _ _, fun w => mkRes c hc w⟩

set_option maxHeartbeats 4000000 in
set_option maxRecDepth 100000 in
theorem Remove_any (A : Option Addr) (B cap : Nat) (l : Ct) (n : ByteArray) (w : World) (hc : l.length ≤ cap) (hcm : cap ≤ maxLen) (hB : B ≤ w.heap.size) (hr : RowsAt resE w (Lo B) A l) :
    Calls Tryd.prog 26 #[.slice A l.length cap, .string n] w (RetLE w (remS l n)) := by
  unfold maxLen at hcm
  have HR := Lib.hid hr
  have HVC := Lib.hid (fun W (h : Below w.heap.size w W) => CatValid_any A B cap l W (by unfold maxLen; omega) (Nat.le_trans hB h.size) (hr.below h hB (Nat.le_refl _)))
  clear hr
  go_enter Tryd.func26, Tryd.ntmps26
  go_wp2_with fail
  refine (HVC.out _ (Below.refl _ _)).mono ?_
  rintro e w2 ⟨bv, rfl, hv, hb2⟩
  have HV := Lib.hid hv
  have HBEL2 := Lib.hid hb2
  clear hb2 hv
  cases bv with
  | false =>
    go_wp2
    go_ret2
    exact .no 2 (by unfold remS; rw [if_neg (fun h => by have := HV.out.2 h; cases this)]) rfl HBEL2.out
  | true =>
    have hvc := Lib.hid (HV.out.1 rfl)
    have h8 := hvc.out.1
    go_wp2_with fail
    refine (place_any A B cap l n _ hvc.out.2.2 (by omega) (Nat.le_trans hB HBEL2.out.size) (HR.out.below HBEL2.out hB (Nat.le_refl _))).mono ?_
    rintro e w5 ⟨k, bf, rfl, hk, hlo, hhi, hf, hb5⟩
    have HBEL5 := Lib.hid (HBEL2.out.trans (hb5.mono HBEL2.out.size))
    have HF := Lib.hid hf
    have HLO := Lib.hid hlo
    have HHI := Lib.hid hhi
    clear hb5 hlo hhi hf
    cases bf with
    | false =>
      go_wp2
      go_ret2
      refine .no 10 ?_ rfl HBEL5.out
      unfold remS
      rw [if_pos hvc.out, if_neg]
      intro h
      have := HF.out.2 ((place_found hvc.out.2.2 HLO.out HHI.out).2 h)
      cases this
    | true =>
      obtain ⟨hlt, he⟩ := HF.out.1 rfl
      have hrem : Hid (remS l n = (0, l.take k ++ l.drop (k + 1))) := Lib.hid (by
        unfold remS
        rw [if_pos hvc.out, if_pos ((place_found hvc.out.2.2 HLO.out HHI.out).1 ⟨hlt, he⟩), remL_eq hvc.out.2.2 hlt he])
      clear he
      obtain ⟨mc, hmsz, hmk⟩ := mkRes0 l.length (by omega)
      have HMSZ := Lib.hid hmsz
      obtain ⟨hs1, _⟩ := cuts Tryd.underlying24 resInfo A l.length cap k hk hc
      obtain ⟨_, hs2⟩ := cuts Tryd.underlying24 resInfo A l.length cap (k + 1) hlt hc
      rw [show ((k + 1 : Nat) : Int) = (k : Int) + 1 by omega] at hs2
      have HOWN0 := Lib.hid (OwnRows.made resE 26 w5 w5.heap.size mc l.length (Nat.le_refl _) (by unfold maxLen; omega) HMSZ.out)
      have HTL : Hid ((l.take k).length = k) := Lib.hid (by rw [List.length_take]; omega)
      have HDL : Hid ((l.drop (k + 1)).length = l.length - (k + 1)) := Lib.hid List.length_drop
      have HK1 : Hid (RowsAt resE (w5.alloc (.cells mc 26)) (Lo B) A l) := Lib.hid (HR.out.below (HBEL5.out.alloc HBEL5.out.size _) hB (Nat.le_refl _))
      have HB5 : B ≤ w5.heap.size := Nat.le_trans hB HBEL5.out.size
      have HK2 := Lib.hid (fun W (hW : Below w.heap.size w W) => (HR.out.below (B'' := B) hW hB (Nat.le_refl _)).cut (cap := cap) (k := k + 1) hlt hc)
      clear hmsz
      go_wp2_with (first
        | (at_builtin; refine pushR resT rfl (.tmp 23) (.tmp 26) rfl _ w5.heap.size _ [] (l.take k) k HTL.out A cap rfl HOWN0.out rfl ((HK1.out.take k).mono fun b hb => HOWN0.out.oth (Nat.lt_of_lt_of_le hb HB5)) (by simp; omega) ?_; intro v6 w6 hown6 hb6 hsp6; rw [List.nil_append] at hown6; have HBEL6 := Lib.hid ((HBEL5.out.alloc HBEL5.out.size _).trans (hb6.mono HBEL5.out.size)); have HOWN6 := Lib.hid hown6; clear hown6 hb6 hsp6)
        | (at_builtin; refine pushR resT rfl (.tmp 28) (.tmp 32) rfl w6 w5.heap.size v6 (l.take k) (l.drop (k + 1)) _ HDL.out _ _ rfl HOWN6.out rfl ((HK2.out _ HBEL6.out).mono fun b hb => HOWN6.out.oth (Nat.lt_of_lt_of_le hb HB5)) (by rw [HTL.out]; omega) ?_; intro v8 w8 hown8 hb8 hsp8; have HBEL8 := Lib.hid (HBEL6.out.trans (hb8.mono HBEL5.out.size)); have HOWN8 := Lib.hid hown8; clear hown8 hb8 hsp8))
      go_ret2
      rw [hrem.out]
      exact ⟨_, rfl, HOWN8.out.older HBEL5.out.size, HBEL8.out⟩

set_option maxHeartbeats 4000000 in
set_option maxRecDepth 100000 in
theorem rRemove_any (A : Option Addr) (B cap : Nat) (l : Ct) (n : ByteArray) (w : World) (hc : l.length ≤ maxLen) (hB : B ≤ w.heap.size) (hr : RowsAt resE w (Lo B) A l) :
    Calls Tryd.prog 27 #[.slice A l.length cap, .string n] w (RetLE w (remS l n)) := by
  have HR := Lib.hid hr
  have HVC := Lib.hid (fun W (h : Below w.heap.size w W) => rCatValid_any A B cap l W hc (Nat.le_trans hB h.size) (hr.below h hB (Nat.le_refl _)))
  unfold maxLen at hc
  clear hr
  go_enter Tryd.func27, Tryd.ntmps27
  go_wp2_with fail
  refine (HVC.out _ (Below.refl _ _)).mono ?_
  rintro e w2 ⟨bv, rfl, hv, hb2⟩
  have HV := Lib.hid hv
  have HBEL2 := Lib.hid hb2
  clear hb2 hv
  cases bv with
  | false =>
    go_wp2
    go_ret2
    exact .no 2 (by unfold remS; rw [if_neg (fun h => by have := HV.out.2 h; cases this)]) rfl HBEL2.out
  | true =>
    have hvc := Lib.hid (HV.out.1 rfl)
    have h8 := hvc.out.1
    go_wp2_with fail
    refine (rFind_any A B cap l n _ (by unfold maxLen; omega) (Nat.le_trans hB HBEL2.out.size) (HR.out.below HBEL2.out hB (Nat.le_refl _))).mono ?_
    rintro e w5 ⟨rfl, hb5⟩
    have HBEL5 := Lib.hid (HBEL2.out.trans (hb5.mono HBEL2.out.size))
    clear hb5
    obtain ⟨bf, hbf⟩ : ∃ b, (findR l n).isSome = b := ⟨_, rfl⟩
    have HBF := Lib.hid hbf
    obtain ⟨⟨nm', kd', u', h'⟩, hrf⟩ : ∃ x, (findR l n).getD Rs.zero = x := ⟨_, rfl⟩
    unfold retFind
    rw [hbf, hrf]
    unfold Rs.val
    clear hbf hrf
    cases bf with
    | false =>
      go_wp2
      go_ret2
      refine .no 10 ?_ rfl (HBEL5.out.alloc HBEL5.out.size _)
      unfold remS
      rw [if_pos hvc.out, if_neg (by rw [HBF.out]; simp)]
    | true =>
      have hrem : Hid (remS l n = (0, remL l n.toList)) := Lib.hid (by
        unfold remS
        rw [if_pos hvc.out, if_pos HBF.out])
      go_wp2_with fail
      go_loopg [8, 9] l.length (fun m v8 v9 wq => ∃ (k : Nat), v9 = .int .i64 (k : Int) ∧ k ≤ l.length ∧ l.length ≤ k + m ∧ OwnRows resE 26 wq w5.heap.size v8 (remL (l.take k) n.toList) ∧ Below w5.heap.size w5 wq)
      case atStart => exact ⟨0, rfl, Nat.zero_le _, by omega, OwnRows.nil _ _ _ _ (by simp), (Below.refl _ _).alloc (Nat.le_refl _) _⟩
      case round =>
        obtain ⟨k, rfl, hk, hkm, hown, hbw⟩ := hrel
        have HOWN := Lib.hid hown
        have HBW := Lib.hid hbw
        have HBWW := Lib.hid (HBEL5.out.trans (hbw.mono HBEL5.out.size))
        have hszr : w5.heap.size ≤ wr.heap.size := hbw.size
        clear hown hbw
        by_cases hlt : k < l.length
        · have hrw := HR.out.below (B'' := B) HBWW.out hB (Nat.le_refl _)
          obtain ⟨⟨nm2, kd2, u2, h2⟩, hx⟩ : ∃ x, l[k] = x := ⟨_, rfl⟩
          obtain ⟨b, off, rfl, hbl, hc0, hc1, hc2, hc3⟩ := res_cells hrw hlt hx
          have hbl2 : b < wr.heap.size := Nat.lt_of_lt_of_le hbl (Nat.le_trans hB HBWW.out.size)
          have HX := Lib.hid hx
          obtain ⟨q, hq⟩ : ∃ q, (nm2.toList == n.toList) = q := ⟨_, rfl⟩
          have HQ := Lib.hid hq
          have hts := take_succ_filter (l := l) (p := fun x => !(x.key == n.toList)) hlt
          have hl : Hid ((remL (l.take k) n.toList).length < 68719476736) := Lib.hid (by have := filter_take_le (l := l) (p := fun x => !(x.key == n.toList)) (k := k); unfold remL; omega)
          have HTS := Lib.hid hts
          clear hx hrw hbl hts
          cases q with
          | true =>
            have hnew : Hid (remL (l.take (k + 1)) n.toList = remL (l.take k) n.toList) := Lib.hid (by
              unfold remL
              rw [HTS.out, HX.out]
              simp [Rs.key, beq_iff_eq.1 HQ.out])
            go_wp2
            go_roundg (gk - 1)
            case measure => omega
            case rel => exact ⟨k + 1, by go_num, by omega, by omega, by rw [hnew.out]; exact HOWN.out, HBW.out⟩
          | false =>
            have hnew : Hid (remL (l.take (k + 1)) n.toList = remL (l.take k) n.toList ++ [⟨nm2, kd2, u2, h2⟩]) := Lib.hid (by
              unfold remL
              rw [HTS.out, HX.out]
              have := beq_eq_false_iff_ne.1 HQ.out
              simp [Rs.key, this])
            go_wp2_with (at_builtin; refine pushOne resT rfl (.tmp 34) (.tmp 39) rfl wr w5.heap.size u8 (remL (l.take k) n.toList) ⟨nm2, kd2, u2, h2⟩ [.string nm2, .int .i64 kd2, .int .i64 u2, .int .i64 h2] _ rfl rfl HOWN.out wr.heap.size rfl rfl rfl hl.out ?_; intro v7 w7 hown7 hb7 hsp7; have HBEL7 := Lib.hid (HBW.out.trans hb7); have HOWN7 := Lib.hid hown7; clear hown7 hb7 hsp7)
            go_roundg (gk - 1)
            case measure => omega
            case rel => exact ⟨k + 1, by go_num, by omega, by omega, by rw [hnew.out]; exact HOWN7.out, HBEL7.out⟩
        · have HL : Hid (l.take k = l) := Lib.hid (List.take_of_length_le (by omega))
          go_wp2
          go_ret2
          rw [hrem.out]
          exact ⟨_, rfl, by have := HOWN.out; rw [HL.out] at this; exact this.older HBEL5.out.size, HBWW.out⟩
end Go.Proofs.YtfmbkkpdmpgmdaaDoor
