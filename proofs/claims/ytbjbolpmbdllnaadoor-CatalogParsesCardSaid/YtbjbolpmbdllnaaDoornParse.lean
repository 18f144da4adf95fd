/- Parse, the program's. -/
import Derived.Test.YtbjbolpmbdllnaaDoornLine
namespace Go.Proofs.YtbjbolpmbdllnaaDoor
open Go.RowKit

theorem resT' : ElT Tryd.prog resE 22 36 := resT
/-- strings.Cut at one byte. -/
theorem SCut_any (s : ByteArray) (c : UInt8) (hs : s.size ≤ 100000) (w : World) (hL : Lay w) : Calls Tryd.prog 20 #[.string s, .string ⟨#[c]⟩] w fun e w' =>
    ∃ (a b : ByteArray) (f : Bool), e = .returned (.tuple #[.string a, .string b, .bool f]) ∧ Lib.cut s.data.toList [c] = (a.data.toList, b.data.toList, f) ∧ Below w.heap.size w w' := by
  obtain ⟨m, hm⟩ := hL.mx
  refine (Tryd.strings_Cut s ⟨#[c]⟩ m w (by omega) hm).mono ?_
  rintro e w' ⟨rfl, n, rfl⟩
  exact ⟨_, _, _, rfl, rfl, below_drewN (Below.refl _ _) n⟩
theorem cut_sizes {s a b : ByteArray} {c : UInt8} {f : Bool} (h : Lib.cut s.data.toList [c] = (a.data.toList, b.data.toList, f)) (hs : s.data.toList ≠ []) : a.size ≤ s.size ∧ b.size < s.size := by
  have h0 : s.data.toList.length = s.size := by simp
  have hp : 0 < s.data.toList.length := List.length_pos_iff.2 hs
  have ha : a.data.toList.length = a.size := by simp
  have hb : b.data.toList.length = b.size := by simp
  unfold Lib.cut at h
  split at h
  · simp only [Prod.mk.injEq] at h
    rw [← h0, ← ha, ← hb, ← h.1, ← h.2.1, List.length_take, List.length_drop]
    simp
    omega
  · simp only [Prod.mk.injEq] at h
    rw [← h0, ← ha, ← hb, ← h.1, ← h.2.1]
    simp
    omega

set_option maxHeartbeats 3200000 in
set_option maxRecDepth 100000 in
theorem Parse_any (s : ByteArray) (w : World) (hL : Lay w) : Calls Tryd.prog 9 #[.string s] w (RetLE w (parseC s.data.toList)) := by
  have LH := Lib.hid hL
  have hsz : s.data.toList.length = s.size := by simp
  obtain ⟨p, hp⟩ : ∃ p, parseC s.data.toList = p := ⟨_, rfl⟩
  rw [hp]
  have HP := Lib.hid hp
  have HSZ := Lib.hid hsz
  clear hL hp hsz
  by_cases hlong : 1024 < s.size
  · have hi : (1024 : Int) < (s.size : Int) := by omega
    have HQ : Hid (p = (3, [])) := Lib.hid (by rw [← HP.out]; unfold parseC; rw [if_pos (by rw [HSZ.out]; exact hlong)])
    go_enter Tryd.func9, Tryd.ntmps9
    go_wp2_with fail
    go_ret2
    exact RetLE.no 3 HQ.out rfl (Below.refl _ _)
  · have hi : ¬ (1024 : Int) < (s.size : Int) := by omega
    have HQ : Hid (p = doneC s.data.toList (progS s.data.toList)) := Lib.hid (by rw [← HP.out]; unfold parseC; rw [if_neg (by rw [HSZ.out]; exact hlong)])
    have HNO : Hid (progS s.data.toList = none → p = (6, [])) := Lib.hid (fun h => by rw [HQ.out, h]; rfl)
    go_enter Tryd.func9, Tryd.ntmps9
    go_wp2_with fail
    go_loopg [4, 5] s.size (fun m v4 v5 wq => ∃ (rest : ByteArray) (acc : Ct), v5 = .string rest ∧ rest.size ≤ m ∧ acc.length + rest.size ≤ s.size ∧ Hid (OwnRows resE 36 wq w.heap.size v4 acc) ∧ Hid (Below w.heap.size w wq) ∧ Hid (∃ f, rest.size < f ∧ progS s.data.toList = (progL f rest.data.toList).map (acc ++ ·)))
    case atStart => exact ⟨s, [], rfl, Nat.le_refl _, by simp, Lib.hid (OwnRows.nil _ _ _ _ (Nat.le_refl _)), Lib.hid (Below.refl _ _), Lib.hid ⟨s.size + 1, by omega, by unfold progS; rw [HSZ.out]; cases progL (s.size + 1) s.data.toList <;> rfl⟩⟩
    case round =>
      obtain ⟨rest, acc, rfl, hm, hacc, HO, HBW, HF⟩ := hrel
      by_cases hr0 : rest.data.toList = []
      · have heq : (rest.toList == ([] : List UInt8)) = true := beq_iff_eq.2 (by rw [ByteArray.toList_eq]; exact hr0)
        have HDN : Hid (p = doneC s.data.toList (some acc)) := Lib.hid (by
          obtain ⟨F, hF1, hF2⟩ := HF.out
          obtain ⟨F, rfl⟩ : ∃ n, F = n + 1 := ⟨F - 1, by omega⟩
          rw [HQ.out, hF2, hr0]
          unfold progL
          rw [if_pos rfl]
          simp)
        obtain ⟨A1, cap1, rfl, _, hr1, hc1, hcm1⟩ := HO.out.form2
        have hml : acc.length ≤ maxLen := by unfold maxLen; omega
        have HV := Lib.hid (CatValid_any A1 wr.heap.size cap1 acc wr hml (Nat.le_refl _) hr1)
        have HFM : Hid (∀ W, Below wr.heap.size wr W → Calls Tryd.prog 5 #[.slice A1 acc.length cap1] W (RetS W (fmtL acc))) := Lib.hid (fun W hb => Format_any A1 wr.heap.size cap1 acc W hml hb.size (hr1.below hb (Nat.le_refl _) (Nat.le_refl _)))
        clear hr1 hr0
        go_wp2_with fail
        refine HV.out.mono ?_
        rintro e w1 ⟨q, rfl, hq, hb1⟩
        have HB1 : Hid (Below wr.heap.size wr w1) := Lib.hid hb1
        have HBW1 : Hid (Below w.heap.size w w1) := Lib.hid (Below.tr HBW.out hb1)
        have HV1 := Lib.hid hq
        clear hb1 hq
        cases q with
        | false =>
          have HPN : Hid (p = (6, [])) := Lib.hid (by
            rw [HDN.out]
            unfold doneC
            exact if_neg (fun h => by have := HV1.out.2 h.1; cases this))
          go_wp2_with fail
          go_ret2
          exact RetLE.no 6 HPN.out rfl HBW1.out
        | true =>
          go_wp2_with fail
          refine (HFM.out _ HB1.out).mono ?_
          rintro e w2 ⟨rfl, hb2⟩
          have HBW2 : Hid (Below w.heap.size w w2) := Lib.hid (Below.tr HBW1.out hb2)
          have HO2 := Lib.hid (HO.out.below (B := wr.heap.size) (Below.tr HB1.out hb2) (Nat.le_refl _))
          clear hb2
          by_cases hs : fmtL acc = s.data.toList
          · have hsb : ((⟨(fmtL acc).toArray⟩ : ByteArray).toList == s.toList) = true := by rw [toList_lit, ByteArray.toList_eq, beq_iff_eq]; exact hs
            have HPN : Hid (p = (0, acc)) := Lib.hid (by
              rw [HDN.out]
              unfold doneC
              have hv : VCat acc := by simpa using HV1.out
              unfold fmtL at hs
              rw [if_pos hv] at hs
              exact if_pos ⟨hv, hs⟩)
            clear hs
            generalize (⟨(fmtL acc).toArray⟩ : ByteArray) = t at *
            go_wp2_with fail
            go_ret2
            rw [HPN.out]
            exact ⟨_, rfl, HO2.out, HBW2.out⟩
          · have hsb : ((⟨(fmtL acc).toArray⟩ : ByteArray).toList == s.toList) = false := by rw [toList_lit, ByteArray.toList_eq, beq_eq_false_iff_ne]; exact hs
            have HPN : Hid (p = (6, [])) := Lib.hid (by
              rw [HDN.out]
              unfold doneC
              refine if_neg (fun h => hs ?_)
              unfold fmtL
              rw [if_pos h.1]
              exact h.2)
            clear hs
            generalize (⟨(fmtL acc).toArray⟩ : ByteArray) = t at *
            go_wp2_with fail
            go_ret2
            exact RetLE.no 6 HPN.out rfl HBW2.out
      · have hne : (rest.toList == ([] : List UInt8)) = false := beq_eq_false_iff_ne.2 (by rw [ByteArray.toList_eq]; exact hr0)
        have HC := Lib.hid (fun W h => SCut_any rest 10 (by omega) W h)
        have HR0 := Lib.hid hr0
        clear hr0
        go_wp2_with fail
        refine (HC.out _ (LH.out.below (by exact HBW.out))).mono ?_
        rintro e w1 ⟨a, b, f, rfl, hcut, hb1⟩
        obtain ⟨ha, hb⟩ := cut_sizes hcut HR0.out
        have HCUT := Lib.hid hcut
        have HB1 : Hid (Below w.heap.size w w1) := Lib.hid (Below.tr HBW.out hb1)
        have HO1 := Lib.hid (HO.out.below (B := wr.heap.size) hb1 (Nat.le_refl _))
        clear hcut hb1
        have HLN := Lib.hid (fun W h => parseLine_any a (by omega) W h)
        go_wp2_with fail
        refine (HLN.out _ (LH.out.below HB1.out)).mono ?_
        rintro e w2 ⟨hb2, he⟩
        have HB2 : Hid (Below w.heap.size w w2) := Lib.hid (Below.tr HB1.out hb2)
        have HO2 := Lib.hid (HO1.out.below (B := w1.heap.size) hb2 (Nat.le_refl _))
        clear hb2
        obtain ⟨F, hF1, hF2⟩ := HF.out
        obtain ⟨F, rfl⟩ : ∃ n, F = n + 1 := ⟨F - 1, by omega⟩
        have hstep : progL (F + 1) rest.data.toList = (if f = true then
            match progW (Lib.split a.data.toList [32]) with
            | none => none
            | some r => (progL F b.data.toList).map (r :: ·)
          else none) := by
          conv => lhs; unfold progL
          rw [if_neg HR0.out, HCUT.out]
          rfl
        rw [hstep] at hF2
        clear hstep
        rcases hpw : progW (Lib.split a.data.toList [32]) with _ | r
        · have HPN := Lib.hid (HNO.out (by rw [hF2, hpw]; cases f <;> rfl))
          rw [hpw] at he
          obtain ⟨⟨q1, q2, q3, q4⟩, he⟩ := he
          unfold Rs.val at he
          dsimp only at he
          subst he
          clear hpw hF1 hF2
          cases f <;>
            · go_wp2_with fail
              go_ret2
              exact RetLE.no 6 HPN.out rfl (by ((repeat (first | (with_reducible exact Below.refl _ _) | (with_reducible assumption) | (with_reducible refine below_drewN ?_ _) | (with_reducible refine Below.drew ?_) | (with_reducible refine Below.al ?_ _) | (with_reducible refine Below.st ?_ (by simp; try omega)) | (with_reducible refine Below.tr ?_ (by assumption))))); exact HB2.out)
        · have HPW := Lib.hid hpw
          rw [hpw] at he hF2
          obtain ⟨r1, r2, r3, r4⟩ := r
          dsimp only at he
          unfold Rs.val at he
          dsimp only at he
          subst he
          clear hpw
          cases f with
          | false =>
            have HPN := Lib.hid (HNO.out (by rw [hF2]; rfl))
            clear hF1 hF2
            go_wp2_with fail
            go_ret2
            exact RetLE.no 6 HPN.out rfl (by ((repeat (first | (with_reducible exact Below.refl _ _) | (with_reducible assumption) | (with_reducible refine below_drewN ?_ _) | (with_reducible refine Below.drew ?_) | (with_reducible refine Below.al ?_ _) | (with_reducible refine Below.st ?_ (by simp; try omega)) | (with_reducible refine Below.tr ?_ (by assumption))))); exact HB2.out)
          | true =>
            have HF2 := Lib.hid (And.intro hF1 hF2)
            clear hF1 hF2
            have hl : acc.length < maxLen ∧ (acc.length + 1) * 40 ≤ 140737488355328 := by unfold maxLen; omega
            go_wp2_with (at_builtin; refine pushOneB resTB rfl (.tmp 34) (.tmp 36) rfl (w2.alloc (.cells #[.string r1, .int .i64 r2, .int .i64 r3, .int .i64 r4] 36)) w.heap.size u4 acc ⟨r1, r2, r3, r4⟩ [.string r1, .int .i64 r2, .int .i64 r3, .int .i64 r4] _ rfl rfl (HO2.out.alloc _) (w2.heap.size + 1) rfl (by simp) rfl hl.1 hl.2 ?_; intro v7 w7 hown7 hb7 hsp7; have HB7 := Lib.hid ((HB2.out.alloc HB2.out.size _).trans hb7); have HO7 := Lib.hid hown7; clear hown7 hb7 hsp7)
            go_roundg (gk - 1)
            case measure => omega
            case rel =>
              obtain ⟨hF1, hF2⟩ := HF2.out
              refine ⟨b, acc ++ [⟨r1, r2, r3, r4⟩], rfl, by omega, by rw [List.length_append]; simp; omega, HO7, HB7, Lib.hid ⟨F, by omega, ?_⟩⟩
              rw [hF2]
              cases progL F b.data.toList <;> simp
      
end Go.Proofs.YtbjbolpmbdllnaaDoor
