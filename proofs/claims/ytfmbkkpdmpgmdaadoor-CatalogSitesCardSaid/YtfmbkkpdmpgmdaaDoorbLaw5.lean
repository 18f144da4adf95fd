/- The law CatalogSites: the walk. -/
import Derived.Test.YtfmbkkpdmpgmdaaDoorbLaw2
import Derived.Test.YtfmbkkpdmpgmdaaDoorbPlainV
namespace Go.Proofs.YtfmbkkpdmpgmdaaDoor
open Go.RowKit

/-- The resources of the sites below s; the same and the first k of site s. -/
def upTo (l : Ct) (s : Nat) : Ct := l.filter (fun x => decide (x.home < (s : Int)))
def upToK (l : Ct) (s k : Nat) : Ct := l.filter (doneB l (s : Int) k)
theorem upTo_len {l : Ct} (s : Nat) : (upTo l s).length ≤ l.length := List.length_filter_le _ _
theorem upToK_len {l : Ct} (s k : Nat) : (upToK l s k).length ≤ l.length := List.length_filter_le _ _
theorem atL_len {l : Ct} (s : Int) : (atL l s).length ≤ l.length := List.length_filter_le _ _
theorem upToK_zero {l : Ct} (s : Nat) : upToK l s 0 = upTo l s := doneB_zero
theorem upToK_end {l : Ct} (hv : VCat l) (s : Nat) : upToK l s (atL l (s : Int)).length = upTo l (s + 1) := by
  unfold upToK upTo
  rw [doneB_end hv]
  congr 1
theorem upTo_count {l : Ct} (s : Nat) : (upTo l s).length + (atL l (s : Int)).length = (upTo l (s + 1)).length := by
  have := count_step (l := l) (s := (s : Int))
  unfold upTo
  exact this
theorem upToK_step {l : Ct} (hv : VCat l) {s k : Nat} (h : k < (atL l (s : Int)).length) : insS (upToK l s k) (atL l (s : Int))[k] = (0, upToK l s (k + 1)) := by
  obtain ⟨h1, h2⟩ := doneB_new hv h
  unfold upToK
  rw [ins_filter hv _ h1 h2, doneB_step h]

set_option maxHeartbeats 8000000 in
set_option maxRecDepth 100000 in
theorem CSites_any (A : Option Addr) (cap : Nat) (l : Ct) (w : World) (hm : l.length ≤ maxLen) (hr : RowsAt resE w (Lo w.heap.size) A l) :
    Calls Tryd.prog 6 #[.slice A l.length cap] w (Ret w (.bool true)) := by
  have HR := Lib.hid hr
  have HM := Lib.hid hm
  have HVC := Lib.hid (rCatValid_any A w.heap.size cap l w hm (Nat.le_refl _) hr)
  unfold maxLen at hm
  clear hr
  go_enter Tryd.func6, Tryd.ntmps6
  go_wp2_with fail
  refine HVC.out.mono ?_
  rintro e w2 ⟨bv, rfl, hv, hb2⟩
  have HV := Lib.hid hv
  have HB2 := Lib.hid hb2
  clear hb2 hv
  cases bv with
  | false =>
    go_wp2_with fail
    refine (awake_any _).mono ?_
    rintro e wz ⟨rfl, hbz⟩
    go_wp2
    go_ret
    exact ⟨rfl, HB2.out.trans (hbz.mono HB2.out.size)⟩
  | true =>
    have hvc := Lib.hid (HV.out.1 rfl)
    have h8 := hvc.out.1
    have hz : Hid (upTo l 0 = []) := Lib.hid (none_home hvc.out)
    have hall : Hid (upTo l 4 = l) := Lib.hid (all_home hvc.out)
    go_wp2_with fail
    go_loopg [3, 4, 5] 4 (fun m v3 v4 v5 wq => ∃ (s : Nat) (A3 : Option Addr) (c3 : Nat), v5 = .int .i64 (s : Int) ∧ v4 = .int .i64 ((upTo l s).length : Int) ∧ v3 = .slice A3 (upTo l s).length c3 ∧ s ≤ 4 ∧ 4 ≤ s + m ∧
      Hid (RowsAt resE wq (Lo wq.heap.size) A3 (upTo l s) ∧ (upTo l s).length ≤ c3 ∧ c3 ≤ maxLen) ∧ Below w.heap.size w wq)
    case atStart => exact ⟨0, none, 0, rfl, by rw [hz.out]; rfl, by rw [hz.out]; rfl, by omega, by omega, Lib.hid ⟨by rw [hz.out]; exact RowsAt.nil _ _ _ _, by rw [hz.out]; simp, by simp [maxLen]⟩, HB2.out⟩
    case round =>
      obtain ⟨G, hG⟩ : ∃ G, G = gk := ⟨_, rfl⟩
      subst hG
      obtain ⟨wo, hwo⟩ : ∃ wo, wo = wr := ⟨_, rfl⟩
      subst hwo
      obtain ⟨s, A3, c3, rfl, rfl, rfl, hs, hsm, HINV, hbw⟩ := hrel
      have HBW := Lib.hid hbw
      have hu8 := upTo_len (l := l) s
      clear hbw
      by_cases hlt : s < 4
      · have ha8 := atL_len (l := l) (s : Int)
        go_wp2_with fail
        refine (At_any A w.heap.size cap l (s : Int) _ HM.out (by omega) HBW.out.size (HR.out.below HBW.out (Nat.le_refl _) (Nat.le_refl _))).mono ?_
        rintro e w6 ⟨v6, rfl, hown6, hb6⟩
        obtain ⟨A6, c6, rfl, hr6, _, _⟩ := hown6.form
        have HR6 := Lib.hid hr6
        have HINV6 := Lib.hid (HINV.out.1.below (B'' := w6.heap.size) hb6 (Nat.le_refl _) hb6.size)
        have HB6 := Lib.hid (HBW.out.trans (hb6.mono HBW.out.size))
        clear hr6 hown6 hb6
        go_wp2_with fail
        go_loopg [3, 7] (atL l (s : Int)).length (fun m2 v3 v7 wq => ∃ (k : Nat) (A4 : Option Addr) (c4 : Nat), v7 = .int .i64 (k : Int) ∧ v3 = .slice A4 (upToK l s k).length c4 ∧ k ≤ (atL l (s : Int)).length ∧ (atL l (s : Int)).length ≤ k + m2 ∧
          Hid (RowsAt resE wq (Lo wq.heap.size) A4 (upToK l s k) ∧ (upToK l s k).length ≤ c4 ∧ c4 ≤ maxLen) ∧ Below w6.heap.size w6 wq)
        case atStart => exact ⟨0, A3, c3, rfl, by rw [upToK_zero], by omega, by omega, Lib.hid ⟨by rw [upToK_zero]; exact HINV6.out, by rw [upToK_zero]; exact HINV.out.2.1, HINV.out.2.2⟩, Below.refl _ _⟩
        case round =>
          obtain ⟨k, A4, c4, rfl, rfl, hk, hkm, HJ, hbw2⟩ := hrel
          have HBW2 := Lib.hid hbw2
          have hk8 := upToK_len (l := l) s k
          clear hbw2
          by_cases hlt2 : k < (atL l (s : Int)).length
          · have hst := upToK_step hvc.out hlt2
            have hrp := HR6.out.below (B'' := wr.heap.size) HBW2.out (Nat.le_refl _) HBW2.out.size
            obtain ⟨⟨nm, kd, u, h⟩, hx⟩ : ∃ x, (atL l (s : Int))[k] = x := ⟨_, rfl⟩
            obtain ⟨b, off, rfl, hbl, hc0, hc1, hc2, hc3⟩ := res_cells hrp hlt2 hx
            rw [hx] at hst
            have HST := Lib.hid hst
            have hlti : (k : Int) < ((atL l (s : Int)).length : Int) := by omega
            have HBL : Hid (b < wr.heap.size) := Lib.hid hbl
            clear hx hst hrp hbl
            go_wp2_with fail
            refine (Insert_any A4 wr.heap.size c4 (upToK l s k) ⟨nm, kd, u, h⟩ wr HJ.out.2.1 HJ.out.2.2 (Nat.le_refl _) HJ.out.1).mono ?_
            rw [HST.out]
            rintro e w8 ⟨v8, rfl, hown8, hb8⟩
            obtain ⟨A8, c8, rfl, hr8, hl8, hl8'⟩ := hown8.form
            have HR8 := Lib.hid hr8
            have HL8 := Lib.hid hl8
            have HL8' := Lib.hid hl8'
            have HB8 := Lib.hid (HBW2.out.trans (hb8.mono HBW2.out.size))
            clear hr8 hl8 hl8' hown8 hb8 hc0 hc1 hc2 hc3
            go_wp2_with fail
            go_roundg (gk - 1)
            case measure => omega
            case rel => exact ⟨k + 1, A8, c8, by go_num, rfl, by omega, by omega, Lib.hid ⟨HR8.out, HL8.out, HL8'.out⟩, HB8.out⟩
          · obtain rfl : k = (atL l (s : Int)).length := by omega
            have hend := upToK_end hvc.out s
            have hcnt := upTo_count (l := l) s
            rw [hend] at HJ
            have HE := Lib.hid hend
            have HC := Lib.hid hcnt
            have HBO := Lib.hid (HB6.out.trans (HBW2.out.mono HB6.out.size))
            clear hend hcnt
            go_wp2_with fail
            go_roundg (G - 1)
            case measure => omega
            case rel => exact ⟨s + 1, A4, c4, by go_num, by rw [← HC.out]; go_num, by rw [HE.out], by omega, by omega, Lib.hid HJ.out, HBO.out⟩
      · obtain rfl : s = 4 := by omega
        rw [hall.out] at HINV
        have hL : (((upTo l 4).length : Int) == (l.length : Int)) = true := by rw [hall.out]; simp
        go_wp2_with fail
        refine (awake_any _).mono ?_
        rintro e w5 ⟨rfl, hb5⟩
        have HB5 := Lib.hid (HBW.out.trans (hb5.mono HBW.out.size))
        have HX5 := Lib.hid (HINV.out.1.below (B'' := w5.heap.size) hb5 (Nat.le_refl _) hb5.size)
        clear hb5
        go_wp2_with fail
        rw [hall.out]
        refine (Same_any A3 A w5.heap.size w.heap.size c3 cap l l w5 HM.out HM.out (Nat.le_refl _) HB5.out.size HX5.out (HR.out.below HB5.out (Nat.le_refl _) (Nat.le_refl _))).mono ?_
        rintro e w7 ⟨b, rfl, hb, hb7⟩
        obtain rfl : b = true := hb.2 rfl
        go_wp2
        go_ret
        exact ⟨rfl, HB5.out.trans (hb7.mono HB5.out.size)⟩
end Go.Proofs.YtfmbkkpdmpgmdaaDoor
