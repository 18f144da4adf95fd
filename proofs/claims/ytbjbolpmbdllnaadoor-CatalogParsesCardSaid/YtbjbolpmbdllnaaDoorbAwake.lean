/- The example that stands in every law of the chapter. -/
import Derived.Test.YtbjbolpmbdllnaaDoorbFormat
import Derived.Test.YtbjbolpmbdllnaaDoorbInsert
namespace Go.Proofs.YtbjbolpmbdllnaaDoor
open Go.RowKit

def rP : Rs := ⟨⟨#[112]⟩, 2, 3, 1⟩
theorem keyP : rP.key = [112] := toList_lit [112]
theorem resP : resB rP = true := by
  unfold resB
  rw [keyP]
  decide
theorem vcP : VCat [rP] := by
  refine ⟨by simp, fun i hi => ?_, fun i hi => by simp at hi⟩
  have : i = 0 := by simpa using hi
  subst this
  exact resP
theorem insP : insS [] rP = (0, [rP]) := by
  unfold insS
  have h1 : nameB rP.key = true := by rw [keyP]; decide
  rw [if_pos VCat.nil, if_pos h1, if_pos resP, if_neg (by simp [findR]), if_neg (by simp)]
  rfl
theorem fmtP : fmtL [rP] = [112, 111, 111, 108, 32, 112, 32, 51, 32, 97, 116, 32, 49, 10] := by
  unfold fmtL
  rw [if_pos vcP]
  unfold linesL lineL
  simp only [List.flatMap_cons, List.flatMap_nil, keyP]
  have h3 : dgt rP.units = [51] := dgt_small (n := 3) (by decide) (by decide)
  have h1 : dgt rP.home = [49] := dgt_small (n := 1) (by decide) (by decide)
  rw [if_neg (by decide), h3, h1]
  rfl
theorem nameAll : nameB (⟨#[97, 108, 108]⟩ : ByteArray).toList = false := by
  rw [toList_lit [97, 108, 108]]
  decide

set_option maxHeartbeats 1600000 in
theorem awake_any (w : World) : Calls Tryd.prog 6 #[] w (Ret w (.bool true)) := by
  have HI := Lib.hid (fun W => Insert_any none 0 0 [] rP W (by simp) (by simp [maxLen]) (Nat.zero_le _) (RowsAt.nil _ _ _ _))
  rw [insP] at HI
  unfold rP Rs.val at HI
  have HN := Lib.hid (fun W => ValidName_any ⟨#[97, 108, 108]⟩ W)
  rw [nameAll] at HN
  go_enter Tryd.func6, Tryd.ntmps6
  go_wp2_with fail
  refine (HI.out _).mono ?_
  rintro e w1 ⟨v, rfl, hown, hb1⟩
  obtain ⟨A, cap, rfl, hr, hc, hcm⟩ := hown.form
  have HR := Lib.hid hr
  have HB1 := Lib.hid hb1
  clear hr hb1 hown
  go_wp2_with fail
  refine (CatValid_any A w1.heap.size cap [rP] w1 (by simp [maxLen]) (Nat.le_refl _) HR.out).mono ?_
  rintro e w2 ⟨b, rfl, hv, hb2⟩
  obtain rfl : b = true := hv.2 vcP
  have HB2 := Lib.hid (HB1.out.trans (hb2.mono HB1.out.size))
  have HR2 := Lib.hid (HR.out.below (B'' := w2.heap.size) hb2 (Nat.le_refl _) hb2.size)
  clear hb2 hv
  go_wp2_with fail
  refine (Format_any A w2.heap.size cap [rP] w2 (by simp [maxLen]) (Nat.le_refl _) HR2.out).mono ?_
  rintro e w3 ⟨rfl, hb3⟩
  rw [fmtP]
  have HB3 := Lib.hid (HB2.out.trans (hb3.mono HB2.out.size))
  clear hb3
  go_wp2_with fail
  refine (HN.out _).mono ?_
  rintro e w4 ⟨rfl, hw4⟩
  obtain rfl := hw4.symm
  go_wp2
  go_ret
  exact ⟨rfl, HB3.out⟩
end Go.Proofs.YtbjbolpmbdllnaaDoor
