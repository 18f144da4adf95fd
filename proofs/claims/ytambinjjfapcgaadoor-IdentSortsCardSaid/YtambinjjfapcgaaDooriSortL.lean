/- SortProcs. -/
import Derived.Test.YtambinjjfapcgaaDooriCompact
import Derived.Test.YtambinjjfapcgaaDooriPut
namespace Go.Proofs.YtambinjjfapcgaaDoor
open Go.RowKit

set_option maxHeartbeats 1600000 in
set_option maxRecDepth 100000 in
theorem SortProcs_any (A : Option Addr) (cap : Nat) (l : List Pr) (w : World) (hm : l.length ≤ 68719476736) (hr : RowsAt prE w (Lo w.heap.size) A l) :
    Calls Tryd.prog 5 #[.slice A l.length cap] w (RetRow prE 24 w (sortS l)) := by
  have HR : Hid (RowsAt prE w (Oth w (.slice none 0 0)) A l) := Lib.hid (hr.same (fun b hb => rfl) fun b hb => ⟨hb, fun e => by cases e⟩)
  have HN : Hid (OwnRows prE 24 w w.heap.size (.slice none 0 0) []) := Lib.hid (OwnRows.nil _ _ _ _ (Nat.le_refl _))
  have HL : Hid (sortS l = Lib.compact (l.mergeSort fun x y => !decide (cmpP y x < 0))) := Lib.hid rfl
  rw [HL.out]
  have HM := Lib.hid hm
  clear hr hm HL
  go_enter Tryd.func5, Tryd.ntmps5
  go_wp2_with (at_builtin; refine pushRB prTB rfl (.const (.slice none 0 0)) (.tmp 4) rfl _ w.heap.size _ [] l l.length rfl A cap rfl HN.out rfl HR.out (by have := HM.out; simp [maxLen]; omega) (by have := HM.out; simp; omega) ?_; intro v1 w1 hown1 hb1 _; rw [List.nil_append] at hown1; have HOWN1 := Lib.hid hown1; have HB1 := Lib.hid hb1; clear hown1 hb1)
  refine (SortFunc_own _ HOWN1.out HB1.out (by have := HM.out; omega)).mono ?_
  rintro e w2 ⟨rfl, hown2, hb2⟩
  have HOWN2 := Lib.hid hown2
  have HB2 := Lib.hid hb2
  clear hown2 hb2
  go_wp2_with fail
  refine (Compact_own _ HOWN2.out HB2.out (by rw [List.length_mergeSort]; have := HM.out; omega)).mono ?_
  rintro e w3 ⟨v3, rfl, hown3, hb3⟩
  have HOWN3 := Lib.hid hown3
  have HB3 := Lib.hid hb3
  clear hown3 hb3
  go_wp2_with fail
  go_ret
  exact ⟨_, rfl, HOWN3.out, HB3.out⟩
end Go.Proofs.YtambinjjfapcgaaDoor
