/- The laws CatalogNames, CatalogValid, CatalogInserts, CatalogRemoves, CatalogUndoes, CatalogResolves: the walks. -/
import Derived.Test.YtfmbkkpdmpgmdaaDoorbAwake
import Derived.Test.YtfmbkkpdmpgmdaaDoorbrInsert
import Derived.Test.YtfmbkkpdmpgmdaaDoorbRemove
import Derived.Test.YtfmbkkpdmpgmdaaDoorbSame
import Derived.Test.YtfmbkkpdmpgmdaaDoorbResolve
namespace Go.Proofs.YtfmbkkpdmpgmdaaDoor
open Go.RowKit

set_option maxHeartbeats 1600000 in
theorem CNames_any (s : ByteArray) (w : World) : Calls Tryd.prog 3 #[.string s] w (Ret w (.bool true)) := by
  have H1 := Lib.hid (fun W => Reserved_any s W)
  have H2 := Lib.hid (fun W => rReserved_any s W)
  have H3 := Lib.hid (fun W => ValidName_any s W)
  have H4 := Lib.hid (fun W => rValidName_any s W)
  generalize rsv s.toList = b1 at *
  generalize nameB s.toList = b2 at *
  go_enter Tryd.func3, Tryd.ntmps3
  go_wp2_with fail
  refine (awake_any _).mono ?_
  rintro e w1 ⟨rfl, hb1⟩
  have HB := Lib.hid hb1
  clear hb1
  go_wp2_with fail
  refine (H1.out _).mono ?_
  rintro e w2 ⟨rfl, hw⟩
  obtain rfl := hw.symm
  go_wp2_with fail
  refine (H2.out _).mono ?_
  rintro e w2 ⟨rfl, hw⟩
  obtain rfl := hw.symm
  have e1 : (b1 == b1) = true := by simp
  go_wp2_with fail
  refine (H3.out _).mono ?_
  rintro e w2 ⟨rfl, hw⟩
  obtain rfl := hw.symm
  go_wp2_with fail
  refine (H4.out _).mono ?_
  rintro e w2 ⟨rfl, hw⟩
  obtain rfl := hw.symm
  have e2 : (b2 == b2) = true := by simp
  go_wp2
  go_ret
  exact ⟨by simp, HB.out⟩

theorem RetB.val {w w' : World} {P : Prop} {e : Ending} (h : RetB w P e w') : e = .returned (.bool (@decide P (Classical.propDecidable P))) ∧ Below w.heap.size w w' := by
  obtain ⟨r, rfl, h1, h2⟩ := h
  refine ⟨ret_bool ?_, h2⟩
  rw [Bool.eq_iff_iff, h1]
  simp

set_option maxHeartbeats 1600000 in
theorem CValid_any (A : Option Addr) (B cap : Nat) (l : Ct) (r : Rs) (w : World) (hm : l.length ≤ maxLen) (hB : B ≤ w.heap.size) (hr : RowsAt resE w (Lo B) A l) :
    Calls Tryd.prog 4 #[.slice A l.length cap, r.val] w (Ret w (.bool true)) := by
  have H1 : Hid (∀ W : World, Calls Tryd.prog 13 #[] W fun e w' => e = .returned (.bool true) ∧ Below W.heap.size W w') := Lib.hid (fun W => awake_any W)
  have H2 : Hid (∀ W : World, Calls Tryd.prog 18 #[r.val] W fun e w' => e = .returned (.bool (resB r)) ∧ Below W.heap.size W w') := Lib.hid (fun W => ValidRes_any r W)
  have H3 : Hid (∀ W : World, Calls Tryd.prog 19 #[r.val] W fun e w' => e = .returned (.bool (resB r)) ∧ Below W.heap.size W w') := Lib.hid (fun W => rValidRes_any r W)
  obtain ⟨b2, hb2⟩ : ∃ b, @decide (VCat l) (Classical.propDecidable (VCat l)) = b := ⟨_, rfl⟩
  have H4 : Hid (∀ W : World, Below w.heap.size w W → Calls Tryd.prog 20 #[.slice A l.length cap] W fun e w' => e = .returned (.bool b2) ∧ Below W.heap.size W w') :=
    Lib.hid (fun W h => (CatValid_any A B cap l W hm (Nat.le_trans hB h.size) (hr.below h hB (Nat.le_refl _))).mono fun e w' h => by rw [← hb2]; exact h.val)
  have H5 : Hid (∀ W : World, Below w.heap.size w W → Calls Tryd.prog 21 #[.slice A l.length cap] W fun e w' => e = .returned (.bool b2) ∧ Below W.heap.size W w') :=
    Lib.hid (fun W h => (rCatValid_any A B cap l W hm (Nat.le_trans hB h.size) (hr.below h hB (Nat.le_refl _))).mono fun e w' h => by rw [← hb2]; exact h.val)
  clear hb2 hr
  generalize resB r = b1 at *
  obtain ⟨nm, kd, u, h⟩ := r
  unfold Rs.val at H2 H3 ⊢
  have e1 : (b1 == b1) = true := by simp
  have e2 : (b2 == b2) = true := by simp
  have HE : Hid (∀ n : Ext (w.alloc (.cells #[.string nm, .int .i64 kd, .int .i64 u, .int .i64 h] 26)), Below w.heap.size w n.w) := Lib.hid fun n => ((Below.refl _ _).alloc (Nat.le_refl _) _).trans (n.below.mono (by simp))
  have g0 := Ext.new (w0 := w) #[.string nm, .int .i64 kd, .int .i64 u, .int .i64 h] 26 (j := 0) rfl
  have g1 := Ext.new (w0 := w) #[.string nm, .int .i64 kd, .int .i64 u, .int .i64 h] 26 (j := 1) rfl
  have g2 := Ext.new (w0 := w) #[.string nm, .int .i64 kd, .int .i64 u, .int .i64 h] 26 (j := 2) rfl
  have g3 := Ext.new (w0 := w) #[.string nm, .int .i64 kd, .int .i64 u, .int .i64 h] 26 (j := 3) rfl
  go_enter Tryd.func4, Tryd.ntmps4
  go_wp2_with fail
  refine wp_region_grow (by kernel_rfl) (by kernel_rfl) ?_; (repeat (go_big_quiet_step ((first | (go_at_call 13; with_reducible exact Ext.call _ (H1.out _)) | (go_at_call 18; with_reducible exact Ext.call _ (H2.out _)) | (go_at_call 19; with_reducible exact Ext.call _ (H3.out _)) | (go_at_call 20; with_reducible exact Ext.call _ (H4.out _ (HE.out _))) | (go_at_call 21; with_reducible exact Ext.call _ (H5.out _ (HE.out _))))))); refine wpQuiet_nil ?_; rintro w2 ⟨n2, rfl⟩; obtain ⟨w2, hb2⟩ := n2
  go_wp2
  go_ret
  exact ⟨rfl, ((Below.refl _ _).alloc (Nat.le_refl _) _).trans (hb2.mono (by simp))⟩

set_option maxHeartbeats 1600000 in
theorem CInserts_any (A : Option Addr) (B cap : Nat) (l : Ct) (r : Rs) (w : World) (hc : l.length ≤ cap) (hcm : cap ≤ maxLen) (hB : B ≤ w.heap.size) (hr : RowsAt resE w (Lo B) A l) :
    Calls Tryd.prog 5 #[.slice A l.length cap, r.val] w (Ret w (.bool true)) := by
  have HR := Lib.hid hr
  have H1 := Lib.hid (fun W (h : Below w.heap.size w W) => Insert_any A B cap l r W hc hcm (Nat.le_trans hB h.size) (hr.below h hB (Nat.le_refl _)))
  have H2 := Lib.hid (fun W (h : Below w.heap.size w W) => rInsert_any A B cap l r W hc hcm (Nat.le_trans hB h.size) (hr.below h hB (Nat.le_refl _)))
  have hlen : (insS l r).2.length ≤ 9 := by
    unfold insS
    split
    · rename_i hv
      have := hv.1
      split <;> (try split) <;> (try split) <;> (try split) <;> simp [insL_length] <;> omega
    · simp
  generalize insS l r = p at *
  obtain ⟨er, x⟩ := p
  simp only at hlen
  clear hr
  obtain ⟨nm, kd, u, h⟩ := r
  unfold Rs.val at H1 H2 ⊢
  go_enter Tryd.func5, Tryd.ntmps5
  go_wp2_with fail
  refine (H1.out _ ((Below.refl _ _).alloc (Nat.le_refl _) _)).mono ?_
  rintro e w1 ⟨v1, rfl, hown1, hb1⟩
  have hbox1 := (Blk.new w 26 #[.string nm, .int .i64 kd, .int .i64 u, .int .i64 h]).below hb1 (by simp)
  have z0 := hbox1.cellx 0 (v := .string nm) rfl
  have z1 := hbox1.cellx 1 (v := .int .i64 kd) rfl
  have z2 := hbox1.cellx 2 (v := .int .i64 u) rfl
  have z3 := hbox1.cellx 3 (v := .int .i64 h) rfl
  obtain ⟨A1, c1, rfl, hr1, _, _⟩ := hown1.form
  have HR1 := Lib.hid hr1
  have HB1 : Hid (Below w.heap.size w w1) := Lib.hid (((Below.refl _ _).alloc (Nat.le_refl _) _).trans (hb1.mono (by simp)))
  clear hr1 hb1 hown1 hbox1
  go_wp2_with fail
  refine (H2.out _ HB1.out).mono ?_
  rintro e w2 ⟨v2, rfl, hown2, hb2⟩
  obtain ⟨A2, c2, rfl, hr2, _, _⟩ := hown2.form
  have HR2 := Lib.hid hr2
  have HR1' := Lib.hid (HR1.out.below (B'' := w2.heap.size) hb2 (Nat.le_refl _) hb2.size)
  have HB2 := Lib.hid (HB1.out.trans (hb2.mono HB1.out.size))
  clear hr2 hb2 hown2 HR1
  go_wp2_with fail
  refine (awake_any _).mono ?_
  rintro e w3 ⟨rfl, hb3⟩
  have HR1'' := Lib.hid (HR1'.out.below (B'' := w3.heap.size) hb3 (Nat.le_refl _) hb3.size)
  have HR2'' := Lib.hid (HR2.out.below (B'' := w3.heap.size) hb3 (Nat.le_refl _) hb3.size)
  have HB3 := Lib.hid (HB2.out.trans (hb3.mono HB2.out.size))
  have ee : (er == er) = true := by simp
  clear hb3 HR1' HR2
  go_wp2_with fail
  refine (Same_any A1 A2 w3.heap.size w3.heap.size c1 c2 x x w3 (by unfold maxLen; omega) (by unfold maxLen; omega) (Nat.le_refl _) (Nat.le_refl _) HR1''.out HR2''.out).mono ?_
  rintro e w4 ⟨b, rfl, hb, hb4⟩
  obtain rfl : b = true := hb.2 rfl
  go_wp2
  go_ret
  exact ⟨rfl, HB3.out.trans (hb4.mono HB3.out.size)⟩
end Go.Proofs.YtfmbkkpdmpgmdaaDoor
