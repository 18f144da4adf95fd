/- The laws CatalogRemoves, CatalogUndoes: the walks. -/
import Derived.Test.YtfmbkkpdmpgmdaaDoorbLaw1
import Derived.Test.YtfmbkkpdmpgmdaaDoorbPlainU
namespace Go.Proofs.YtfmbkkpdmpgmdaaDoor
open Go.RowKit

theorem sameB_self (a : Rs) : sameB a a = true := sameB_iff.2 rfl

set_option maxHeartbeats 3200000 in
theorem CRemoves_any (A : Option Addr) (B cap : Nat) (l : Ct) (n : ByteArray) (w : World) (hc : l.length ≤ cap) (hcm : cap ≤ maxLen) (hB : B ≤ w.heap.size) (hr : RowsAt resE w (Lo B) A l) :
    Calls Tryd.prog 8 #[.slice A l.length cap, .string n] w (Ret w (.bool true)) := by
  have hm : l.length ≤ maxLen := Nat.le_trans hc hcm
  have H1 := Lib.hid (fun W (h : Below w.heap.size w W) => Find_any A B cap l n W hm (Nat.le_trans hB h.size) (hr.below h hB (Nat.le_refl _)))
  have H2 := Lib.hid (fun W (h : Below w.heap.size w W) => rFind_any A B cap l n W hm (Nat.le_trans hB h.size) (hr.below h hB (Nat.le_refl _)))
  have H3 := Lib.hid (fun W (h : Below w.heap.size w W) => Remove_any A B cap l n W hc hcm (Nat.le_trans hB h.size) (hr.below h hB (Nat.le_refl _)))
  have H4 := Lib.hid (fun W (h : Below w.heap.size w W) => rRemove_any A B cap l n W hm (Nat.le_trans hB h.size) (hr.below h hB (Nat.le_refl _)))
  generalize remS l n = p at *
  obtain ⟨er, x⟩ := p
  unfold retFind at H1 H2
  obtain ⟨bf, hbf⟩ : ∃ b, (findR l n).isSome = b := ⟨_, rfl⟩
  obtain ⟨f, hf⟩ : ∃ f, (findR l n).getD Rs.zero = f := ⟨_, rfl⟩
  rw [hbf, hf] at H1 H2
  obtain ⟨_, heq, hgd⟩ := cmpRes f f
  rw [sameB_self] at heq
  obtain ⟨nm, kd, u, h⟩ := f
  unfold Rs.val at H1 H2 heq
  clear hbf hf hr hm hc hcm
  have ee : (er == er) = true := by simp
  have ebf : (bf == bf) = true := by simp
  go_enter Tryd.func8, Tryd.ntmps8
  go_wp2_with fail
  refine (H1.out _ (Below.refl _ _)).mono ?_
  rintro e w1 ⟨rfl, hb1⟩
  have HB1 := Lib.hid (hb1.alloc hb1.size (.cells #[.string nm, .int .i64 kd, .int .i64 u, .int .i64 h] 26))
  clear hb1
  go_wp2_with fail
  refine (H2.out _ HB1.out).mono ?_
  rintro e w2 ⟨rfl, hb2⟩
  have HX1 := Lib.hid ((Blk.new w1 26 #[.string nm, .int .i64 kd, .int .i64 u, .int .i64 h]).below hb2 (by simp))
  have HB2 := Lib.hid ((HB1.out.trans (hb2.mono HB1.out.size)).alloc (Nat.le_trans HB1.out.size hb2.size) (.cells #[.string nm, .int .i64 kd, .int .i64 u, .int .i64 h] 26))
  clear hb2
  go_wp2_with fail
  refine (H3.out _ HB2.out).mono ?_
  rintro e w3 ⟨v1, rfl, hown1, hb3⟩
  obtain ⟨A1, c1, rfl, hr1, hl1, hl1'⟩ := hown1.form
  have HX1' := Lib.hid ((HX1.out.alloc _).below hb3 (by have := HX1.out.lt; simp; omega))
  have HX2 := Lib.hid ((Blk.new w2 26 #[.string nm, .int .i64 kd, .int .i64 u, .int .i64 h]).below hb3 (by simp))
  have HR1 := Lib.hid hr1
  have HL := Lib.hid (Nat.le_trans hl1 hl1')
  have HB3 := Lib.hid (HB2.out.trans (hb3.mono HB2.out.size))
  clear hb3 hr1 hl1 hl1' hown1 HX1
  go_wp2_with fail
  refine (H4.out _ HB3.out).mono ?_
  rintro e w4 ⟨v2, rfl, hown2, hb4⟩
  obtain ⟨A2, c2, rfl, hr2, _, _⟩ := hown2.form
  have HR1' := Lib.hid (HR1.out.below (B'' := w4.heap.size) hb4 (Nat.le_refl _) hb4.size)
  have HR2 := Lib.hid hr2
  have HX1'' := Lib.hid (HX1'.out.below hb4 HX1'.out.lt)
  have HX2' := Lib.hid (HX2.out.below hb4 HX2.out.lt)
  have HB4 := Lib.hid (HB3.out.trans (hb4.mono HB3.out.size))
  clear hb4 hr2 hown2 HR1 HX1' HX2
  go_wp2_with fail
  refine (awake_any _).mono ?_
  rintro e w5 ⟨rfl, hb5⟩
  have HR1'' := Lib.hid (HR1'.out.below (B'' := w5.heap.size) hb5 (Nat.le_refl _) hb5.size)
  have HR2'' := Lib.hid (HR2.out.below (B'' := w5.heap.size) hb5 (Nat.le_refl _) hb5.size)
  have hz1 := HX1''.out.below hb5 HX1''.out.lt
  have hz2 := HX2'.out.below hb5 HX2'.out.lt
  have z0 := hz1.cellx 0 (v := .string nm) rfl
  have z1 := hz1.cellx 1 (v := .int .i64 kd) rfl
  have z2 := hz1.cellx 2 (v := .int .i64 u) rfl
  have z3 := hz1.cellx 3 (v := .int .i64 h) rfl
  have y0 := hz2.cellx 0 (v := .string nm) rfl
  have y1 := hz2.cellx 1 (v := .int .i64 kd) rfl
  have y2 := hz2.cellx 2 (v := .int .i64 u) rfl
  have y3 := hz2.cellx 3 (v := .int .i64 h) rfl
  have HB5 := Lib.hid (HB4.out.trans (hb5.mono HB4.out.size))
  clear hb5 hz1 hz2 HR1' HR2 HX1'' HX2'
  go_wp2_with fail
  refine (Same_any A1 A2 w5.heap.size w5.heap.size c1 c2 x x w5 HL.out HL.out (Nat.le_refl _) (Nat.le_refl _) HR1''.out HR2''.out).mono ?_
  rintro e w6 ⟨b, rfl, hb, hb6⟩
  obtain rfl : b = true := hb.2 rfl
  go_wp2
  go_ret
  exact ⟨rfl, HB5.out.trans (hb6.mono HB5.out.size)⟩

set_option maxHeartbeats 3200000 in
theorem CUndoes_any (A : Option Addr) (B cap : Nat) (l : Ct) (r : Rs) (w : World) (hc : l.length ≤ cap) (hcm : cap ≤ maxLen) (hB : B ≤ w.heap.size) (hr : RowsAt resE w (Lo B) A l) :
    Calls Tryd.prog 9 #[.slice A l.length cap, r.val] w (Ret w (.bool true)) := by
  have HR := Lib.hid hr
  have H1 := Lib.hid (fun W (h : Below w.heap.size w W) => Insert_any A B cap l r W hc hcm (Nat.le_trans hB h.size) (hr.below h hB (Nat.le_refl _)))
  obtain ⟨p, hp⟩ : ∃ p, insS l r = p := ⟨_, rfl⟩
  obtain ⟨er, x⟩ := p
  rw [hp] at H1
  have HP := Lib.hid hp
  have hlx : x.length ≤ 9 := by have := ins_len (l := l) (r := r); rw [hp] at this; exact this
  have hm : l.length ≤ maxLen := Nat.le_trans hc hcm
  have HM := Lib.hid hm
  obtain ⟨_, heq, hgd⟩ := cmpRes r r
  rw [sameB_self] at heq
  clear hp hr hm hc hcm
  obtain ⟨⟨nm, kd, u, h⟩, hrr⟩ : ∃ x, r = x := ⟨_, rfl⟩
  have HRR := Lib.hid hrr
  have hval : r.val = .agg #[.string nm, .int .i64 kd, .int .i64 u, .int .i64 h] := by rw [hrr]; rfl
  rw [hval] at H1 heq ⊢
  have hnm : Hid (r.name = nm) := Lib.hid (by rw [hrr])
  clear hrr hval
  go_enter Tryd.func9, Tryd.ntmps9
  go_wp2_with fail
  refine (H1.out _ ((Below.refl _ _).alloc (Nat.le_refl _) _)).mono ?_
  rintro e w1 ⟨v1, rfl, hown1, hb1⟩
  have hbox := (Blk.new w 26 #[.string nm, .int .i64 kd, .int .i64 u, .int .i64 h]).below hb1 (by simp)
  have HB1 : Hid (Below w.heap.size w w1) := Lib.hid (((Below.refl _ _).alloc (Nat.le_refl _) _).trans (hb1.mono (by simp)))
  obtain ⟨A1, c1, rfl, hr1, hl1, hl1'⟩ := hown1.form
  have HX := Lib.hid hbox
  have HR1 := Lib.hid hr1
  have HL1 := Lib.hid hl1
  have HL1' := Lib.hid hl1'
  clear hb1 hr1 hl1 hl1' hown1
  by_cases he : er = 0
  · have hen : (er != 0) = false := by simp [he]
    obtain ⟨hvl, hvx, hlen, hfind, hrem⟩ := ins_props (l := l) (x := x) (r := r) (by rw [HP.out, he])
    have HVX := Lib.hid hvx
    have HLEN := Lib.hid hlen
    have h8 := hvl.1
    rw [hnm.out] at hfind hrem
    have HFIND := Lib.hid hfind
    have HREM := Lib.hid hrem
    have hz0 := hbox.cellx 0 (v := .string nm) rfl
    clear hvl hvx hlen hfind hrem he hbox
    go_wp2_with fail
    refine (Remove_any A1 w1.heap.size c1 x nm w1 HL1.out HL1'.out (Nat.le_refl _) HR1.out).mono ?_
    rw [HREM.out]
    rintro e w2 ⟨v2, rfl, hown2, hb2⟩
    obtain ⟨A2, c2, rfl, hr2, _, _⟩ := hown2.form
    have HX2 := Lib.hid (HX.out.below hb2 HX.out.lt)
    have hx0 := HX2.out.cellx 0 (v := .string nm) rfl
    have HR12 := Lib.hid (HR1.out.below (B'' := w2.heap.size) hb2 (Nat.le_refl _) hb2.size)
    have HR2 := Lib.hid hr2
    have HB2 := Lib.hid (HB1.out.trans (hb2.mono HB1.out.size))
    clear hb2 hr2 hown2 hz0 HR1 HX
    go_wp2_with fail
    refine (Find_any A1 w2.heap.size c1 x nm w2 (Nat.le_trans HL1.out HL1'.out) (Nat.le_refl _) HR12.out).mono ?_
    unfold retFind
    rw [HFIND.out]
    simp only [Option.getD_some, Option.isSome_some]
    rw [show r.val = .agg #[.string nm, .int .i64 kd, .int .i64 u, .int .i64 h] by rw [HRR.out]; rfl]
    rintro e w3 ⟨rfl, hb3⟩
    have HX3 := Lib.hid ((HX2.out.below hb3 HX2.out.lt).alloc (.cells #[.string nm, .int .i64 kd, .int .i64 u, .int .i64 h] 26))
    have HY3 := Lib.hid (Blk.new w3 26 #[.string nm, .int .i64 kd, .int .i64 u, .int .i64 h])
    have HR13 := Lib.hid (HR12.out.below (B'' := w3.heap.size) hb3 (Nat.le_refl _) hb3.size)
    have HR23 := Lib.hid (HR2.out.below (B'' := w3.heap.size) hb3 (Nat.le_refl _) hb3.size)
    have HB3 := Lib.hid ((HB2.out.trans (hb3.mono HB2.out.size)).alloc (Nat.le_trans HB2.out.size hb3.size) (.cells #[.string nm, .int .i64 kd, .int .i64 u, .int .i64 h] 26))
    clear hb3 hx0 HR12 HR2 HX2
    go_wp2_with fail
    refine (awake_any _).mono ?_
    rintro e w4 ⟨rfl, hb4⟩
    have HX4 := Lib.hid (HX3.out.below hb4 HX3.out.lt)
    have HY4 := Lib.hid (HY3.out.below hb4 HY3.out.lt)
    have HR14 := Lib.hid (HR13.out.below (B'' := w4.heap.size) (((Below.refl w3.heap.size w3).alloc (Nat.le_refl _) _).trans (hb4.mono (by simp))) (Nat.le_refl _) (by have := hb4.size; simp at this; omega))
    have HR24 := Lib.hid (HR23.out.below (B'' := w4.heap.size) (((Below.refl w3.heap.size w3).alloc (Nat.le_refl _) _).trans (hb4.mono (by simp))) (Nat.le_refl _) (by have := hb4.size; simp at this; omega))
    have HB4 := Lib.hid (HB3.out.trans (hb4.mono HB3.out.size))
    clear hb4 HX3 HY3 HR13 HR23
    go_wp2_with fail
    refine (rCatValid_any A1 w4.heap.size c1 x w4 (by unfold maxLen; omega) (Nat.le_refl _) HR14.out).mono ?_
    rintro e w5 ⟨b, rfl, hb, hb5⟩
    obtain rfl : b = true := hb.2 HVX.out
    have hz := HX4.out.below hb5 HX4.out.lt
    have hy := HY4.out.below hb5 HY4.out.lt
    have z0 := hz.cellx 0 (v := .string nm) rfl
    have z1 := hz.cellx 1 (v := .int .i64 kd) rfl
    have z2 := hz.cellx 2 (v := .int .i64 u) rfl
    have z3 := hz.cellx 3 (v := .int .i64 h) rfl
    have y0 := hy.cellx 0 (v := .string nm) rfl
    have y1 := hy.cellx 1 (v := .int .i64 kd) rfl
    have y2 := hy.cellx 2 (v := .int .i64 u) rfl
    have y3 := hy.cellx 3 (v := .int .i64 h) rfl
    have HR25 := Lib.hid (HR24.out.below (B'' := w5.heap.size) hb5 (Nat.le_refl _) hb5.size)
    have HB5 := Lib.hid (HB4.out.trans (hb5.mono HB4.out.size))
    have hle : ((x.length : Int) == (l.length : Int) + 1) = true := by rw [beq_iff_eq, HLEN.out]; omega
    clear hb5 hz hy hb HX4 HY4 HR14 HR24
    go_wp2_with fail
    refine (Same_any A2 A w5.heap.size B c2 cap l l w5 HM.out HM.out (Nat.le_refl _) (Nat.le_trans hB HB5.out.size) HR25.out (HR.out.below HB5.out hB (Nat.le_refl _))).mono ?_
    rintro e w6 ⟨b, rfl, hb, hb6⟩
    obtain rfl : b = true := hb.2 rfl
    go_wp2
    go_ret
    exact ⟨rfl, HB5.out.trans (hb6.mono HB5.out.size)⟩
  · have hen : (er != 0) = true := by simp [he]
    obtain rfl : x = [] := ins_none HP.out he
    clear he
    go_wp2_with fail
    refine (awake_any _).mono ?_
    rintro e w4 ⟨rfl, hb4⟩
    go_wp2
    go_ret
    exact ⟨rfl, HB1.out.trans (hb4.mono HB1.out.size)⟩
end Go.Proofs.YtfmbkkpdmpgmdaaDoor
