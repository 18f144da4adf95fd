/- FormatProc, the program's. -/
import Derived.Test.YtambinjjfapcgaaDooriLay
namespace Go.Proofs.YtambinjjfapcgaaDoor
open Go.RowKit

/-- The call returns the string and leaves alone what was there. -/
def RetS (w : World) (l : List UInt8) (e : Ending) (w' : World) : Prop := e = .returned (.string ⟨l.toArray⟩) ∧ Below w.heap.size w w'
theorem str_data {s : ByteArray} {l : List UInt8} (h : s.data.toList = l) : Value.string s = .string ⟨l.toArray⟩ := by
  obtain ⟨⟨d⟩⟩ := s
  rw [← h]
/-- A sum of strings, for the walk. -/
theorem add_exD (a b : ByteArray) (h : a.size + b.size ≤ 1099511627776) : ∃ s : ByteArray, (∀ W, (Op.stringOp .add a b).run Tryd.prog W = .ok (.string s) W) ∧ s.data.toList = a.data.toList ++ b.data.toList ∧ s.size = a.size + b.size :=
  ⟨a ++ b, fun W => run_string_add_sum W a b (by omega), by simp [ByteArray.data_append], ByteArray.size_append⟩

set_option maxHeartbeats 2000000 in
set_option maxRecDepth 100000 in
theorem FProc_any (p : Pr) (w : World) (hL : Lay w) : Calls Tryd.prog 11 #[p.val] w (RetS w (fmtP p)) := by
  have HV := Lib.hid (fun W => VProc_any p W)
  by_cases hv : vpB p = true
  · rw [hv] at HV
    obtain ⟨a0, a1, b0, b1, c0, c1⟩ := vpB_iff.1 hv
    have HA := Lib.hid (fun W hL => Itoa_any p.site a0 (by omega) W hL)
    have HB := Lib.hid (fun W hL => Itoa_any p.inc (by omega) (by omega) W hL)
    have HC := Lib.hid (fun W hL => Itoa_any p.num (by omega) c1 W hL)
    have hlit : ∀ l : List UInt8, (⟨l.toArray⟩ : ByteArray).size = l.length := fun l => by simp [ByteArray.size]
    have l1 := dgI_length (n := p.site) (by omega)
    have l2 := dgI_length (n := p.inc) (by omega)
    have l3 := dgI_length (n := p.num) c1
    have e1 := hlit (dgI p.site)
    have e2 := hlit (dgI p.inc)
    have e3 := hlit (dgI p.num)
    have e4 := hlit [46]
    simp only [List.length_cons, List.length_nil] at e4
    obtain ⟨s1, i1, j1, k1⟩ := add_exD ⟨(dgI p.site).toArray⟩ ⟨#[46]⟩ (by omega)
    obtain ⟨s2, i2, j2, k2⟩ := add_exD s1 ⟨(dgI p.inc).toArray⟩ (by omega)
    obtain ⟨s3, i3, j3, k3⟩ := add_exD s2 ⟨#[46]⟩ (by omega)
    obtain ⟨s4, i4, j4, k4⟩ := add_exD s3 ⟨(dgI p.num).toArray⟩ (by omega)
    have HS : Hid (s4.data.toList = fmtP p) := Lib.hid (by
      unfold fmtP ptext
      rw [if_pos hv, j4, j3, j2, j1]
      simp)
    obtain ⟨a, b, c⟩ := p
    dsimp only at *
    unfold Pr.val at *
    clear hv a0 a1 b0 b1 c0 c1 hlit l1 l2 l3 e1 e2 e3 e4 j1 j2 j3 j4 k1 k2 k3 k4
    generalize dgI a = da at *
    generalize dgI b = db at *
    generalize dgI c = dc at *
    have LH := Lib.hid hL
    clear hL
    go_enter Tryd.func11, Tryd.ntmps11
    go_wp2_with fail
    refine (HV.out _).mono ?_
    rintro e w1 ⟨rfl, hb⟩
    have LY := Lib.hid ((LH.out.below ((Below.refl w.heap.size w).alloc (Nat.le_refl _) (.cells #[.int .i64 a, .int .i64 b, .int .i64 c] 24))).below hb)
    have g0 := Ext.cell (cell_below hb (cellNewA w #[.int .i64 a, .int .i64 b, .int .i64 c] 24 0))
    have g1 := Ext.cell (cell_below hb (cellNewA w #[.int .i64 a, .int .i64 b, .int .i64 c] 24 1))
    have g2 := Ext.cell (cell_below hb (cellNewA w #[.int .i64 a, .int .i64 b, .int .i64 c] 24 2))
    have HBB := Lib.hid (((Below.refl w.heap.size w).alloc (Nat.le_refl _) _).trans (hb.mono (by simp)))
    clear hb
    go_wp2_with fail
    refine wp_region_grow (by kernel_rfl) (by kernel_rfl) ?_; (repeat (go_big_quiet_step ((go_at_call 22; first | (with_reducible exact Ext.call _ (HA.out _ (LY.out.below (Ext.below _)))) | (with_reducible exact Ext.call _ (HB.out _ (LY.out.below (Ext.below _)))) | (with_reducible exact Ext.call _ (HC.out _ (LY.out.below (Ext.below _)))))))); refine wpQuiet_nil ?_; rintro w2 ⟨n2, rfl⟩; obtain ⟨w2, hb2⟩ := n2
    go_wp2
    go_ret
    exact ⟨congrArg Ending.returned (str_data HS.out), HBB.out.trans (hb2.mono HBB.out.size)⟩
  · have hvf : vpB p = false := by simpa using hv
    rw [hvf] at HV
    have HS : Hid (fmtP p = []) := Lib.hid (by unfold fmtP; rw [if_neg hv])
    obtain ⟨a, b, c⟩ := p
    unfold Pr.val at *
    clear hv hvf hL
    go_enter Tryd.func11, Tryd.ntmps11
    go_wp2_with fail
    refine (HV.out _).mono ?_
    rintro e w1 ⟨rfl, hb⟩
    have HBB := Lib.hid (((Below.refl w.heap.size w).alloc (Nat.le_refl _) _).trans (hb.mono (by simp)))
    clear hb
    go_wp2
    go_ret
    exact ⟨by rw [HS.out]; rfl, HBB.out⟩
end Go.Proofs.YtambinjjfapcgaaDoor
