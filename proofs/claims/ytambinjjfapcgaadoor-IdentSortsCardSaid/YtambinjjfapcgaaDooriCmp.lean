/- compare, CompareProc, CompareStamp, the program's and the document's. -/
import Derived.Test.YtambinjjfapcgaaDooriFun
import Derived.Handy
namespace Go.Proofs.YtambinjjfapcgaaDoor
open Go.RowKit

set_option maxRecDepth 100000 in
set_option maxHeartbeats 1600000 in
theorem compare_any (a b c x y z : Int) (w : World) : Calls Tryd.prog 23 #[.agg #[.int .i64 a, .int .i64 b, .int .i64 c], .agg #[.int .i64 x, .int .i64 y, .int .i64 z]] w (Ret w (.int .i64 (cmpP ⟨a, b, c⟩ ⟨x, y, z⟩))) := by
  have i0 : ∀ w : World, (Instr.index 42 (.agg #[.int .i64 a, .int .i64 b, .int .i64 c]) (.int .i64 0)).run Tryd.prog w = .ok (.int .i64 a) w := fun _ => by kernel_rfl
  have i1 : ∀ w : World, (Instr.index 42 (.agg #[.int .i64 a, .int .i64 b, .int .i64 c]) (.int .i64 1)).run Tryd.prog w = .ok (.int .i64 b) w := fun _ => by kernel_rfl
  have i2 : ∀ w : World, (Instr.index 42 (.agg #[.int .i64 a, .int .i64 b, .int .i64 c]) (.int .i64 2)).run Tryd.prog w = .ok (.int .i64 c) w := fun _ => by kernel_rfl
  obtain ⟨r, hr⟩ : ∃ r, cmpP ⟨a, b, c⟩ ⟨x, y, z⟩ = r := ⟨_, rfl⟩
  rw [hr]
  have HR := Lib.hid hr
  clear hr
  go_enter Tryd.func23, Tryd.ntmps23
  go_wp2
  go_rounds 4
  all_goals go_ret
  all_goals refine ⟨ret_int ?_, ((Below.refl _ _).alloc (Nat.le_refl _) _).alloc (by simp) _⟩
  all_goals rw [← HR.out]
  all_goals rcases cmpP_cases ⟨a, b, c⟩ ⟨x, y, z⟩ with ⟨h, e⟩ | ⟨h, e⟩ | ⟨h, e⟩ <;> rw [e] <;> first | rfl | (exfalso; unfold LtP at h; simp only at h; omega) | (exfalso; simp only [Pr.mk.injEq] at h; omega)
set_option maxRecDepth 100000 in
set_option maxHeartbeats 1600000 in
theorem CProc_any (p q : Pr) (w : World) : Calls Tryd.prog 13 #[p.val, q.val] w (Ret w (.int .i64 (cmpP p q))) := by
  obtain ⟨a, b, c⟩ := p
  obtain ⟨x, y, z⟩ := q
  have HC := Lib.hid (fun w => compare_any a b c x y z w)
  obtain ⟨r, hr⟩ : ∃ r, cmpP ⟨a, b, c⟩ ⟨x, y, z⟩ = r := ⟨_, rfl⟩
  rw [hr] at HC ⊢
  clear hr
  unfold Pr.val
  go_enter Tryd.func13, Tryd.ntmps13
  go_wp2_with fail
  refine (HC.out _).mono ?_
  rintro e w1 ⟨rfl, hb⟩
  have HB := Lib.hid (((Below.refl w.heap.size w).alloc (Nat.le_refl _) _).alloc (by simp) _ |>.trans (hb.mono (by simp; omega)))
  go_wp2
  go_ret
  exact ⟨rfl, HB.out⟩
theorem cmpT_eq (s t : St) : cmpT s t = cmpP ⟨s.time, s.site, 0⟩ ⟨t.time, t.site, 0⟩ := by
  have : ordI 0 0 = 0 := rfl
  unfold cmpT cmpP
  rw [this]
  dsimp only
  split
  · rfl
  · rcases ordI_cases s.site t.site with ⟨h, e⟩ | ⟨h, e⟩ | ⟨h, e⟩ <;> rw [e] <;> rfl
end Go.Proofs.YtambinjjfapcgaaDoor
