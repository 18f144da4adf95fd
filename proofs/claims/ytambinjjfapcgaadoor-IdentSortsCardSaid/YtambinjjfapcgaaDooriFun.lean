/- between, compare, ValidProc, ValidStamp, CompareProc, CompareStamp, Next, the program's and the document's. -/
import Derived.Test.YtambinjjfapcgaaDoorChecked
import Derived.Test.YtambinjjfapcgaaDooriPlainO
import Derived.Test.YtambinjjfapcgaaDoorRet
namespace Go.Proofs.YtambinjjfapcgaaDoor
open Go.RowKit

def Pr.val (p : Pr) : Value := .agg #[.int .i64 p.site, .int .i64 p.inc, .int .i64 p.num]
def St.val (s : St) : Value := .agg #[.int .i64 s.time, .int .i64 s.site]

theorem between_any (n a b : Int) (w : World) : Calls Tryd.prog 30 #[.int .i64 n, .int .i64 a, .int .i64 b] w (Same w (.bool (decide (a ≤ n) && decide (n ≤ b)))) := by
  go_enter Tryd.func30, Tryd.ntmps30
  go_wp2
  all_goals go_ret
  all_goals refine ⟨ret_bool ?_, rfl⟩
  all_goals (first | rfl | (simp_all; done) | (simp_all; omega) | (rw [Bool.eq_iff_iff]; simp_all; done) | (rw [Bool.eq_iff_iff]; simp_all; omega))
theorem Order_any (a b : Int) (w : World) : Calls Tryd.prog 16 #[.int .i64 a, .int .i64 b] w (Same w (.int .i64 (ordI a b))) := by
  unfold ordI
  go_enter Tryd.func16, Tryd.ntmps16
  go_wp2
  all_goals go_ret
  all_goals refine ⟨ret_int ?_, rfl⟩
  all_goals first | (simp_all; done) | (repeat (first | rw [if_pos (by omega)] | rw [if_neg (by omega)]))
theorem Next_any (n : Int) (w : World) : Calls Tryd.prog 12 #[.int .i64 n] w (Same w (.int .i64 (nextS n))) := by
  unfold nextS
  go_enter Tryd.func12, Tryd.ntmps12
  go_wp2
  all_goals go_ret
  all_goals refine ⟨ret_int ?_, rfl⟩
  all_goals first | rfl | omega | (rw [if_pos (by omega)]; done) | (rw [if_neg (by omega)]; done)
set_option maxHeartbeats 400000 in
theorem VStamp_any (p : St) (w : World) : Calls Tryd.prog 21 #[p.val] w (Ret w (.bool (vsB p))) := by
  have H1 := Lib.hid (fun n a b w => between_any n a b w)
  obtain ⟨a, b⟩ := p
  unfold vsB St.val
  go_enter Tryd.func21, Tryd.ntmps21
  go_wp2_with (first | (refine (H1.out _ _ _ _).mono ?_; rintro e w' ⟨rfl, rfl⟩) | fail)
  all_goals go_ret
  all_goals refine ⟨ret_bool ?_, (Below.refl _ _).alloc (Nat.le_refl _) _⟩
  all_goals (first | rfl | (simp_all; done) | (simp_all; omega) | (rw [Bool.eq_iff_iff]; simp_all; done) | (rw [Bool.eq_iff_iff]; simp_all; omega))
set_option maxHeartbeats 400000 in
theorem VProc_any (p : Pr) (w : World) : Calls Tryd.prog 20 #[p.val] w (Ret w (.bool (vpB p))) := by
  have H1 := Lib.hid (fun n a b w => between_any n a b w)
  obtain ⟨a, b, c⟩ := p
  unfold vpB Pr.val
  go_enter Tryd.func20, Tryd.ntmps20
  go_wp2_with (first | (refine (H1.out _ _ _ _).mono ?_; rintro e w' ⟨rfl, rfl⟩) | fail)
  all_goals go_ret
  all_goals refine ⟨ret_bool ?_, (Below.refl _ _).alloc (Nat.le_refl _) _⟩
  all_goals (first | rfl | (simp_all; done) | (simp_all; omega) | (rw [Bool.eq_iff_iff]; simp_all; done) | (rw [Bool.eq_iff_iff]; simp_all; omega))
end Go.Proofs.YtambinjjfapcgaaDoor
