/- The document's CompareProc, CompareStamp. -/
import Derived.Test.YtambinjjfapcgaaDooriFun
namespace Go.Proofs.YtambinjjfapcgaaDoor
open Go.RowKit

set_option maxRecDepth 100000 in
set_option maxHeartbeats 1600000 in
theorem rCProc_any (p q : Pr) (w : World) : Calls Tryd.prog 7 #[p.val, q.val] w (Ret w (.int .i64 (cmpP p q))) := by
  obtain ⟨a, b, c⟩ := p
  obtain ⟨x, y, z⟩ := q
  unfold Pr.val cmpP
  dsimp only
  obtain ⟨r1, h1⟩ : ∃ r, ordI a x = r := ⟨_, rfl⟩
  obtain ⟨r2, h2⟩ : ∃ r, ordI b y = r := ⟨_, rfl⟩
  obtain ⟨r3, h3⟩ : ∃ r, ordI c z = r := ⟨_, rfl⟩
  rw [h1, h2, h3]
  obtain ⟨r, hr⟩ : ∃ r, (if r1 ≠ 0 then r1 else if r2 ≠ 0 then r2 else r3) = r := ⟨_, rfl⟩
  rw [hr]
  have HR := Lib.hid hr
  have G1 : Hid (∀ W : World, Calls Tryd.prog 16 #[.int .i64 a, .int .i64 x] W (Same W (.int .i64 r1))) := Lib.hid (fun W => by have := Order_any a x W; rw [h1] at this; exact this)
  have G2 : Hid (∀ W : World, Calls Tryd.prog 16 #[.int .i64 b, .int .i64 y] W (Same W (.int .i64 r2))) := Lib.hid (fun W => by have := Order_any b y W; rw [h2] at this; exact this)
  have G3 : Hid (∀ W : World, Calls Tryd.prog 16 #[.int .i64 c, .int .i64 z] W (Same W (.int .i64 r3))) := Lib.hid (fun W => by have := Order_any c z W; rw [h3] at this; exact this)
  clear hr h1 h2 h3
  go_enter Tryd.func7, Tryd.ntmps7
  go_wp2_with fail
  refine (G1.out _).mono ?_
  rintro e w' ⟨rfl, rfl⟩
  go_wp2_with fail
  rotate_left
  refine (G2.out _).mono ?_
  rintro e w' ⟨rfl, rfl⟩
  go_wp2_with fail
  rotate_left
  refine (G3.out _).mono ?_
  rintro e w' ⟨rfl, rfl⟩
  go_wp2_with fail
  all_goals go_ret
  all_goals refine ⟨ret_int ?_, ((Below.refl _ _).alloc (Nat.le_refl _) _).alloc (by simp) _⟩
  all_goals rw [← HR.out]
  all_goals (clear HR G1 G2 G3; simp_all)
end Go.Proofs.YtambinjjfapcgaaDoor
