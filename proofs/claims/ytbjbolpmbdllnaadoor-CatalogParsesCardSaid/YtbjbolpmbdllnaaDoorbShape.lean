/- Shaped and ValidResource, the program's and the document's. -/
import Derived.Test.YtbjbolpmbdllnaaDoorbCat
namespace Go.Proofs.YtbjbolpmbdllnaaDoor
open Go.RowKit

/-- The call returns v and leaves alone what was there. -/
def Ret (w : World) (v : Value) (e : Ending) (w' : World) : Prop := e = .returned v ∧ Below w.heap.size w w'

set_option maxHeartbeats 400000 in
theorem rShaped_any (r : Rs) (w : World) : Calls Tryd.prog 31 #[r.val] w (Ret w (.bool (shapedB r))) := by
  obtain ⟨nm, k, u, h⟩ := r
  unfold Rs.val shapedB
  go_enter Tryd.func31, Tryd.ntmps31
  go_wp2
  all_goals go_ret
  all_goals refine ⟨ret_bool ?_, (Below.refl _ _).alloc (Nat.le_refl _) _⟩
  all_goals (first | rfl | (simp_all; done) | (simp_all; omega) | (rw [Bool.eq_iff_iff]; simp_all; done) | (rw [Bool.eq_iff_iff]; simp_all; omega))
set_option maxHeartbeats 400000 in
theorem Shaped_any (r : Rs) (w : World) : Calls Tryd.prog 35 #[r.val] w (Ret w (.bool (shapedB r))) := by
  obtain ⟨nm, k, u, h⟩ := r
  unfold Rs.val shapedB
  go_enter Tryd.func35, Tryd.ntmps35
  go_wp2
  all_goals go_ret
  all_goals refine ⟨ret_bool ?_, (Below.refl _ _).alloc (Nat.le_refl _) _⟩
  all_goals (first | rfl | (simp_all; done) | (simp_all; omega) | (rw [Bool.eq_iff_iff]; simp_all; done) | (rw [Bool.eq_iff_iff]; simp_all; omega))

set_option maxHeartbeats 400000 in
theorem ValidRes_any (r : Rs) (w : World) : Calls Tryd.prog 24 #[r.val] w (Ret w (.bool (resB r))) := by
  have HS := Lib.hid (fun w => Shaped_any r w)
  have HN := Lib.hid (fun w => ValidName_any r.name w)
  unfold resB Rs.key
  obtain ⟨b1, hb1⟩ : ∃ b, nameB r.name.toList = b := ⟨_, rfl⟩
  obtain ⟨b2, hb2⟩ : ∃ b, shapedB r = b := ⟨_, rfl⟩
  rw [hb1] at HN ⊢
  rw [hb2] at HS ⊢
  clear hb1 hb2
  obtain ⟨nm, k, u, h⟩ := r
  unfold Rs.val at HS ⊢
  go_enter Tryd.func24, Tryd.ntmps24
  go_wp2_with fail
  refine (HN.out _).mono ?_
  rintro e w' ⟨rfl, hw'⟩
  obtain rfl := hw'.symm
  cases b1 with
  | false =>
    go_wp2
    go_ret
    exact ⟨ret_bool (by simp), (Below.refl _ _).alloc (Nat.le_refl _) _⟩
  | true =>
    go_wp2_with fail
    refine (HS.out _).mono ?_
    rintro e w' ⟨rfl, hb⟩
    have hbb := ((Below.refl w.heap.size w).alloc (Nat.le_refl _) _).trans (hb.mono (by simp))
    obtain ⟨hc, hz⟩ : (∀ b o, b < w.heap.size + 1 → w'.cell? ⟨b, o, none⟩ = (w.alloc (.cells #[.string nm, .int .i64 k, .int .i64 u, .int .i64 h] 36)).cell? ⟨b, o, none⟩) ∧ w.heap.size + 1 ≤ w'.heap.size :=
      ⟨fun b o hlt => hb.cell (p := ⟨b, o, none⟩) (by simpa using hlt), by simpa using hb.size⟩
    clear hb
    go_wp2
    all_goals go_ret
    all_goals refine ⟨ret_bool ?_, hbb⟩
    all_goals (clear hbb hc hz HS HN)
    all_goals (first | rfl | (simp_all; done) | (simp_all; omega) | (rw [Bool.eq_iff_iff]; simp_all; done) | (rw [Bool.eq_iff_iff]; simp_all; omega))

set_option maxHeartbeats 800000 in
theorem rValidRes_any (r : Rs) (w : World) : Calls Tryd.prog 19 #[r.val] w (Ret w (.bool (resB r))) := by
  have HS := Lib.hid (fun w => rShaped_any r w)
  have HN := Lib.hid (fun w => rValidName_any r.name w)
  unfold resB Rs.key
  obtain ⟨b1, hb1⟩ : ∃ b, nameB r.name.toList = b := ⟨_, rfl⟩
  obtain ⟨b2, hb2⟩ : ∃ b, shapedB r = b := ⟨_, rfl⟩
  rw [hb1] at HN ⊢
  rw [hb2] at HS ⊢
  clear hb1 hb2
  obtain ⟨nm, k, u, h⟩ := r
  unfold Rs.val at HS ⊢
  go_enter Tryd.func19, Tryd.ntmps19
  go_wp2_with fail
  refine (HN.out _).mono ?_
  rintro e w' ⟨rfl, hw'⟩
  obtain rfl := hw'.symm
  cases b1 with
  | false =>
    go_wp2
    go_ret
    exact ⟨ret_bool (by simp), (Below.refl _ _).alloc (Nat.le_refl _) _⟩
  | true =>
    go_wp2_with fail
    refine (HS.out _).mono ?_
    rintro e w' ⟨rfl, hb⟩
    have hbb := ((Below.refl w.heap.size w).alloc (Nat.le_refl _) _).trans (hb.mono (by simp))
    obtain ⟨hc, hz⟩ : (∀ b o, b < w.heap.size + 1 → w'.cell? ⟨b, o, none⟩ = (w.alloc (.cells #[.string nm, .int .i64 k, .int .i64 u, .int .i64 h] 36)).cell? ⟨b, o, none⟩) ∧ w.heap.size + 1 ≤ w'.heap.size :=
      ⟨fun b o hlt => hb.cell (p := ⟨b, o, none⟩) (by simpa using hlt), by simpa using hb.size⟩
    clear hb
    go_wp2
    all_goals go_ret
    all_goals refine ⟨ret_bool ?_, hbb⟩
    all_goals (clear hbb hc hz HS HN)
    all_goals (first | rfl | (simp_all; done) | (simp_all; omega) | (rw [Bool.eq_iff_iff]; simp_all; done) | (rw [Bool.eq_iff_iff]; simp_all; omega))
end Go.Proofs.YtbjbolpmbdllnaaDoor
