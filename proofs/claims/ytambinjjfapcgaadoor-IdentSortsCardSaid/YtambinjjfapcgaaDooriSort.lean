/- slices.SortFunc at processes, with CompareProc. -/
import Derived.Test.YtambinjjfapcgaaDooriCmp
import Derived.Test.YtambinjjfapcgaaDooriSortP
import Derived.Test.YtambinjjfapcgaaDooriEl
import Derived.Test.YtambinjjfapcgaaDoorSortRow
import Derived.Test.YtambinjjfapcgaaDoorShelfC
import Derived.Ground.SlsfProg
namespace Go.Proofs.YtambinjjfapcgaaDoor
open Go.RowKit Go.Shelf

set_option maxRecDepth 100000 in
set_option maxHeartbeats 1600000 in
theorem compare_gr (a b c x y z : Int) (w : World) : Calls Tryd.prog 23 #[.agg #[.int .i64 a, .int .i64 b, .int .i64 c], .agg #[.int .i64 x, .int .i64 y, .int .i64 z]] w fun e w' => e = .returned (.int .i64 (cmpP ⟨a, b, c⟩ ⟨x, y, z⟩)) ∧ ∃ os, w' = Go.Sort.grow w os := by
  have i0 : ∀ w : World, (Instr.index 42 (.agg #[.int .i64 a, .int .i64 b, .int .i64 c]) (.int .i64 0)).run Tryd.prog w = .ok (.int .i64 a) w := fun _ => by kernel_rfl
  have i1 : ∀ w : World, (Instr.index 42 (.agg #[.int .i64 a, .int .i64 b, .int .i64 c]) (.int .i64 1)).run Tryd.prog w = .ok (.int .i64 b) w := fun _ => by kernel_rfl
  have i2 : ∀ w : World, (Instr.index 42 (.agg #[.int .i64 a, .int .i64 b, .int .i64 c]) (.int .i64 2)).run Tryd.prog w = .ok (.int .i64 c) w := fun _ => by kernel_rfl
  obtain ⟨r, hr⟩ : ∃ r, cmpP ⟨a, b, c⟩ ⟨x, y, z⟩ = r := ⟨_, rfl⟩
  rw [hr]
  have HR := Lib.hid hr
  clear hr
  go_enter Tryd.func23, Tryd.ntmps23
  go_wp2
  go_rounds 4
  all_goals go_ret
  all_goals refine ⟨ret_int ?_, _, by rw [Go.Sort.alloc_eq_grow, Go.Sort.alloc_eq_grow, Go.Sort.grow_grow]⟩
  all_goals rw [← HR.out]
  all_goals rcases cmpP_cases ⟨a, b, c⟩ ⟨x, y, z⟩ with ⟨h, e⟩ | ⟨h, e⟩ | ⟨h, e⟩ <;> rw [e] <;> first | rfl | (exfalso; unfold LtP at h; simp only at h; omega) | (exfalso; simp only [Pr.mk.injEq] at h; omega)
set_option maxRecDepth 100000 in
set_option maxHeartbeats 1600000 in
theorem CProc_gr (p q : Pr) (w : World) : Calls Tryd.prog 13 #[p.val, q.val] w fun e w' => e = .returned (.int .i64 (cmpP p q)) ∧ ∃ os, w' = Go.Sort.grow w os := by
  obtain ⟨a, b, c⟩ := p
  obtain ⟨x, y, z⟩ := q
  have HC := Lib.hid (fun w => compare_gr a b c x y z w)
  obtain ⟨r, hr⟩ : ∃ r, cmpP ⟨a, b, c⟩ ⟨x, y, z⟩ = r := ⟨_, rfl⟩
  rw [hr] at HC ⊢
  clear hr
  unfold Pr.val
  go_enter Tryd.func13, Tryd.ntmps13
  go_wp2_with fail
  refine (HC.out _).mono ?_
  rintro e w1 ⟨rfl, os, rfl⟩
  go_wp2
  go_ret
  exact ⟨rfl, _, by rw [Go.Sort.alloc_eq_grow, Go.Sort.alloc_eq_grow, Go.Sort.grow_grow, Go.Sort.grow_grow]⟩

theorem ltP_true {x y : Pr} : ltOf cmpP x y = true ↔ LtP x y := by
  unfold ltOf
  rw [decide_eq_true_iff, cmpP_lt]
theorem ltP_false {x y : Pr} : ltOf cmpP x y = false ↔ ¬ LtP x y := by
  unfold ltOf
  rw [decide_eq_false_iff_not, cmpP_lt]
theorem cmpP_swo : Go.Sort.SWO (ltOf cmpP) where
  irrefl x := ltP_false.2 (LtP_irrefl x)
  trans x y z h1 h2 := ltP_true.2 (LtP_trans (ltP_true.1 h1) (ltP_true.1 h2))
  ntrans x y z h1 h2 := by
    rw [ltP_false] at *
    intro h3
    rcases LtP_tri x y with h | h | h
    · exact h1 h
    · subst h; exact h2 h3
    · exact h2 (LtP_trans h h3)
theorem cmpP_total (x y : Pr) (h1 : ltOf cmpP x y = false) (h2 : ltOf cmpP y x = false) : x = y := by
  unfold ltOf at h1 h2
  rw [decide_eq_false_iff_not, cmpP_lt] at h1 h2
  rcases LtP_tri x y with h | h | h
  · exact absurd h h1
  · exact h
  · exact absurd h h2
theorem SortFunc_own {w0 : World} {base : Nat} {v : Value} {l : List Pr} (w : World) (hown : OwnRows prE 24 w base v l) (hb : Below base w0 w) (hsz : l.length < 4611686018427387904) :
    Calls Tryd.prog 14 #[v, .func (.func 13) #[] #[]] w fun e w' => e = .returned (.tuple #[]) ∧ OwnRows prE 24 w' base v (l.mergeSort fun x y => !decide (cmpP y x < 0)) ∧ Below base w0 w' := by
  rcases Nat.eq_zero_or_pos l.length with h0 | h0
  · obtain ⟨A, cap, rfl, _, _, _, _⟩ := hown.form2
    obtain rfl := List.eq_nil_of_length_eq_zero h0
    refine (AnyF.slices_SortFunc_none { Tryd.sortProcs with } A cap _ w).mono ?_
    rintro e w' ⟨rfl, rfl⟩
    exact ⟨rfl, by simpa using hown, hb⟩
  · obtain ⟨g, cap, rfl, hg, hg2, _, _, _, _⟩ := hown.addr h0
    have eg : ∀ args w, (callFunc 13 args).run Tryd.prog w = .ok (.enter 13 args) w := enters_of Tryd.func13 (by kernel_rfl) rfl
    have hcmp : CmpLays Tryd.prog 13 #[] Pr.cells 3 cmpP g 0 l.toArray.size w := fun _ _ _ _ x y => (CProc_gr x y _).mono fun e w' ⟨he, os, hw⟩ => ⟨he, 0, os, hw⟩
    have := AnyQ.slices_SortFunc_total Tryd.sortProcs 3 Tryd.isAgg24 Tryd.sizeOf24 Pr.cells (fun _ => rfl) (by intro x u hu; simp [Pr.cells] at hu; rcases hu with rfl | rfl | rfl <;> rfl) cmpP cmpP_swo 13 #[] g 0 cap l.toArray w eg hcmp hown.holdsK hg2 hsz cmpP_total
    refine Calls.mono this ?_
    rintro e w' ⟨rfl, n, os, rfl⟩
    exact ⟨rfl, hown.sorted hg2 (by simp) n os, below_sorted hb hg hg2 n _ os⟩
end Go.Proofs.YtambinjjfapcgaaDoor
