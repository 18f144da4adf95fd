/- Plain laws: the examples of the sanity check. -/
import Derived.Test.YtgdeekghngpcfaaPlainF
import Derived.Test.YtgdeekghngpcfaarKnots
namespace Go.Proofs.Ytgdeekghngpcfaa

def gA : Gr := [⟨1, [1]⟩, ⟨1, [0]⟩]
def gB : Gr := [⟨1, [1, 2]⟩, ⟨1, [0]⟩, ⟨0, []⟩]
theorem two_cases {x : Int} (h : InR 2 x) : x = 0 ∨ x = 1 := by have h1 := h.1; have h2 := h.2; omega
theorem three_cases {x : Int} (h : InR 3 x) : x = 0 ∨ x = 1 ∨ x = 2 := by have h1 := h.1; have h2 := h.2; omega

theorem fitsA : FitsG gA := by
  refine ⟨by decide, fun i hi => ?_⟩
  have hi2 : i < 2 := hi
  rcases (by omega : i = 0 ∨ i = 1) with rfl | rfl
  all_goals
    refine ⟨by simp [gA], by simp [gA], fun j hj => ?_⟩
    have hj2 : j < 1 := hj
    obtain rfl : j = 0 := by omega
    simp [gA]
theorem fitsB : FitsG gB := by
  refine ⟨by decide, fun i hi => ?_⟩
  have hi2 : i < 3 := hi
  rcases (by omega : i = 0 ∨ i = 1 ∨ i = 2) with rfl | rfl | rfl
  · refine ⟨by simp [gB], by simp [gB], fun j hj => ?_⟩
    have hj2 : j < 2 := hj
    rcases (by omega : j = 0 ∨ j = 1) with rfl | rfl <;> simp [gB]
  · refine ⟨by simp [gB], by simp [gB], fun j hj => ?_⟩
    have hj2 : j < 1 := hj
    obtain rfl : j = 0 := by omega
    simp [gB]
  · exact ⟨by simp [gB], by simp [gB], fun j hj => absurd hj (Nat.not_lt_zero j)⟩
theorem validA : ValidG gA := by
  refine ⟨by decide, fun i hi => ?_⟩
  have hi2 : i < 2 := hi
  rcases (by omega : i = 0 ∨ i = 1) with rfl | rfl
  all_goals
    refine ⟨by simp [gA], by simp [gA], by simp [gA], fun j hj _ => ?_⟩
    have hj2 : j < 1 := hj
    obtain rfl : j = 0 := by omega
    simp [gA]
theorem validB : ValidG gB := by
  refine ⟨by decide, fun i hi => ?_⟩
  have hi2 : i < 3 := hi
  rcases (by omega : i = 0 ∨ i = 1 ∨ i = 2) with rfl | rfl | rfl
  · refine ⟨by simp [gB], by simp [gB], by simp [gB], fun j hj _ => ?_⟩
    have hj2 : j < 2 := hj
    rcases (by omega : j = 0 ∨ j = 1) with rfl | rfl <;> simp [gB]
  · refine ⟨by simp [gB], by simp [gB], by simp [gB], fun j hj _ => ?_⟩
    have hj2 : j < 1 := hj
    obtain rfl : j = 0 := by omega
    simp [gB]
  · exact ⟨by simp [gB], by simp [gB], by simp [gB], fun j hj _ => absurd hj (Nat.not_lt_zero j)⟩

theorem all_set {n : Nat} {P : Int → Prop} (h : ∀ x, InR n x → P x) : IsSet n P (idxs (fun _ => true) n) := ⟨_, fun j hj => by simp [h j ⟨by omega, by omega⟩], rfl⟩
theorem none_set {n : Nat} {P : Int → Prop} (h : ∀ x, InR n x → ¬ P x) : IsSet n P (idxs (fun _ => false) n) := ⟨_, fun j hj => by simp [h j ⟨by omega, by omega⟩], rfl⟩

theorem stuckA {l : List Int} (h : StuckSpec gA l) : l = [0, 1] :=
  (h.1 validA).unique (all_set fun x _ => ⟨fun _ => true, rfl, fun y hy _ => by rcases two_cases hy with rfl | rfl <;> decide⟩)
theorem stuckB {l : List Int} (h : StuckSpec gB l) : l = [] := by
  refine (h.1 validB).unique (none_set fun x hx => ?_)
  rintro ⟨S, hS, hall⟩
  have h2 : S 2 = false := by
    cases h : S 2 with
    | false => rfl
    | true => have := hall 2 ⟨by decide, by decide⟩ h; exact absurd this (by simp [kOf, gB])
  have h0 : S 0 = false := by
    cases h : S 0 with
    | false => rfl
    | true => have := hall 0 ⟨by decide, by decide⟩ h; exact absurd this (by simp [kOf, gB, cntD, succs, List.countP_cons, h2]; omega)
  have h1 : S 1 = false := by
    cases h : S 1 with
    | false => rfl
    | true => have := hall 1 ⟨by decide, by decide⟩ h; exact absurd this (by simp [kOf, gB, cntD, succs, h0])
  rcases three_cases hx with rfl | rfl | rfl
  · rw [h0] at hS; cases hS
  · rw [h1] at hS; cases hS
  · rw [h2] at hS; cases hS

theorem reachA0 : ∀ x, InR 2 x → Reach1 (succs gA) 0 x := fun x hx => by
  have h01 : Reach1 (succs gA) 0 1 := .one (by decide)
  rcases two_cases hx with rfl | rfl
  · exact .more h01 (by decide)
  · exact h01
theorem reachA1 : ∀ x, InR 2 x → Reach1 (succs gA) 1 x := fun x hx => by
  have h10 : Reach1 (succs gA) 1 0 := .one (by decide)
  rcases two_cases hx with rfl | rfl
  · exact h10
  · exact .more h10 (by decide)
theorem reachB0 : ∀ x, InR 3 x → Reach1 (succs gB) 0 x := fun x hx => by
  have h01 : Reach1 (succs gB) 0 1 := .one (by decide)
  rcases three_cases hx with rfl | rfl | rfl
  · exact .more h01 (by decide)
  · exact h01
  · exact .one (by decide)
theorem reachB1 : ∀ x, InR 3 x → Reach1 (succs gB) 1 x := fun x hx => reach_of_cons (y := 0) (by decide) (reachB0 x hx)
theorem reachB2 : ∀ x, InR 3 x → ¬ Reach1 (succs gB) 2 x := fun x _ h => by
  have : ∀ y z, Reach1 (succs gB) y z → y = 2 → False := by
    intro y z h
    induction h with
    | one h => intro e; subst e; simp [succs, gB] at h
    | more _ _ ih => exact ih
  exact this 2 x h rfl

theorem reachB_spec {l : List Int} (h : ReachSpec gB 0 l) : l = [0, 1, 2] := (h.1 ⟨validB, by decide, by decide⟩).unique (all_set reachB0)
theorem cycleA {l : List Int} (h : CycleSpec gA 1 l) : l.length = 2 ∧ l[0]? = some 1 := by
  obtain ⟨m, hm, hc⟩ := h.1 ⟨validA, ⟨by decide, by decide⟩, reachA1 1 ⟨by decide, by decide⟩⟩
  have h2 : Pth (succs gA) 2 1 1 := .cons (y := 0) (by decide) (.cons (y := 1) (by decide) (.nil 1))
  have hle := hm.2.2 2 (by omega) h2
  have h1 : m ≠ 1 := by
    rintro rfl
    have := hm.2.1
    cases this with
    | cons h1 h2 => cases h2 with
      | nil => exact absurd h1 (by decide)
  have hpos := hm.1
  obtain rfl : m = 2 := by omega
  exact ⟨hc.1, hc.2.1 (by omega)⟩
theorem knotsA {ls : List (List Int)} (h : KnotsSpec gA ls) : ls = [[0, 1]] := by
  obtain ⟨R, hR, rfl⟩ := h.1 validA
  have r0 : R 0 = [0, 1] := (hR 0 (by decide)).unique (all_set reachA0)
  have r1 : R 1 = [0, 1] := (hR 1 (by decide)).unique (all_set reachA1)
  show kn R 2 = _
  rw [kn_succ, kn_succ]
  have k0 : knotB R 0 = true := by unfold knotB; rw [r0]; simp [r0, r1]
  have k1 : knotB R 1 = false := by unfold knotB; rw [r1]; simp
  rw [k0, k1, r0]
  rfl
theorem knotsB {ls : List (List Int)} (h : KnotsSpec gB ls) : ls = [] := by
  obtain ⟨R, hR, rfl⟩ := h.1 validB
  have r0 : R 0 = [0, 1, 2] := (hR 0 (by decide)).unique (all_set reachB0)
  have r1 : R 1 = [0, 1, 2] := (hR 1 (by decide)).unique (all_set reachB1)
  have r2 : R 2 = [] := (hR 2 (by decide)).unique (none_set reachB2)
  show kn R 3 = _
  rw [kn_succ, kn_succ, kn_succ]
  have k0 : knotB R 0 = false := by unfold knotB; rw [r0]; simp [r0, r1, r2]
  have k1 : knotB R 1 = false := by unfold knotB; rw [r1]; simp
  have k2 : knotB R 2 = false := by unfold knotB; rw [r2]; simp
  rw [k0, k1, k2]
  rfl
end Go.Proofs.Ytgdeekghngpcfaa
