/- HasProc, the document's. -/
import Derived.Test.YtambinjjfapcgaaDooriEl
import Derived.Test.YtambinjjfapcgaaDooriEq
namespace Go.Proofs.YtambinjjfapcgaaDoor
open Go.RowKit

theorem mem_of_get {α : Type} {l : List α} {x : α} {k : Nat} (h : k < l.length) (e : l[k] = x) : x ∈ l := e ▸ List.getElem_mem h
theorem not_mem_of {α : Type} {l : List α} {x : α} (h : ∀ i (hi : i < l.length), l[i] ≠ x) : x ∉ l := fun hm => by
  obtain ⟨i, hi, e⟩ := List.getElem_of_mem hm
  exact h i hi e

set_option maxHeartbeats 1600000 in
set_option maxRecDepth 100000 in
theorem rHas_any (A : Option Addr) (B cap : Nat) (l : List Pr) (p : Pr) (w : World) (hm : l.length ≤ maxLen) (hB : B ≤ w.heap.size) (hr : RowsAt prE w (Lo B) A l) :
    Calls Tryd.prog 6 #[.slice A l.length cap, p.val] w (Ret w (.bool (decide (p ∈ l)))) := by
  unfold maxLen at hm
  have HR := Lib.hid hr
  obtain ⟨r, hres⟩ : ∃ r, decide (p ∈ l) = r := ⟨_, rfl⟩
  rw [hres]
  have HRES := Lib.hid hres
  clear hr hres
  obtain ⟨x, y, z⟩ := p
  unfold Pr.val
  go_enter Tryd.func6, Tryd.ntmps6
  go_wp2_with fail
  go_loopg [5] l.length (fun m v wq => ∃ k n : Nat, v = .int .i64 (k : Int) ∧ k ≤ l.length ∧ l.length ≤ k + m ∧ Hid (∀ i (h : i < l.length), i < k → l[i] ≠ ⟨x, y, z⟩) ∧ wq = (w.alloc (.cells #[.int .i64 x, .int .i64 y, .int .i64 z] 24)).drewN n)
  case atStart => exact ⟨0, 0, rfl, Nat.zero_le _, by omega, Lib.hid (fun _ _ h => absurd h (by omega)), rfl⟩
  case round =>
    obtain ⟨k, n, rfl, hk, hkm, hall, rfl⟩ := hrel
    by_cases hlt : k < l.length
    · obtain ⟨⟨a, b, c⟩, hx⟩ : ∃ x, l[k] = x := ⟨_, rfl⟩
      obtain ⟨g, off, rfl, hbl, hc0, hc1, hc2⟩ := pr_cells HR.out hlt hx
      have hbl2 : g < w.heap.size := Nat.lt_of_lt_of_le hbl hB
      have HX := Lib.hid hx
      have hlti : (k : Int) < (l.length : Int) := by omega
      obtain ⟨_, k2, k3⟩ := cmpPr a b c x y z
      obtain ⟨q, hq⟩ : ∃ q, decide ((⟨a, b, c⟩ : Pr) = ⟨x, y, z⟩) = q := ⟨_, rfl⟩
      rw [hq] at k2
      have HQ := Lib.hid hq
      clear hx hq
      cases q with
      | true =>
        have HR1 : Hid (r = true) := Lib.hid (by rw [← HRES.out]; exact decide_eq_true (mem_of_get hlt (HX.out.trans (of_decide_eq_true HQ.out))))
        go_wp2_with fail
        go_quiet (fail)
        go_wp2_with fail
        go_ret
        exact ⟨by rw [HR1.out]; rfl, below_drewN (below_drewN ((Below.refl _ _).alloc (Nat.le_refl _) _) _) _⟩
      | false =>
        go_wp2_with fail
        go_quiet (fail)
        go_wp2_with fail
        go_roundg (gk - 1)
        case measure => omega
        case rel => exact ⟨k + 1, _, by go_num, by omega, by omega, Lib.hid (fun i h1 h2 => by
          rcases Nat.lt_or_ge i k with h4 | h4
          · exact hall.out i h1 h4
          · obtain rfl : i = k := by omega
            rw [HX.out]
            exact of_decide_eq_false HQ.out), rfl⟩
    · have HR1 : Hid (r = false) := Lib.hid (by rw [← HRES.out]; exact decide_eq_false (not_mem_of fun i hi => hall.out i hi (by omega)))
      go_wp2
      go_ret
      exact ⟨by rw [HR1.out]; rfl, below_drewN ((Below.refl _ _).alloc (Nat.le_refl _) _) _⟩
end Go.Proofs.YtambinjjfapcgaaDoor
