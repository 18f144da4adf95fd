/- HasProc, the program's: slices.Contains, slices.Index. -/
import Derived.Test.YtambinjjfapcgaaDooriHas
namespace Go.Proofs.YtambinjjfapcgaaDoor
open Go.RowKit

set_option maxHeartbeats 1600000 in
set_option maxRecDepth 100000 in
theorem Index_any (A : Option Addr) (B cap : Nat) (l : List Pr) (p : Pr) (w : World) (hm : l.length ≤ maxLen) (hB : B ≤ w.heap.size) (hr : RowsAt prE w (Lo B) A l) :
    Calls Tryd.prog 26 #[.slice A l.length cap, p.val] w fun e w' => ∃ r : Int, e = .returned (.int .i64 r) ∧ decide (0 ≤ r) = decide (p ∈ l) ∧ Below w.heap.size w w' := by
  unfold maxLen at hm
  have HR := Lib.hid hr
  obtain ⟨r, hres⟩ : ∃ r, decide (p ∈ l) = r := ⟨_, rfl⟩
  rw [hres]
  have HRES := Lib.hid hres
  clear hr hres
  obtain ⟨x, y, z⟩ := p
  unfold Pr.val
  go_enter Tryd.func26, Tryd.ntmps26
  go_wp2_with fail
  go_loopg [8] l.length (fun m v wq => ∃ k n : Nat, v = .int .i64 (k : Int) ∧ k ≤ l.length ∧ l.length ≤ k + m ∧ Hid (∀ i (h : i < l.length), i < k → l[i] ≠ ⟨x, y, z⟩) ∧ wq = (w.alloc (.cells #[.int .i64 x, .int .i64 y, .int .i64 z] 24)).drewN n)
  case atStart => exact ⟨0, 0, rfl, Nat.zero_le _, by omega, Lib.hid (fun _ _ h => absurd h (by omega)), rfl⟩
  case round =>
    obtain ⟨k, n, rfl, hk, hkm, hall, rfl⟩ := hrel
    by_cases hlt : k < l.length
    · obtain ⟨⟨a, b, c⟩, hx⟩ : ∃ x, l[k] = x := ⟨_, rfl⟩
      obtain ⟨g, off, rfl, hbl, hc0, hc1, hc2⟩ := pr_cells HR.out hlt hx
      have hbl2 : g < w.heap.size := Nat.lt_of_lt_of_le hbl hB
      have HX := Lib.hid hx
      have hlti : (k : Int) < (l.length : Int) := by omega
      obtain ⟨_, k2, k3⟩ := cmpPr x y z a b c
      obtain ⟨q, hq⟩ : ∃ q, decide ((⟨x, y, z⟩ : Pr) = ⟨a, b, c⟩) = q := ⟨_, rfl⟩
      rw [hq] at k2
      have HQ := Lib.hid hq
      clear hx hq
      cases q with
      | true =>
        have HR1 : Hid (r = true) := Lib.hid (by rw [← HRES.out]; exact decide_eq_true (mem_of_get hlt (HX.out.trans (of_decide_eq_true HQ.out).symm)))
        go_wp2_with fail
        go_quiet (fail)
        go_wp2_with fail
        go_ret
        exact ⟨_, rfl, by rw [HR1.out]; simp, below_drewN (below_drewN ((Below.refl _ _).alloc (Nat.le_refl _) _) _) _⟩
      | false =>
        go_wp2_with fail
        go_quiet (fail)
        go_wp2_with fail
        go_roundg (gk - 1)
        case measure => omega
        case rel => exact ⟨k + 1, _, by go_num, by omega, by omega, Lib.hid (fun i h1 h2 => by
          rcases Nat.lt_or_ge i k with h4 | h4
          · exact hall.out i h1 h4
          · obtain rfl : i = k := by omega
            rw [HX.out]
            exact fun e => of_decide_eq_false HQ.out e.symm), rfl⟩
    · have HR1 : Hid (r = false) := Lib.hid (by rw [← HRES.out]; exact decide_eq_false (not_mem_of fun i hi => hall.out i hi (by omega)))
      go_wp2
      go_ret
      exact ⟨_, rfl, by rw [HR1.out]; rfl, below_drewN ((Below.refl _ _).alloc (Nat.le_refl _) _) _⟩
theorem Contains_any (A : Option Addr) (cap : Nat) (l : List Pr) (p : Pr) (w : World) (hm : l.length ≤ maxLen) (hr : RowsAt prE w (Lo w.heap.size) A l) :
    Calls Tryd.prog 17 #[.slice A l.length cap, p.val] w (Ret w (.bool (decide (p ∈ l)))) := by
  have H := Lib.hid (fun W (hb : Below w.heap.size w W) => Index_any A w.heap.size cap l p W hm hb.size (hr.below hb (Nat.le_refl _) (Nat.le_refl _)))
  obtain ⟨r, hres⟩ : ∃ r, decide (p ∈ l) = r := ⟨_, rfl⟩
  rw [hres] at H ⊢
  clear hr hm hres
  obtain ⟨x, y, z⟩ := p
  unfold Pr.val at *
  go_enter Tryd.func17, Tryd.ntmps17
  go_wp2_with fail
  refine (H.out _ (Below.al (Below.refl _ _) _)).mono ?_
  rintro e w1 ⟨q, rfl, hq, hb1⟩
  have HB1 : Hid (Below w.heap.size w w1) := Lib.hid (Below.tr (Below.al (Below.refl _ _) _) hb1)
  subst hq
  clear hb1
  go_wp2_with fail
  go_ret
  exact ⟨rfl, HB1.out⟩
theorem Has_any (A : Option Addr) (cap : Nat) (l : List Pr) (p : Pr) (w : World) (hm : l.length ≤ maxLen) (hr : RowsAt prE w (Lo w.heap.size) A l) :
    Calls Tryd.prog 8 #[.slice A l.length cap, p.val] w (Ret w (.bool (decide (p ∈ l)))) := by
  have H := Lib.hid (fun W (hb : Below w.heap.size w W) => Contains_any A cap l p W hm (hr.below hb (Nat.le_refl _) hb.size))
  obtain ⟨r, hres⟩ : ∃ r, decide (p ∈ l) = r := ⟨_, rfl⟩
  rw [hres] at H ⊢
  clear hr hm hres
  obtain ⟨x, y, z⟩ := p
  unfold Pr.val at *
  go_enter Tryd.func8, Tryd.ntmps8
  go_wp2_with fail
  refine (H.out _ (Below.al (Below.refl _ _) _)).mono ?_
  rintro e w1 ⟨rfl, hb1⟩
  have HB1 : Hid (Below w.heap.size w w1) := Lib.hid (Below.tr (Below.al (Below.refl _ _) _) hb1)
  clear hb1
  go_wp2_with fail
  go_ret
  exact ⟨rfl, HB1.out⟩
end Go.Proofs.YtambinjjfapcgaaDoor
