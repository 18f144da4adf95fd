/- The places of a list that hold 'true'. -/
import Derived.Test.YtgdeekghngpcfaaPure
namespace Go.Proofs.Ytgdeekghngpcfaa
open Go.RowKit

/-- The places below k at which f holds, ascending. -/
def idxs (f : Nat → Bool) (k : Nat) : List Int := ((List.range k).filter f).map Int.ofNat
theorem idxs_succ (f : Nat → Bool) (k : Nat) : idxs f (k + 1) = if f k then idxs f k ++ [(k : Int)] else idxs f k := by
  unfold idxs
  rw [List.range_succ, List.filter_append, List.map_append]
  by_cases h : f k = true <;> simp [h]
theorem idxs_length (f : Nat → Bool) (k : Nat) : (idxs f k).length ≤ k := by
  unfold idxs
  have := List.length_filter_le f (List.range k)
  simpa using this

set_option maxHeartbeats 800000 in
theorem members_any (A : Option Addr) (cap : Nat) (bs : List Bool) (w : World) (hm : bs.length ≤ 1000000) (hr : BoolsAt w w.heap.size A bs) :
    Calls Try.prog 28 #[.slice A bs.length cap] w (RetInts w (fun l => l = idxs (fun i => bs.getD i false) bs.length)) := by
  go_enter Try.func28, Try.ntmps28
  go_wp2
  go_loopw [3, 8] (fun v i wr => ∃ k : Nat, k ≤ bs.length ∧ i = .int .i64 k ∧ Below w.heap.size w wr ∧ OwnInts wr w.heap.size v (idxs (fun i => bs.getD i false) k)) (fun _ i _ => bs.length - (intOf i).toNat)
  case atStart => exact ⟨0, Nat.zero_le _, rfl, (by repeat first | exact Below.refl _ _ | assumption | refine below_drewN ?_ _ | refine Below.drew ?_), OwnInts.nil _ _ (Nat.le_refl _)⟩
  case round =>
    obtain ⟨k, hk, rfl, hbel, hown⟩ := hrel
    by_cases hlt : k < bs.length
    · have hst := Lib.hid (idxs_succ (fun i => bs.getD i false) k)
      have hle := idxs_length (fun i => bs.getD i false) k
      cases hbk : bs[k] with
      | true =>
        obtain ⟨b, off, rfl, hb, hc⟩ := (hr.below hbel (Nat.le_refl _) hbel.size).get hlt hbk
        have HB := Lib.hid hbk
        clear hbk
        go_wp2_with (at_builtin; refine pushInt rfl _ _ rfl wr _ _ _ _ rfl hown _ rfl rfl (by omega) ?_; intro v' w1 hown1 hb1 _)
        go_roundw
        case rel =>
          have e : idxs (fun i => bs.getD i false) (k + 1) = idxs (fun i => bs.getD i false) k ++ [(k : Int)] := by rw [hst.out]; simp [List.getD, List.getElem?_eq_getElem hlt, HB.out]
          exact ⟨k + 1, by omega, by go_num, hbel.trans hb1, by rw [e]; exact hown1⟩
        case measure => simp [intOf]; omega
      | false =>
        obtain ⟨b, off, rfl, hb, hc⟩ := (hr.below hbel (Nat.le_refl _) hbel.size).get hlt hbk
        have HB := Lib.hid hbk
        clear hbk
        go_wp2
        go_roundw
        case rel =>
          have e : idxs (fun i => bs.getD i false) (k + 1) = idxs (fun i => bs.getD i false) k := by rw [hst.out]; simp [List.getD, List.getElem?_eq_getElem hlt, HB.out]
          exact ⟨k + 1, by omega, by go_num, hbel, by rw [e]; exact hown⟩
        case measure => simp [intOf]; omega
    · go_wp2
      go_ret
      obtain ⟨A', cap', e, h, _⟩ := hown.form
      exact ⟨A', _, cap', by rw [← e]; rfl, hown.new e (Nat.le_refl _), by rw [show k = bs.length by omega], by have := idxs_length (fun i => bs.getD i false) k; omega, hbel⟩
end Go.Proofs.Ytgdeekghngpcfaa
