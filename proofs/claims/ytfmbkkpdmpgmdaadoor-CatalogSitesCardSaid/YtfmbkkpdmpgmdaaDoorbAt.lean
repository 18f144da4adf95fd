/- At, the program's and the document's; Same. -/
import Derived.Test.YtfmbkkpdmpgmdaaDoorbSpec
namespace Go.Proofs.YtfmbkkpdmpgmdaaDoor
open Go.RowKit

/-- The call returns the catalog l in memory of its own and leaves alone what was there. -/
def RetL (w : World) (l : Ct) (e : Ending) (w' : World) : Prop :=
  ∃ v, e = .returned v ∧ OwnRows resE 26 w' w.heap.size v l ∧ Below w.heap.size w w'

set_option maxHeartbeats 4000000 in
theorem rAt_any (A : Option Addr) (B cap : Nat) (l : Ct) (s : Int) (w : World) (hc : l.length ≤ maxLen) (hcb : l.length * 40 ≤ 140737488355328) (hB : B ≤ w.heap.size) (hr : RowsAt resE w (Lo B) A l) :
    Calls Tryd.prog 32 #[.slice A l.length cap, .int .i64 s] w (RetL w (atL l s)) := by
  have HR := Lib.hid hr
  unfold maxLen at hc
  clear hr
  go_enter Tryd.func32, Tryd.ntmps32
  go_wp2_with fail
  go_loopg [5, 6] l.length (fun m v8 v9 wq => ∃ (k : Nat), v9 = .int .i64 (k : Int) ∧ k ≤ l.length ∧ l.length ≤ k + m ∧ OwnRows resE 26 wq w.heap.size v8 (atL (l.take k) s) ∧ Below w.heap.size w wq)
  case atStart => exact ⟨0, rfl, Nat.zero_le _, by omega, OwnRows.nil _ _ _ _ (Nat.le_refl _), Below.refl _ _⟩
  case round =>
    obtain ⟨k, rfl, hk, hkm, hown, hbw⟩ := hrel
    have HOWN := Lib.hid hown
    have HBW := Lib.hid hbw
    have hszr : w.heap.size ≤ wr.heap.size := hbw.size
    clear hown hbw
    by_cases hlt : k < l.length
    · have hrw := HR.out.below (B'' := B) HBW.out hB (Nat.le_refl _)
      obtain ⟨⟨nm2, kd2, u2, h2⟩, hx⟩ : ∃ x, l[k] = x := ⟨_, rfl⟩
      obtain ⟨b, off, rfl, hbl, hc0, hc1, hc2, hc3⟩ := res_cells hrw hlt hx
      have hbl2 : b < wr.heap.size := Nat.lt_of_lt_of_le hbl (Nat.le_trans hB HBW.out.size)
      have HX := Lib.hid hx
      obtain ⟨q, hq⟩ : ∃ q, (h2 == s) = q := ⟨_, rfl⟩
      have HQ := Lib.hid hq
      have hts := take_succ_filter (l := l) (p := fun x => decide (x.home = s)) hlt
      have hl : Hid ((atL (l.take k) s).length < maxLen ∧ ((atL (l.take k) s).length + 1) * 40 ≤ 140737488355328) := Lib.hid (by have := filter_take_le (l := l) (p := fun x => decide (x.home = s)) (k := k); unfold atL maxLen; omega)
      have HTS := Lib.hid hts
      clear hx hrw hbl hts
      cases q with
      | false =>
        have hnew : Hid (atL (l.take (k + 1)) s = atL (l.take k) s) := Lib.hid (by
          unfold atL
          rw [HTS.out, HX.out]
          have := beq_eq_false_iff_ne.1 HQ.out
          simp [this])
        go_wp2
        go_roundg (gk - 1)
        case measure => omega
        case rel => exact ⟨k + 1, by go_num, by omega, by omega, by rw [hnew.out]; exact HOWN.out, HBW.out⟩
      | true =>
        have hnew : Hid (atL (l.take (k + 1)) s = atL (l.take k) s ++ [⟨nm2, kd2, u2, h2⟩]) := Lib.hid (by
          unfold atL
          rw [HTS.out, HX.out]
          have := beq_iff_eq.1 HQ.out
          simp [this])
        go_wp2_with (at_builtin; refine pushOneB resTB rfl (.tmp 20) (.tmp 25) rfl wr w.heap.size u5 (atL (l.take k) s) ⟨nm2, kd2, u2, h2⟩ [.string nm2, .int .i64 kd2, .int .i64 u2, .int .i64 h2] _ rfl rfl HOWN.out wr.heap.size rfl rfl rfl hl.out.1 hl.out.2 ?_; intro v7 w7 hown7 hb7 hsp7; have HBEL7 := Lib.hid (HBW.out.trans hb7); have HOWN7 := Lib.hid hown7; clear hown7 hb7 hsp7)
        go_roundg (gk - 1)
        case measure => omega
        case rel => exact ⟨k + 1, by go_num, by omega, by omega, by rw [hnew.out]; exact HOWN7.out, HBEL7.out⟩
    · have HL : Hid (l.take k = l) := Lib.hid (List.take_of_length_le (by omega))
      go_wp2
      go_ret
      exact ⟨_, rfl, by have := HOWN.out; rw [HL.out] at this; exact this, HBW.out⟩

set_option maxHeartbeats 4000000 in
theorem At_any (A : Option Addr) (B cap : Nat) (l : Ct) (s : Int) (w : World) (hc : l.length ≤ maxLen) (hcb : l.length * 40 ≤ 140737488355328) (hB : B ≤ w.heap.size) (hr : RowsAt resE w (Lo B) A l) :
    Calls Tryd.prog 25 #[.slice A l.length cap, .int .i64 s] w (RetL w (atL l s)) := by
  have HR := Lib.hid hr
  unfold maxLen at hc
  clear hr
  go_enter Tryd.func25, Tryd.ntmps25
  go_wp2_with fail
  go_loopg [5, 10] l.length (fun m v8 v9 wq => ∃ (k : Nat), v9 = .int .i64 (k : Int) ∧ k ≤ l.length ∧ l.length ≤ k + m ∧ OwnRows resE 26 wq w.heap.size v8 (atL (l.take k) s) ∧ Below w.heap.size w wq)
  case atStart => exact ⟨0, rfl, Nat.zero_le _, by omega, OwnRows.nil _ _ _ _ (Nat.le_refl _), Below.refl _ _⟩
  case round =>
    obtain ⟨k, rfl, hk, hkm, hown, hbw⟩ := hrel
    have HOWN := Lib.hid hown
    have HBW := Lib.hid hbw
    have hszr : w.heap.size ≤ wr.heap.size := hbw.size
    clear hown hbw
    by_cases hlt : k < l.length
    · have hrw := HR.out.below (B'' := B) HBW.out hB (Nat.le_refl _)
      obtain ⟨⟨nm2, kd2, u2, h2⟩, hx⟩ : ∃ x, l[k] = x := ⟨_, rfl⟩
      obtain ⟨b, off, rfl, hbl, hc0, hc1, hc2, hc3⟩ := res_cells hrw hlt hx
      have hbl2 : b < wr.heap.size := Nat.lt_of_lt_of_le hbl (Nat.le_trans hB HBW.out.size)
      have HX := Lib.hid hx
      obtain ⟨q, hq⟩ : ∃ q, (h2 == s) = q := ⟨_, rfl⟩
      have HQ := Lib.hid hq
      have hts := take_succ_filter (l := l) (p := fun x => decide (x.home = s)) hlt
      have hl : Hid ((atL (l.take k) s).length < maxLen ∧ ((atL (l.take k) s).length + 1) * 40 ≤ 140737488355328) := Lib.hid (by have := filter_take_le (l := l) (p := fun x => decide (x.home = s)) (k := k); unfold atL maxLen; omega)
      have HTS := Lib.hid hts
      clear hx hrw hbl hts
      cases q with
      | false =>
        have hnew : Hid (atL (l.take (k + 1)) s = atL (l.take k) s) := Lib.hid (by
          unfold atL
          rw [HTS.out, HX.out]
          have := beq_eq_false_iff_ne.1 HQ.out
          simp [this])
        go_wp2
        go_roundg (gk - 1)
        case measure => omega
        case rel => exact ⟨k + 1, by go_num, by omega, by omega, by rw [hnew.out]; exact HOWN.out.alloc _, HBW.out.alloc HBW.out.size _⟩
      | true =>
        have hnew : Hid (atL (l.take (k + 1)) s = atL (l.take k) s ++ [⟨nm2, kd2, u2, h2⟩]) := Lib.hid (by
          unfold atL
          rw [HTS.out, HX.out]
          have := beq_iff_eq.1 HQ.out
          simp [this])
        go_wp2_with (at_builtin; refine pushOneB resTB rfl (.tmp 18) (.tmp 20) rfl (wr.alloc (.cells #[.string nm2, .int .i64 kd2, .int .i64 u2, .int .i64 h2] 26)) w.heap.size u5 (atL (l.take k) s) ⟨nm2, kd2, u2, h2⟩ [.string nm2, .int .i64 kd2, .int .i64 u2, .int .i64 h2] _ rfl rfl (HOWN.out.alloc _) (wr.heap.size + 1) rfl (by simp) rfl hl.out.1 hl.out.2 ?_; intro v7 w7 hown7 hb7 hsp7; have HBEL7 := Lib.hid ((HBW.out.alloc HBW.out.size _).trans hb7); have HOWN7 := Lib.hid hown7; clear hown7 hb7 hsp7)
        go_roundg (gk - 1)
        case measure => omega
        case rel => exact ⟨k + 1, by go_num, by omega, by omega, by rw [hnew.out]; exact HOWN7.out, HBEL7.out⟩
    · have HL : Hid (l.take k = l) := Lib.hid (List.take_of_length_le (by omega))
      go_wp2
      go_ret
      exact ⟨_, rfl, by have := HOWN.out; rw [HL.out] at this; exact this, HBW.out⟩
end Go.Proofs.YtfmbkkpdmpgmdaaDoor
