/- Uint, the document's. -/
import Derived.Test.YtebhcchdcpechaaDooriBytes
namespace Go.Proofs.YtebhcchdcpechaaDoor
open Go.RowKit

set_option maxHeartbeats 3200000 in
set_option maxRecDepth 100000 in
theorem rUint_any (A : Option Addr) (B cap : Nat) (l : List UInt8) (w : World) (hm : l.length ≤ 281474976710656) (hr : RowsAt byteE w (Lo B) A l) : Calls Tryd.prog 49 #[.slice A l.length cap] w (Same w (uintV l)) := by
  have HR := Lib.hid hr
  have HV := Lib.hid (fun v n e h => uintV_of (l := l) (v := v) (n := n) (e := e) h)
  obtain ⟨res, hres⟩ : ∃ res, uintV l = res := ⟨_, rfl⟩
  rw [hres] at HV ⊢
  clear hr hres
  go_enter Tryd.func49, Tryd.ntmps49
  go_wp2
  go_loop [5, 6] (fun v i => ∃ (k acc : Nat), k ≤ 10 ∧ k ≤ l.length ∧ i = .int .i64 (k : Int) ∧ v = .int .u64 (acc : Int) ∧ acc < 2 ^ (7 * k) ∧ Hid (uintS l = uintG (10 - k) k acc (l.drop k))) (fun _ i => 10 - (intOf i).toNat)
  case atStart => exact ⟨0, 0, by omega, Nat.zero_le _, rfl, rfl, by decide, Lib.hid rfl⟩
  case round =>
    obtain ⟨k, acc, hk, hkl, rfl, rfl, hacc, HU⟩ := hrel
    have HACC := Lib.hid hacc
    clear hacc
    by_cases h10 : k < 10
    · by_cases hlt : k < l.length
      · obtain ⟨b, off, rfl, _, hc⟩ := byte_cell HR.out hlt
        have hcb := l[k].toNat_lt
        have F1 := Lib.hid (fun h => uintG_form (acc := acc) h10 hlt h)
        have F2 := Lib.hid (fun h h' => uintG_done (acc := acc) h10 hlt h h')
        have F3 := Lib.hid (fun h h' => uintG_more (acc := acc) h10 hlt h h')
        generalize l[k].toNat = x at *
        have hlti : (k : Int) < (l.length : Int) := by omega
        have m1 := u8_mask127 hcb
        have m9 : IntKind.u64.wrap (7 * (k : Int)) = 7 * (k : Int) := IntWalk.u64_in _ (by omega)
        have hk90 : k = 9 ∨ k ≠ 9 := by omega
        by_cases hF : (k = 9 ∧ 1 < x) ∨ (x = 0 ∧ 0 < k)
        · have HVV := Lib.hid (HV.out 0 0 6 (HU.out.trans (F1.out hF)))
          clear m1 m9
          rcases hF with ⟨h9, h1⟩ | ⟨h0, h1⟩
          · have hk9 : ((k : Int) == 9) = true := beq_iff_eq.2 (by omega)
            have h1i : (1 : Int) < (x : Int) := by omega
            clear h9 h1 hk90
            go_wp2
            all_goals (refine bodyPost_ret (v := res) (by simp [results, Tryd.results49, go_sem, HVV.out]) rfl ⟨rfl, rfl⟩)
          · have hz3 : ((x : Int) == 0) = true := beq_iff_eq.2 (by omega)
            have h1i : (0 : Int) < (k : Int) := by omega
            have h2i : ¬ (1 : Int) < (x : Int) := by omega
            clear h0 h1
            rcases hk90 with h9 | h9
            · have hk9 : ((k : Int) == 9) = true := beq_iff_eq.2 (by omega)
              clear h9
              go_wp2
              all_goals (refine bodyPost_ret (v := res) (by simp [results, Tryd.results49, go_sem, HVV.out]) rfl ⟨rfl, rfl⟩)
            · have hk9 : ((k : Int) == 9) = false := beq_eq_false_iff_ne.2 (by omega)
              clear h9
              go_wp2
              all_goals (refine bodyPost_ret (v := res) (by simp [results, Tryd.results49, go_sem, HVV.out]) rfl ⟨rfl, rfl⟩)
        · have hx1 : k = 9 → x % 128 ≤ 1 := fun h => by omega
          have eE : (((x % 128 * 2 ^ (7 * k) : Nat)) : Int) = (x : Int) % 128 * 2 ^ (7 * k) := by push_cast; rfl
          have m3 := shl_wrap (x := x % 128) (k := k) (by omega) (by omega) hx1
          have m4 := or_add (x := x % 128) (k := k) HACC.out (by omega) (by omega) hx1
          rw [show min (7 * (k : Int)).toNat 64 = 7 * k by omega, eE, show ((x % 128 : Nat) : Int) = (x : Int) % 128 by omega] at m3
          rw [Int.natCast_add, eE] at m4
          have EE : Hid (((acc + x % 128 * 2 ^ (7 * k) : Nat) : Int) = (acc : Int) + (x : Int) % 128 * 2 ^ (7 * k)) := Lib.hid (by rw [Int.natCast_add, eE])
          clear eE
          by_cases hB : 128 ≤ x
          · have HU2 := Lib.hid (HU.out.trans (F3.out hF (by omega)))
            have HL := Lib.hid (shl_fit (x := x % 128) (k := k) (by omega) (by omega) hx1)
            have hk9 : ((k : Int) == 9) = false := beq_eq_false_iff_ne.2 (by omega)
            have hz3 : ((x : Int) == 0) = false := beq_eq_false_iff_ne.2 (by omega)
            clear hF hx1 hk90
            go_wp2
            go_round
            case rel => exact ⟨k + 1, acc + x % 128 * 2 ^ (7 * k), by omega, by omega, by go_num, by rw [EE.out], by
              have := HACC.out
              rw [pow7]
              have h1 : x % 128 ≤ 127 := by omega
              have h2 := Nat.mul_le_mul_right (2 ^ (7 * k)) h1
              omega, HU2⟩
            case measure => simp [intOf]; omega
          · have HVV := Lib.hid (HV.out _ _ _ (HU.out.trans (F2.out hF (by omega))))
            rw [EE.out] at HVV
            have hk01 : k = 0 ∨ x ≠ 0 := by omega
            have hx9 : k = 9 → x ≤ 1 := by omega
            clear hx1 hF
            by_cases hx0 : x = 0
            · have hk0 : ¬ (0 : Int) < (k : Int) := by omega
              have hk9 : ((k : Int) == 9) = false := beq_eq_false_iff_ne.2 (by omega)
              clear hk01 hx9 hk90
              subst hx0
              have m5 : bits .or .u64 (acc : Int) 0 = (acc : Int) := by simpa using m4
              have m6 : bits .and .u8 (0 : Int) 127 = 0 := by simpa using m1
              have m8 : IntKind.u64.wrap 0 = 0 := by rw [IntWalk.u64_in _ (by omega)]
              clear m1 m3 m4
              go_wp2
              all_goals (refine bodyPost_ret (v := res) (by simp [results, Tryd.results49, go_sem, HVV.out]) rfl ⟨rfl, rfl⟩)
            · have hz3 : ((x : Int) == 0) = false := beq_eq_false_iff_ne.2 (by omega)
              clear hk01
              rcases hk90 with h9 | h9
              · have hk9 : ((k : Int) == 9) = true := beq_iff_eq.2 (by omega)
                have hx2 : (x : Int) ≤ 1 := by have := hx9 h9; omega
                clear h9 hx9 hx0
                go_wp2
                all_goals (refine bodyPost_ret (v := res) (by simp [results, Tryd.results49, go_sem, HVV.out]) rfl ⟨rfl, rfl⟩)
              · have hk9 : ((k : Int) == 9) = false := beq_eq_false_iff_ne.2 (by omega)
                clear h9 hx9 hx0
                go_wp2
                all_goals (refine bodyPost_ret (v := res) (by simp [results, Tryd.results49, go_sem, HVV.out]) rfl ⟨rfl, rfl⟩)
      · have HVV := Lib.hid (HV.out 0 0 5 (HU.out.trans (uintG_short h10 (by omega))))
        go_wp2
        (refine bodyPost_ret (v := res) (by simp [results, Tryd.results48, go_sem, HVV.out]) rfl ⟨rfl, rfl⟩)
    · obtain rfl : k = 10 := by omega
      have HVV := Lib.hid (HV.out 0 0 6 (HU.out.trans rfl))
      go_wp2
      (refine bodyPost_ret (v := res) (by simp [results, Tryd.results48, go_sem, HVV.out]) rfl ⟨rfl, rfl⟩)
end Go.Proofs.YtebhcchdcpechaaDoor
