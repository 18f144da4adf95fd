/- Uint, the program's and the document's. -/
import Derived.Test.YtebhcchdcpechaaDooriEl
import Derived.Laws.BitsAllLaws
namespace Go.Proofs.YtebhcchdcpechaaDoor
open Go.RowKit

def uintV (l : List UInt8) : Value := .tuple #[.int .u64 ((uintS l).1 : Int), .int .i64 ((uintS l).2.1 : Int), .int .i64 (uintS l).2.2]
theorem uintV_of {l : List UInt8} {v n : Nat} {e : Int} (h : uintS l = (v, n, e)) : uintV l = .tuple #[.int .u64 (v : Int), .int .i64 (n : Int), .int .i64 e] := by unfold uintV; rw [h]
theorem u8_mask127 {x : Nat} (h : x < 256) : bits .and .u8 (x : Int) 127 = ((x % 128 : Nat) : Int) := by
  have := u8_and_nat x 127 h (by decide)
  rw [nat_mask7] at this
  exact this
theorem u8_mask128 {x : Nat} (h : x < 256) : bits .and .u8 (x : Int) 128 = ((x / 128 * 128 : Nat) : Int) := by
  have := u8_and_nat x 128 h (by decide)
  rw [show (128 : Nat) = 2 ^ 7 from rfl, nat_bit] at this
  rw [show ((2 ^ 7 : Nat) : Int) = 128 from rfl] at this
  rw [this]
  congr 1
  have : x / 2 ^ 7 % 2 = x / 128 := by omega
  rw [this]
theorem pow7 (k : Nat) : 2 ^ (7 * (k + 1)) = 2 ^ (7 * k) * 128 := by rw [show 7 * (k + 1) = 7 * k + 7 by omega, Nat.pow_add]
/-- What the round adds. -/
theorem shl_fit {x k : Nat} (hx : x < 128) (hk : k ≤ 9) (h9 : k = 9 → x ≤ 1) : x * 2 ^ (7 * k) < 2 ^ 64 := by
  rcases Nat.lt_or_ge k 9 with h | h
  · have h1 : x * 2 ^ (7 * k) < 128 * 2 ^ (7 * k) := Nat.mul_lt_mul_of_pos_right hx (Nat.two_pow_pos _)
    have h2 : 128 * 2 ^ (7 * k) = 2 ^ (7 + 7 * k) := by rw [Nat.pow_add]
    have h3 : 2 ^ (7 + 7 * k) ≤ 2 ^ 64 := Nat.pow_le_pow_right (by decide) (by omega)
    omega
  · have : k = 9 := by omega
    subst this
    have h1 := Nat.mul_le_mul_right (2 ^ (7 * 9)) (h9 rfl)
    have h2 : 1 * 2 ^ (7 * 9) < 2 ^ 64 := by decide
    exact Nat.lt_of_le_of_lt h1 h2
theorem shl_wrap {x k : Nat} (hx : x < 128) (hk : k ≤ 9) (h9 : k = 9 → x ≤ 1) : IntKind.u64.wrap ((x : Int) * 2 ^ min (7 * (k : Int)).toNat 64) = ((x * 2 ^ (7 * k) : Nat) : Int) := by
  have h := shl_fit hx hk h9
  rw [show min (7 * (k : Int)).toNat 64 = 7 * k by omega]
  have e : (x : Int) * 2 ^ (7 * k) = ((x * 2 ^ (7 * k) : Nat) : Int) := by simp
  rw [e]
  exact IntWalk.u64_in _ (by
    have : (2 ^ 64 : Nat) = 18446744073709551616 := by decide
    omega)
theorem or_add {acc x k : Nat} (hacc : acc < 2 ^ (7 * k)) (hx : x < 128) (hk : k ≤ 9) (h9 : k = 9 → x ≤ 1) : bits .or .u64 (acc : Int) ((x * 2 ^ (7 * k) : Nat) : Int) = ((acc + x * 2 ^ (7 * k) : Nat) : Int) := by
  have h := shl_fit hx hk h9
  have e64 : (2 ^ 64 : Nat) = 18446744073709551616 := by decide
  have h2 : 2 ^ (7 * k) ≤ 2 ^ 63 := Nat.pow_le_pow_right (by decide) (by omega)
  have e63 : (2 ^ 63 : Nat) = 9223372036854775808 := by decide
  rw [u64_or_nat acc _ (by omega) (by omega)]
  congr 1
  rw [Nat.or_comm, nat_join (7 * k) _ acc (Nat.mul_mod_left _ _) hacc, Nat.add_comm]
/-- One round of uintG, by cases. -/
theorem uintG_form {k acc : Nat} {l : List UInt8} (hk : k < 10) (hlt : k < l.length) (h : (k = 9 ∧ 1 < l[k].toNat) ∨ (l[k].toNat = 0 ∧ 0 < k)) : uintG (10 - k) k acc (l.drop k) = (0, 0, 6) := by
  rw [List.drop_eq_getElem_cons hlt, show 10 - k = (9 - k) + 1 by omega]
  unfold uintG
  rw [if_pos h]
theorem uintG_done {k acc : Nat} {l : List UInt8} (hk : k < 10) (hlt : k < l.length) (h : ¬ ((k = 9 ∧ 1 < l[k].toNat) ∨ (l[k].toNat = 0 ∧ 0 < k))) (hc : l[k].toNat < 128) : uintG (10 - k) k acc (l.drop k) = (acc + l[k].toNat % 128 * 2 ^ (7 * k), k + 1, 0) := by
  rw [List.drop_eq_getElem_cons hlt, show 10 - k = (9 - k) + 1 by omega]
  unfold uintG
  rw [if_neg h, if_pos hc]
theorem uintG_more {k acc : Nat} {l : List UInt8} (hk : k < 10) (hlt : k < l.length) (h : ¬ ((k = 9 ∧ 1 < l[k].toNat) ∨ (l[k].toNat = 0 ∧ 0 < k))) (hc : ¬ l[k].toNat < 128) : uintG (10 - k) k acc (l.drop k) = uintG (10 - (k + 1)) (k + 1) (acc + l[k].toNat % 128 * 2 ^ (7 * k)) (l.drop (k + 1)) := by
  rw [List.drop_eq_getElem_cons hlt, show 10 - k = (9 - k) + 1 by omega]
  conv => lhs; unfold uintG
  rw [if_neg h, if_neg hc, show 9 - k = 10 - (k + 1) by omega]
theorem uintG_short {k acc : Nat} {l : List UInt8} (hk : k < 10) (hlt : l.length ≤ k) : uintG (10 - k) k acc (l.drop k) = (0, 0, 5) := by
  rw [List.drop_eq_nil_of_le hlt, show 10 - k = (9 - k) + 1 by omega]
  rfl

set_option maxHeartbeats 3200000 in
set_option maxRecDepth 100000 in
theorem Uint_any (A : Option Addr) (B cap : Nat) (l : List UInt8) (w : World) (hm : l.length ≤ 281474976710656) (hr : RowsAt byteE w (Lo B) A l) : Calls Tryd.prog 48 #[.slice A l.length cap] w (Same w (uintV l)) := by
  have HR := Lib.hid hr
  have HV := Lib.hid (fun v n e h => uintV_of (l := l) (v := v) (n := n) (e := e) h)
  obtain ⟨res, hres⟩ : ∃ res, uintV l = res := ⟨_, rfl⟩
  rw [hres] at HV ⊢
  clear hr hres
  go_enter Tryd.func48, Tryd.ntmps48
  go_wp2
  go_loop [5, 8] (fun v i => ∃ (k acc : Nat), k ≤ 10 ∧ k ≤ l.length ∧ i = .int .i64 (k : Int) ∧ v = .int .u64 (acc : Int) ∧ acc < 2 ^ (7 * k) ∧ Hid (uintS l = uintG (10 - k) k acc (l.drop k))) (fun _ i => 10 - (intOf i).toNat)
  case atStart => exact ⟨0, 0, by omega, Nat.zero_le _, rfl, rfl, by decide, Lib.hid rfl⟩
  case round =>
    obtain ⟨k, acc, hk, hkl, rfl, rfl, hacc, HU⟩ := hrel
    have HACC := Lib.hid hacc
    clear hacc
    by_cases h10 : k < 10
    · by_cases hlt : k < l.length
      · obtain ⟨b, off, rfl, _, hc⟩ := byte_cell HR.out hlt
        have hcb := l[k].toNat_lt
        have F1 := Lib.hid (fun h => uintG_form (acc := acc) h10 hlt h)
        have F2 := Lib.hid (fun h h' => uintG_done (acc := acc) h10 hlt h h')
        have F3 := Lib.hid (fun h h' => uintG_more (acc := acc) h10 hlt h h')
        generalize l[k].toNat = x at *
        have hlti : (k : Int) < (l.length : Int) := by omega
        have m1 := u8_mask127 hcb
        have m2 := u8_mask128 hcb
        by_cases hA : k = 9 ∧ 1 < x
        · have HVV := Lib.hid (HV.out 0 0 6 (HU.out.trans (F1.out (Or.inl hA))))
          obtain ⟨h9, h1⟩ := hA
          have hk9 : ((k : Int) == 9) = true := beq_iff_eq.2 (by omega)
          have h1i : (1 : Int) < (x : Int) := by omega
          clear h9 h1 m1 m2
          go_wp2
          (refine bodyPost_ret (v := res) (by simp [results, Tryd.results48, go_sem, HVV.out]) rfl ⟨rfl, rfl⟩)
        · have hx1 : k = 9 → x % 128 ≤ 1 := fun h => by omega
          have eE : (((x % 128 * 2 ^ (7 * k) : Nat)) : Int) = (x : Int) % 128 * 2 ^ (7 * k) := by push_cast; rfl
          have m3 := shl_wrap (x := x % 128) (k := k) (by omega) (by omega) hx1
          have m4 := or_add (x := x % 128) (k := k) HACC.out (by omega) (by omega) hx1
          rw [show min (7 * (k : Int)).toNat 64 = 7 * k by omega, eE, show ((x % 128 : Nat) : Int) = (x : Int) % 128 by omega] at m3
          rw [Int.natCast_add, eE] at m4
          have EE : Hid (((acc + x % 128 * 2 ^ (7 * k) : Nat) : Int) = (acc : Int) + (x : Int) % 128 * 2 ^ (7 * k)) := Lib.hid (by rw [Int.natCast_add, eE])
          clear eE
          have HA := Lib.hid hA
          by_cases hB : 128 ≤ x
          · have HU2 := Lib.hid (HU.out.trans (F3.out (fun h => h.elim hA (fun h => by omega)) (by omega)))
            have HL := Lib.hid (shl_fit (x := x % 128) (k := k) (by omega) (by omega) hx1)
            have m2' : bits .and .u8 (x : Int) 128 = 128 := by rw [m2, show x / 128 * 128 = 128 by omega]; rfl
            clear m2
            have H9 : k = 9 ∧ x ≤ 1 ∨ k ≠ 9 := by omega
            have hk9 : ((k : Int) == 9) = false := beq_eq_false_iff_ne.2 (by omega)
            clear hA H9 hx1
            go_wp2
            go_round
            case rel => exact ⟨k + 1, acc + x % 128 * 2 ^ (7 * k), by omega, by omega, by go_num, by rw [EE.out], by
              have := HACC.out
              rw [pow7]
              have h1 : x % 128 ≤ 127 := by omega
              have h2 := Nat.mul_le_mul_right (2 ^ (7 * k)) h1
              omega, HU2⟩
            case measure => simp [intOf]; omega
          · have m2' : bits .and .u8 (x : Int) 128 = 0 := by rw [m2, show x / 128 * 128 = 0 by omega]; rfl
            clear m2
            by_cases hZ : x = 0 ∧ 0 < k
            · have HVV := Lib.hid (HV.out 0 0 6 (HU.out.trans (F1.out (Or.inr hZ))))
              obtain ⟨hz1, hz2⟩ := hZ
              have hz3 : ((x : Int) == 0) = true := beq_iff_eq.2 (by omega)
              have hz4 : (0 : Int) < (k : Int) := by omega
              have hx2 : ¬ (1 : Int) < (x : Int) := by omega
              clear hz1 hz2 hA hx1
              go_wp2
              all_goals (refine bodyPost_ret (v := res) (by simp [results, Tryd.results48, go_sem, HVV.out]) rfl ⟨rfl, rfl⟩)
            · have HVV := Lib.hid (HV.out _ _ _ (HU.out.trans (F2.out (fun h => h.elim hA hZ) (by omega))))
              rw [EE.out] at HVV
              have hk01 : k = 0 ∨ x ≠ 0 := by omega
              have hk90 : k = 9 ∧ x ≤ 1 ∨ k ≠ 9 := by omega
              clear hx1 hA hZ
              rcases hk90 with ⟨h9, hx1⟩ | h9
              · have hk9 : ((k : Int) == 9) = true := beq_iff_eq.2 (by omega)
                have hz3 : ((x : Int) == 0) = false := beq_eq_false_iff_ne.2 (by omega)
                have hx2 : (x : Int) ≤ 1 := by omega
                clear h9 hk01 hx1
                go_wp2
                all_goals (refine bodyPost_ret (v := res) (by simp [results, Tryd.results48, go_sem, HVV.out]) rfl ⟨rfl, rfl⟩)
              · have hk9 : ((k : Int) == 9) = false := beq_eq_false_iff_ne.2 (by omega)
                clear h9
                rcases hk01 with h0 | h0
                · have hk0 : ¬ (0 : Int) < (k : Int) := by omega
                  clear h0
                  by_cases hx0 : x = 0
                  · subst hx0
                    have m5 : bits .or .u64 (acc : Int) 0 = (acc : Int) := by simpa using m4
                    have m6 : bits .and .u8 (0 : Int) 127 = 0 := by simpa using m1
                    have m7 : bits .and .u8 (0 : Int) 128 = 0 := by simpa using m2'
                    have m8 : IntKind.u64.wrap 0 = 0 := by rw [IntWalk.u64_in _ (by omega)]
                    clear m1 m2' m3 m4
                    go_wp2
                    all_goals (refine bodyPost_ret (v := res) (by simp [results, Tryd.results48, go_sem, HVV.out]) rfl ⟨rfl, rfl⟩)
                  have hz3 : ((x : Int) == 0) = false := beq_eq_false_iff_ne.2 (by omega)
                  clear hx0
                  go_wp2
                  all_goals (refine bodyPost_ret (v := res) (by simp [results, Tryd.results48, go_sem, HVV.out]) rfl ⟨rfl, rfl⟩)
                · have hz3 : ((x : Int) == 0) = false := beq_eq_false_iff_ne.2 (by omega)
                  clear h0
                  go_wp2
                  all_goals (refine bodyPost_ret (v := res) (by simp [results, Tryd.results48, go_sem, HVV.out]) rfl ⟨rfl, rfl⟩)
      · have HVV := Lib.hid (HV.out 0 0 5 (HU.out.trans (uintG_short h10 (by omega))))
        go_wp2
        (refine bodyPost_ret (v := res) (by simp [results, Tryd.results48, go_sem, HVV.out]) rfl ⟨rfl, rfl⟩)
    · obtain rfl : k = 10 := by omega
      have HVV := Lib.hid (HV.out 0 0 6 (HU.out.trans rfl))
      go_wp2
      (refine bodyPost_ret (v := res) (by simp [results, Tryd.results48, go_sem, HVV.out]) rfl ⟨rfl, rfl⟩)
end Go.Proofs.YtebhcchdcpechaaDoor
