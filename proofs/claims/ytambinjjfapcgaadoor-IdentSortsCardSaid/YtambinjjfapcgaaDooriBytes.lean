/- Uint, the program's and the document's. -/
import Derived.Test.YtambinjjfapcgaaDooriEl
import Derived.Laws.BitsAllLaws
namespace Go.Proofs.YtambinjjfapcgaaDoor
open Go.RowKit

def uintV (l : List UInt8) : Value := .tuple #[.int .u64 ((uintS l).1 : Int), .int .i64 ((uintS l).2.1 : Int), .int .i64 (uintS l).2.2]
theorem uintV_of {l : List UInt8} {v n : Nat} {e : Int} (h : uintS l = (v, n, e)) : uintV l = .tuple #[.int .u64 (v : Int), .int .i64 (n : Int), .int .i64 e] := by unfold uintV; rw [h]
theorem u8_mask127 {x : Nat} (h : x < 256) : bits .and .u8 (x : Int) 127 = ((x % 128 : Nat) : Int) := by
  have := u8_and_nat x 127 h (by decide)
  rw [nat_mask7] at this
  exact this
theorem u8_mask128 {x : Nat} (h : x < 256) : bits .and .u8 (x : Int) 128 = ((x / 128 * 128 : Nat) : Int) := by
  have := u8_and_nat x 128 h (by decide)
  rw [show (128 : Nat) = 2 ^ 7 from rfl, nat_bit] at this
  rw [show ((2 ^ 7 : Nat) : Int) = 128 from rfl] at this
  rw [this]
  congr 1
  have : x / 2 ^ 7 % 2 = x / 128 := by omega
  rw [this]
theorem pow7 (k : Nat) : 2 ^ (7 * (k + 1)) = 2 ^ (7 * k) * 128 := by rw [show 7 * (k + 1) = 7 * k + 7 by omega, Nat.pow_add]
/-- What the round adds. -/
theorem shl_fit {x k : Nat} (hx : x < 128) (hk : k ≤ 9) (h9 : k = 9 → x ≤ 1) : x * 2 ^ (7 * k) < 2 ^ 64 := by
  rcases Nat.lt_or_ge k 9 with h | h
  · have h1 : x * 2 ^ (7 * k) < 128 * 2 ^ (7 * k) := Nat.mul_lt_mul_of_pos_right hx (Nat.two_pow_pos _)
    have h2 : 128 * 2 ^ (7 * k) = 2 ^ (7 + 7 * k) := by rw [Nat.pow_add]
    have h3 : 2 ^ (7 + 7 * k) ≤ 2 ^ 64 := Nat.pow_le_pow_right (by decide) (by omega)
    omega
  · have : k = 9 := by omega
    subst this
    have h1 := Nat.mul_le_mul_right (2 ^ (7 * 9)) (h9 rfl)
    have h2 : 1 * 2 ^ (7 * 9) < 2 ^ 64 := by decide
    exact Nat.lt_of_le_of_lt h1 h2
theorem shl_wrap {x k : Nat} (hx : x < 128) (hk : k ≤ 9) (h9 : k = 9 → x ≤ 1) : IntKind.u64.wrap ((x : Int) * 2 ^ min (7 * (k : Int)).toNat 64) = ((x * 2 ^ (7 * k) : Nat) : Int) := by
  have h := shl_fit hx hk h9
  rw [show min (7 * (k : Int)).toNat 64 = 7 * k by omega]
  have e : (x : Int) * 2 ^ (7 * k) = ((x * 2 ^ (7 * k) : Nat) : Int) := by simp
  rw [e]
  exact IntWalk.u64_in _ (by
    have : (2 ^ 64 : Nat) = 18446744073709551616 := by decide
    omega)
theorem or_add {acc x k : Nat} (hacc : acc < 2 ^ (7 * k)) (hx : x < 128) (hk : k ≤ 9) (h9 : k = 9 → x ≤ 1) : bits .or .u64 (acc : Int) ((x * 2 ^ (7 * k) : Nat) : Int) = ((acc + x * 2 ^ (7 * k) : Nat) : Int) := by
  have h := shl_fit hx hk h9
  have e64 : (2 ^ 64 : Nat) = 18446744073709551616 := by decide
  have h2 : 2 ^ (7 * k) ≤ 2 ^ 63 := Nat.pow_le_pow_right (by decide) (by omega)
  have e63 : (2 ^ 63 : Nat) = 9223372036854775808 := by decide
  rw [u64_or_nat acc _ (by omega) (by omega)]
  congr 1
  rw [Nat.or_comm, nat_join (7 * k) _ acc (Nat.mul_mod_left _ _) hacc, Nat.add_comm]
/-- One round of uintG, by cases. -/
theorem uintG_form {k acc : Nat} {l : List UInt8} (hk : k < 10) (hlt : k < l.length) (h : (k = 9 ∧ 1 < l[k].toNat) ∨ (l[k].toNat = 0 ∧ 0 < k)) : uintG (10 - k) k acc (l.drop k) = (0, 0, 6) := by
  rw [List.drop_eq_getElem_cons hlt, show 10 - k = (9 - k) + 1 by omega]
  unfold uintG
  rw [if_pos h]
theorem uintG_done {k acc : Nat} {l : List UInt8} (hk : k < 10) (hlt : k < l.length) (h : ¬ ((k = 9 ∧ 1 < l[k].toNat) ∨ (l[k].toNat = 0 ∧ 0 < k))) (hc : l[k].toNat < 128) : uintG (10 - k) k acc (l.drop k) = (acc + l[k].toNat % 128 * 2 ^ (7 * k), k + 1, 0) := by
  rw [List.drop_eq_getElem_cons hlt, show 10 - k = (9 - k) + 1 by omega]
  unfold uintG
  rw [if_neg h, if_pos hc]
theorem uintG_more {k acc : Nat} {l : List UInt8} (hk : k < 10) (hlt : k < l.length) (h : ¬ ((k = 9 ∧ 1 < l[k].toNat) ∨ (l[k].toNat = 0 ∧ 0 < k))) (hc : ¬ l[k].toNat < 128) : uintG (10 - k) k acc (l.drop k) = uintG (10 - (k + 1)) (k + 1) (acc + l[k].toNat % 128 * 2 ^ (7 * k)) (l.drop (k + 1)) := by
  rw [List.drop_eq_getElem_cons hlt, show 10 - k = (9 - k) + 1 by omega]
  conv => lhs; unfold uintG
  rw [if_neg h, if_neg hc, show 9 - k = 10 - (k + 1) by omega]
theorem uintG_short {k acc : Nat} {l : List UInt8} (hk : k < 10) (hlt : l.length ≤ k) : uintG (10 - k) k acc (l.drop k) = (0, 0, 5) := by
  rw [List.drop_eq_nil_of_le hlt, show 10 - k = (9 - k) + 1 by omega]
  rfl

end Go.Proofs.YtambinjjfapcgaaDoor
