/- Plain words: varints; a process as bytes. No program here. -/
import Derived.Test.YtambinjjfapcgaaDooriSpec
namespace Go.Proofs.YtambinjjfapcgaaDoor

/-- What a varint at the beginning of bytes says: its value, its length, the error. -/
def uintG : Nat → Nat → Nat → List UInt8 → Nat × Nat × Int
  | 0, _, _, _ => (0, 0, 6)
  | _ + 1, _, _, [] => (0, 0, 5)
  | f + 1, i, v, c :: r =>
    if (i = 9 ∧ 1 < c.toNat) ∨ (c.toNat = 0 ∧ 0 < i) then (0, 0, 6)
    else if c.toNat < 128 then (v + c.toNat % 128 * 2 ^ (7 * i), i + 1, 0)
    else uintG f (i + 1) (v + c.toNat % 128 * 2 ^ (7 * i)) r
def uintS (l : List UInt8) : Nat × Nat × Int := uintG 10 0 0 l
/-- The varint of v. -/
def encS (v : Nat) : List UInt8 := if v < 128 then [UInt8.ofNat v] else UInt8.ofNat (v % 128 + 128) :: encS (v / 128)
termination_by v
decreasing_by omega

theorem ofNat_toNat {n : Nat} (h : n < 256) : (UInt8.ofNat n).toNat = n := by
  rw [UInt8.toNat_ofNat']
  exact Nat.mod_eq_of_lt h
theorem encS_small {v : Nat} (h : v < 128) : encS v = [UInt8.ofNat v] := by rw [encS, if_pos h]
theorem encS_big {v : Nat} (h : ¬ v < 128) : encS v = UInt8.ofNat (v % 128 + 128) :: encS (v / 128) := by rw [encS, if_neg h]
theorem encS_ne (v : Nat) : 1 ≤ (encS v).length := by
  by_cases h : v < 128
  · rw [encS_small h]; simp
  · rw [encS_big h]; simp
theorem encS_len : ∀ (k v : Nat), v < 2 ^ (7 * (k + 1)) → (encS v).length ≤ k + 1
  | 0, v, h => by rw [encS_small (by simpa using h)]; simp
  | k + 1, v, h => by
    by_cases h1 : v < 128
    · rw [encS_small h1]; simp
    · rw [encS_big h1, List.length_cons]
      have := encS_len k (v / 128) (by
        rw [Nat.div_lt_iff_lt_mul (by decide)]
        have e : 7 * (k + 1 + 1) = 7 * (k + 1) + 7 := by omega
        rw [e, Nat.pow_add] at h
        exact h)
      omega
theorem uint_enc : ∀ (v i acc : Nat) (tail : List UInt8), i ≤ 9 → v < 2 ^ (64 - 7 * i) → (0 < i → 0 < v) → uintG (10 - i) i acc (encS v ++ tail) = (acc + v * 2 ^ (7 * i), i + (encS v).length, 0)
  | v, i, acc, tail, hi, hv, h0 => by
    obtain ⟨f, hf⟩ : ∃ f, 10 - i = f + 1 := ⟨9 - i, by omega⟩
    by_cases h : v < 128
    · rw [encS_small h, hf]
      show uintG (f + 1) i acc (UInt8.ofNat v :: tail) = _
      unfold uintG
      rw [ofNat_toNat (by omega), if_neg, if_pos h, Nat.mod_eq_of_lt h]
      · rfl
      · rintro (⟨rfl, h2⟩ | ⟨h2, h3⟩)
        · have : v < 2 ^ 1 := hv
          omega
        · have := h0 h3
          omega
    · have hi8 : i ≤ 8 := by
        rcases Nat.lt_or_ge i 9 with h9 | h9
        · omega
        · have : i = 9 := by omega
          subst this
          have : v < 2 ^ 1 := hv
          omega
      rw [encS_big h, hf]
      show uintG (f + 1) i acc (UInt8.ofNat (v % 128 + 128) :: (encS (v / 128) ++ tail)) = _
      unfold uintG
      rw [ofNat_toNat (by omega), if_neg (by omega), if_neg (by omega)]
      have e1 : (v % 128 + 128) % 128 = v % 128 := by omega
      have e2 : f = 10 - (i + 1) := by omega
      have e3 : v / 128 < 2 ^ (64 - 7 * (i + 1)) := by
        rw [Nat.div_lt_iff_lt_mul (by decide)]
        have e : 64 - 7 * i = (64 - 7 * (i + 1)) + 7 := by omega
        rw [e, Nat.pow_add] at hv
        exact hv
      rw [e1, e2, uint_enc (v / 128) (i + 1) _ tail (by omega) e3 (by omega), List.length_cons]
      have e4 : 2 ^ (7 * (i + 1)) = 2 ^ (7 * i) * 128 := by
        rw [show 7 * (i + 1) = 7 * i + 7 by omega, Nat.pow_add]
      rw [e4]
      have e5 : v % 128 * 2 ^ (7 * i) + v / 128 * (2 ^ (7 * i) * 128) = v * 2 ^ (7 * i) := by
        rw [show v / 128 * (2 ^ (7 * i) * 128) = (128 * (v / 128)) * 2 ^ (7 * i) by
          rw [Nat.mul_comm (2 ^ (7 * i)) 128, ← Nat.mul_assoc, Nat.mul_comm (v / 128) 128], ← Nat.add_mul]
        congr 1
        omega
      rw [Nat.add_assoc, e5]
      congr 2
      omega
termination_by v => v
theorem uintS_enc {v : Nat} (h : v < 2 ^ 64) (tail : List UInt8) : uintS (encS v ++ tail) = (v, (encS v).length, 0) := by
  have := uint_enc v 0 0 tail (by omega) h (by omega)
  simpa [uintS] using this
/-- What a varint says lies within its bytes, and below 2^64. -/
theorem uintG_bounds : ∀ (f i v : Nat) (l : List UInt8), f + i = 10 → v < 2 ^ (7 * i) → (uintG f i v l).1 < 2 ^ 64 ∧ ((uintG f i v l).2.2 = 0 → i < (uintG f i v l).2.1 ∧ (uintG f i v l).2.1 ≤ i + l.length ∧ (uintG f i v l).2.1 ≤ 10) ∧ ((uintG f i v l).2.2 = 0 ∨ (uintG f i v l).2.2 = 5 ∨ (uintG f i v l).2.2 = 6)
  | 0, i, v, l, _, _ => by simp [uintG]
  | f + 1, i, v, [], _, _ => by simp [uintG]
  | f + 1, i, v, c :: r, hf, hv => by
    unfold uintG
    split
    · simp
    · next hn =>
      have hlt : v + c.toNat % 128 * 2 ^ (7 * i) < 2 ^ (7 * (i + 1)) := by
        rw [show 7 * (i + 1) = 7 * i + 7 by omega, Nat.pow_add]
        have h1 : c.toNat % 128 ≤ 127 := by omega
        have h2 := Nat.mul_le_mul_right (2 ^ (7 * i)) h1
        omega
      have hlt64 : v + c.toNat % 128 * 2 ^ (7 * i) < 2 ^ 64 := by
        rcases Nat.lt_or_ge i 9 with h9 | h9
        · exact Nat.lt_of_lt_of_le hlt (Nat.pow_le_pow_right (by decide) (by omega))
        · have h9' : i = 9 := by omega
          subst h9'
          have hc1 : c.toNat ≤ 1 := by omega
          have h1 : c.toNat % 128 ≤ 1 := by omega
          have h2 := Nat.mul_le_mul_right (2 ^ (7 * 9)) h1
          have h3 : 2 ^ 64 = 2 ^ (7 * 9) + 2 ^ (7 * 9) := by decide
          omega
      split
      · exact ⟨hlt64, fun _ => ⟨Nat.lt_succ_self _, by simp only [List.length_cons]; omega, by show i + 1 ≤ 10; omega⟩, Or.inl rfl⟩
      · obtain ⟨b1, b2, b3⟩ := uintG_bounds f (i + 1) _ r (by omega) hlt
        exact ⟨b1, fun h => by have := b2 h; simp only [List.length_cons]; omega, b3⟩
theorem uintS_bounds (l : List UInt8) : (uintS l).1 < 2 ^ 64 ∧ ((uintS l).2.2 = 0 → 0 < (uintS l).2.1 ∧ (uintS l).2.1 ≤ l.length ∧ (uintS l).2.1 ≤ 10) ∧ ((uintS l).2.2 = 0 ∨ (uintS l).2.2 = 5 ∨ (uintS l).2.2 = 6) := by
  have := uintG_bounds 10 0 0 l rfl (by decide)
  simpa [uintS] using this

/-- A process at the beginning of bytes. -/
def prc3 (a b c : Nat) (n : Nat) : Pr × Nat × Int := if vpB ⟨a, b, c⟩ = true then (⟨a, b, c⟩, n, 0) else (zeroP, 0, 2)
def procS (l : List UInt8) : Pr × Nat × Int :=
  let u := uintS l
  if u.2.2 ≠ 0 then (zeroP, 0, u.2.2) else
    let v := uintS (l.drop u.2.1)
    if v.2.2 ≠ 0 then (zeroP, 0, v.2.2) else
      let x := uintS (l.drop (u.2.1 + v.2.1))
      if x.2.2 ≠ 0 then (zeroP, 0, x.2.2) else prc3 u.1 v.1 x.1 (u.2.1 + v.2.1 + x.2.1)
/-- The bytes of a valid process. -/
def putP (p : Pr) : List UInt8 := encS p.site.toNat ++ (encS p.inc.toNat ++ encS p.num.toNat)
def putS (p : Pr) : List UInt8 := if vpB p = true then putP p else []
theorem procS_put {p : Pr} (h : vpB p = true) (tail : List UInt8) : procS (putP p ++ tail) = (p, (putP p).length, 0) := by
  obtain ⟨a, b, c, d, e, f⟩ := vpB_iff.1 h
  have h1 := uintS_enc (v := p.site.toNat) (by omega) (encS p.inc.toNat ++ encS p.num.toNat ++ tail)
  have h2 := uintS_enc (v := p.inc.toNat) (by omega) (encS p.num.toNat ++ tail)
  have h3 := uintS_enc (v := p.num.toNat) (by omega) tail
  have e0 : putP p ++ tail = encS p.site.toNat ++ (encS p.inc.toNat ++ encS p.num.toNat ++ tail) := by unfold putP; simp
  have e1 : (putP p ++ tail).drop (encS p.site.toNat).length = encS p.inc.toNat ++ (encS p.num.toNat ++ tail) := by rw [e0, List.drop_left]; simp
  have e2 : (putP p ++ tail).drop ((encS p.site.toNat).length + (encS p.inc.toNat).length) = encS p.num.toNat ++ tail := by rw [← List.drop_drop, e1, List.drop_left]
  rw [← e0] at h1
  rw [← e1] at h2
  rw [← e2] at h3
  unfold procS
  simp only [h1, h2, h3, ne_eq, not_true_eq_false, if_false]
  unfold prc3
  have hp : (⟨(p.site.toNat : Int), (p.inc.toNat : Int), (p.num.toNat : Int)⟩ : Pr) = p := by
    obtain ⟨x, y, z⟩ := p
    simp only [Pr.mk.injEq]
    simp only at a c e
    omega
  rw [hp, if_pos h]
  unfold putP
  simp only [List.length_append, Prod.mk.injEq, true_and, and_true]
  omega
end Go.Proofs.YtambinjjfapcgaaDoor
