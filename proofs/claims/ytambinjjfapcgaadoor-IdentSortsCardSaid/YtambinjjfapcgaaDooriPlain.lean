/- Plain words: numerals, words between points, the text of a process. No program here. -/
import Derived.Lib.Split
import Derived.Lib.AtoiAll
import Derived.Lib.ItoaNum
namespace Go.Proofs.YtambinjjfapcgaaDoor

/-- The number that digits spell. -/
def valD (l : List UInt8) : Nat := l.foldl (fun n c => 10 * n + (c.toNat - 48)) 0
def digB (c : UInt8) : Bool := decide (48 ≤ c.toNat) && decide (c.toNat ≤ 57)
/-- A numeral: digits, one at least, no 0 ahead. -/
def NumOk (l : List UInt8) : Prop := l ≠ [] ∧ (∀ c ∈ l, digB c = true) ∧ (1 < l.length → l.head? ≠ some 48)

theorem head_app {a b : List UInt8} (h : a ≠ []) : (a ++ b).head? = a.head? := by
  rcases a with _ | ⟨x, r⟩
  · exact absurd rfl h
  · rfl
theorem dg_toNat {d : Nat} (h : d < 10) : (UInt8.ofNat (48 + d)).toNat = 48 + d := by
  rw [UInt8.toNat_ofNat']
  omega
theorem digB_of {d : Nat} (h : d < 10) : digB (UInt8.ofNat (48 + d)) = true := by
  unfold digB
  rw [dg_toNat h]
  simp
  omega
theorem valD_snoc (l : List UInt8) (c : UInt8) : valD (l ++ [c]) = 10 * valD l + (c.toNat - 48) := by
  simp [valD]
theorem decDigits_step {u : Nat} (h : ¬ u < 10) : Lib.decDigits u = Lib.decDigits (u / 10) ++ [UInt8.ofNat (48 + u % 10)] := by rw [Lib.decDigits, dif_neg h]
theorem valD_dec : ∀ u : Nat, valD (Lib.decDigits u) = u
  | u => by
    by_cases h : u < 10
    · rw [Lib.decDigits_one h]
      show 10 * 0 + _ = u
      rw [dg_toNat h]
      omega
    · rw [decDigits_step h, valD_snoc, valD_dec (u / 10), dg_toNat (by omega)]
      omega
termination_by u => u
theorem dec_ne (u : Nat) : Lib.decDigits u ≠ [] := by
  by_cases h : u < 10
  · rw [Lib.decDigits_one h]; simp
  · rw [decDigits_step h]; simp
theorem dec_dig : ∀ u : Nat, ∀ c ∈ Lib.decDigits u, digB c = true
  | u => by
    by_cases h : u < 10
    · rw [Lib.decDigits_one h]
      intro c hc
      rw [List.mem_singleton.1 hc]
      exact digB_of h
    · rw [decDigits_step h]
      intro c hc
      rcases List.mem_append.1 hc with hc | hc
      · exact dec_dig (u / 10) c hc
      · rw [List.mem_singleton.1 hc]
        exact digB_of (by omega)
termination_by u => u
theorem dec_head : ∀ u : Nat, u ≠ 0 → (Lib.decDigits u).head? ≠ some 48
  | u, h0 => by
    by_cases h : u < 10
    · rw [Lib.decDigits_one h]
      intro e
      have := congrArg UInt8.toNat (Option.some.inj e)
      rw [dg_toNat h] at this
      simp at this
      omega
    · rw [decDigits_step h, head_app (dec_ne _)]
      exact dec_head (u / 10) (by omega)
termination_by u => u
theorem dec_length_le : ∀ (k u : Nat), u < 10 ^ (k + 1) → (Lib.decDigits u).length ≤ k + 1
  | 0, u, h => by rw [Lib.decDigits_one (by simpa using h)]; simp
  | k + 1, u, h => by
    by_cases h1 : u < 10
    · rw [Lib.decDigits_one h1]; simp
    · rw [decDigits_step h1, List.length_append]
      have := dec_length_le k (u / 10) (by rw [Nat.pow_succ] at h; omega)
      simp only [List.length_cons, List.length_nil]
      omega
theorem dec_ok (u : Nat) : NumOk (Lib.decDigits u) := by
  refine ⟨dec_ne u, dec_dig u, fun h => ?_⟩
  by_cases h0 : u = 0
  · subst h0
    rw [Lib.decDigits_one (by decide)] at h
    simp at h
  · exact dec_head u h0
theorem valD_pos : ∀ (l : List UInt8), l ≠ [] → (∀ c ∈ l, digB c = true) → l.head? ≠ some 48 → 1 ≤ valD l := by
  intro l
  induction h : l.length generalizing l with
  | zero => intro h0; exact absurd (List.length_eq_zero_iff.1 h) h0
  | succ n ih =>
    intro h0 h1 h2
    obtain ⟨r, c, rfl⟩ : ∃ r c, l = r ++ [c] := ⟨l.dropLast, l.getLast h0, (List.dropLast_concat_getLast h0).symm⟩
    rw [valD_snoc]
    by_cases hr : r = []
    · subst hr
      have hc := h1 c (by simp)
      simp only [List.nil_append, List.head?_cons, ne_eq, Option.some.injEq] at h2
      have : c.toNat ≠ 48 := fun e => h2 (UInt8.toNat_inj.1 (by rw [e]; rfl))
      unfold digB at hc
      simp at hc
      omega
    · have := ih r (by simpa using h) hr (fun x hx => h1 x (List.mem_append_left _ hx)) (by rwa [head_app hr] at h2)
      omega
theorem dec_valD : ∀ (l : List UInt8), NumOk l → Lib.decDigits (valD l) = l := by
  intro l
  induction h : l.length generalizing l with
  | zero => intro h0; exact absurd (List.length_eq_zero_iff.1 h) h0.1
  | succ n ih =>
    rintro ⟨h0, h1, h2⟩
    obtain ⟨r, c, rfl⟩ : ∃ r c, l = r ++ [c] := ⟨l.dropLast, l.getLast h0, (List.dropLast_concat_getLast h0).symm⟩
    have hc := h1 c (by simp)
    unfold digB at hc
    simp at hc
    have hcc : UInt8.ofNat (48 + (c.toNat - 48)) = c := UInt8.toNat_inj.1 (by rw [dg_toNat (by omega)]; omega)
    rw [valD_snoc]
    by_cases hr : r = []
    · subst hr
      have : valD [] = 0 := rfl
      rw [this, Lib.decDigits_one (by omega), Nat.mul_zero, Nat.zero_add, hcc]
      rfl
    · have hl : 1 ≤ r.length := by
        rcases r with _ | ⟨a, r⟩
        · exact absurd rfl hr
        · simp
      have hh : r.head? ≠ some 48 := by
        have := h2 (by simp; omega)
        rwa [head_app hr] at this
      have hd : ∀ x ∈ r, digB x = true := fun x hx => h1 x (List.mem_append_left _ hx)
      have hp := valD_pos r hr hd hh
      rw [decDigits_step (by omega), show (10 * valD r + (c.toNat - 48)) / 10 = valD r by omega, show (10 * valD r + (c.toNat - 48)) % 10 = c.toNat - 48 by omega, hcc, ih r (by simpa using h) ⟨hr, hd, fun _ => hh⟩]

/-- Atoi of a numeral. -/
theorem uint_dec : ∀ (l : List UInt8) (acc : Nat), (∀ c ∈ l, digB c = true) → l.foldl (fun n c => 10 * n + (c.toNat - 48)) acc < 1844674407370955161 → Lib.parseUint10 acc l = .ok (l.foldl (fun n c => 10 * n + (c.toNat - 48)) acc)
  | [], acc, _, _ => rfl
  | c :: r, acc, h, hb => by
    have hc := h c (by simp)
    unfold digB at hc
    simp at hc
    have hm : ∀ (l : List UInt8) (a : Nat), a ≤ l.foldl (fun n c => 10 * n + (c.toNat - 48)) a := by
      intro l
      induction l with
      | nil => intro a; exact Nat.le_refl _
      | cons x l ih => intro a; exact Nat.le_trans (by omega) (ih (10 * a + (x.toNat - 48)))
    have h1 := hm r (10 * acc + (c.toNat - 48))
    simp only [List.foldl_cons] at hb ⊢
    rw [Lib.parseUint10, if_pos hc, if_neg (by omega), if_neg (by omega), Nat.mul_comm acc 10]
    exact uint_dec r _ (fun x hx => h x (List.mem_cons_of_mem _ hx)) hb
theorem atoi_dec {u : Nat} (h : u < 100000) : Lib.atoiAll (Lib.decDigits u) = .ok (u : Int) := by
  have hv := valD_dec u
  have hd := dec_dig u
  have hn := dec_ne u
  have hu := uint_dec (Lib.decDigits u) 0 hd (by unfold valD at hv; omega)
  unfold valD at hv
  rw [hv] at hu
  rcases hl : Lib.decDigits u with _ | ⟨c, r⟩
  · exact absurd hl hn
  · rw [hl] at hd hu
    have hc := hd c (by simp)
    unfold digB at hc
    simp at hc
    have hm : Lib.parseMag (if c.toNat = 43 ∨ c.toNat = 45 then r else c :: r) = .ok u := by
      rw [if_neg (by omega)]
      unfold Lib.parseMag
      rw [if_neg (by simp)]
      exact hu
    unfold Lib.atoiAll
    simp only [hm]
    rw [if_neg (by omega), if_neg (by omega), if_neg (by omega)]

/-- The words between the bytes c. -/
def splStep (c : UInt8) (l : List (List UInt8)) (b : UInt8) : List (List UInt8) := if b = c then l ++ [[]] else l.dropLast ++ [l.getLastD [] ++ [b]]
def spl (c : UInt8) (s : List UInt8) : List (List UInt8) := s.foldl (splStep c) [[]]
def joinC (c : UInt8) : List (List UInt8) → List UInt8
  | [] => []
  | [x] => x
  | x :: y :: l => x ++ c :: joinC c (y :: l)
theorem joinC_snoc (c : UInt8) : ∀ (l : List (List UInt8)) (x : List UInt8), l ≠ [] → joinC c (l ++ [x]) = joinC c l ++ c :: x
  | [], _, h => absurd rfl h
  | [a], x, _ => rfl
  | a :: b :: l, x, _ => by
    have ih := joinC_snoc c (b :: l) x (by simp)
    show a ++ c :: joinC c (b :: l ++ [x]) = a ++ c :: joinC c (b :: l) ++ c :: x
    rw [ih]
    simp
theorem joinC_last (c b : UInt8) : ∀ (l : List (List UInt8)), l ≠ [] → joinC c (l.dropLast ++ [l.getLastD [] ++ [b]]) = joinC c l ++ [b]
  | [], h => absurd rfl h
  | [a], _ => rfl
  | a :: y :: l, _ => by
    have ih := joinC_last c b (y :: l) (by simp)
    have e : (a :: y :: l).dropLast ++ [(a :: y :: l).getLastD [] ++ [b]] = a :: ((y :: l).dropLast ++ [(y :: l).getLastD [] ++ [b]]) := rfl
    rw [e]
    obtain ⟨z, t, hz⟩ : ∃ z t, (y :: l).dropLast ++ [(y :: l).getLastD [] ++ [b]] = z :: t := by
      rcases h : (y :: l).dropLast ++ [(y :: l).getLastD [] ++ [b]] with _ | ⟨z, t⟩
      · simp at h
      · exact ⟨z, t, rfl⟩
    rw [hz] at ih ⊢
    show a ++ c :: joinC c (z :: t) = a ++ c :: joinC c (y :: l) ++ [b]
    rw [ih]
    simp
theorem splStep_ne (c b : UInt8) (l : List (List UInt8)) : splStep c l b ≠ [] := by
  unfold splStep
  split <;> simp
theorem splStep_join (c b : UInt8) (l : List (List UInt8)) (h : l ≠ []) : joinC c (splStep c l b) = joinC c l ++ [b] := by
  unfold splStep
  split
  · next e => rw [joinC_snoc c l [] h, e]
  · exact joinC_last c b l h
theorem spl_snoc (c b : UInt8) (s : List UInt8) : spl c (s ++ [b]) = splStep c (spl c s) b := by
  unfold spl
  rw [List.foldl_append]
  rfl
theorem spl_join (c : UInt8) (s : List UInt8) : spl c s ≠ [] ∧ joinC c (spl c s) = s := by
  have : ∀ (s : List UInt8) (l : List (List UInt8)), l ≠ [] → s.foldl (splStep c) l ≠ [] ∧ joinC c (s.foldl (splStep c) l) = joinC c l ++ s := by
    intro s
    induction s with
    | nil => intro l h; exact ⟨h, by simp⟩
    | cons b r ih =>
      intro l h
      obtain ⟨i1, i2⟩ := ih (splStep c l b) (splStep_ne c b l)
      refine ⟨i1, ?_⟩
      rw [List.foldl_cons, i2, splStep_join c b l h]
      simp
  obtain ⟨h1, h2⟩ := this s [[]] (by simp)
  exact ⟨h1, h2⟩
theorem fold_word (c : UInt8) : ∀ (a : List UInt8) (l : List (List UInt8)) (x : List UInt8), c ∉ a → a.foldl (splStep c) (l ++ [x]) = l ++ [x ++ a]
  | [], l, x, _ => by simp
  | b :: r, l, x, h => by
    rw [List.foldl_cons]
    have e : splStep c (l ++ [x]) b = l ++ [x ++ [b]] := by
      unfold splStep
      rw [if_neg (fun e => h (by rw [e]; simp)), List.dropLast_concat, List.getLastD_concat]
    rw [e, fold_word c r l (x ++ [b]) (fun hm => h (List.mem_cons_of_mem _ hm))]
    simp
theorem spl_three (c : UInt8) (x y z : List UInt8) (hx : c ∉ x) (hy : c ∉ y) (hz : c ∉ z) : spl c (x ++ c :: (y ++ c :: z)) = [x, y, z] := by
  unfold spl
  have e : ∀ l : List (List UInt8), splStep c l c = l ++ [[]] := fun l => by unfold splStep; rw [if_pos rfl]
  have f1 := fold_word c x [] [] hx
  have f2 := fold_word c y [x] [] hy
  have f3 := fold_word c z [x, y] [] hz
  simp only [List.nil_append, List.cons_append] at f1 f2 f3
  rw [List.foldl_append, f1, List.foldl_cons, e, List.foldl_append]
  simp only [List.cons_append, List.nil_append]
  rw [f2, List.foldl_cons, e]
  simp only [List.cons_append, List.nil_append]
  exact f3

/-- The library's split at one byte. -/
theorem occ_one (c : UInt8) (s : List UInt8) (i : Nat) : Lib.occAt s [c] i = (s[i]? == some c) := by
  unfold Lib.occAt
  rw [← List.head?_drop]
  rcases s.drop i with _ | ⟨b, r⟩
  · simp
  · show (c == b && true) = (b == c)
    rw [Bool.and_true, Bool.beq_comm]
theorem index_hit (c : UInt8) (x r : List UInt8) (hx : c ∉ x) : Lib.index (x ++ c :: r) [c] = x.length := by
  refine Lib.index_first (by simp) (by rw [occ_one]; simp) fun j hj => ?_
  rw [occ_one, List.getElem?_append_left hj, List.getElem?_eq_getElem hj, beq_eq_false_iff_ne]
  intro e
  exact hx (by rw [← Option.some.inj e]; exact List.getElem_mem hj)
theorem index_miss (c : UInt8) (x : List UInt8) (hx : c ∉ x) : Lib.index x [c] = -1 := by
  refine Lib.index_none fun j hj => ?_
  rw [occ_one, beq_eq_false_iff_ne]
  intro e
  exact hx (List.mem_of_getElem? e)
theorem splitK_hit (c : UInt8) (k : Nat) (x r : List UInt8) (hx : c ∉ x) : Lib.splitK [c] 0 (k + 1) (x ++ c :: r) = x :: Lib.splitK [c] 0 k r := by
  rw [Lib.splitK, index_hit c x r hx, if_neg (by simp)]
  simp
theorem splitK_miss (c : UInt8) (k : Nat) (x : List UInt8) (hx : c ∉ x) : Lib.splitK [c] 0 k x = [x] := by
  cases k with
  | zero => rfl
  | succ k => rw [Lib.splitK, index_miss c x hx, if_pos (by decide)]
theorem splitK_three (c : UInt8) (x y z : List UInt8) (hx : c ∉ x) (hy : c ∉ y) (hz : c ∉ z) : Lib.splitK [c] 0 3 (x ++ c :: (y ++ c :: z)) = [x, y, z] := by
  rw [splitK_hit c 2 x _ hx, splitK_hit c 1 y _ hy, splitK_miss c 1 z hz]
end Go.Proofs.YtambinjjfapcgaaDoor
