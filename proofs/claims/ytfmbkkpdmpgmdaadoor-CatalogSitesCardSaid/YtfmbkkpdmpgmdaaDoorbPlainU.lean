/- Plain laws: Remove undoes Insert. -/
import Derived.Test.YtfmbkkpdmpgmdaaDoorbSpec
namespace Go.Proofs.YtfmbkkpdmpgmdaaDoor

theorem sorted_iff {l : Ct} : Sorted l ↔ l.Pairwise (fun a b => a.key < b.key) := by
  rw [List.pairwise_iff_getElem]
  constructor
  · intro h i j hi hj hij
    exact h.lt j i hj hij
  · intro h i hi
    exact h i (i + 1) (by omega) hi (by omega)
theorem vcat_iff {l : Ct} : VCat l ↔ l.length ≤ 8 ∧ (∀ x ∈ l, resB x = true) ∧ l.Pairwise (fun a b => a.key < b.key) := by
  unfold VCat
  rw [sorted_iff]
  constructor
  · rintro ⟨h1, h2, h3⟩
    refine ⟨h1, fun x hx => ?_, h3⟩
    obtain ⟨i, hi, rfl⟩ := List.mem_iff_getElem.1 hx
    exact h2 i hi
  · rintro ⟨h1, h2, h3⟩
    exact ⟨h1, fun i hi => h2 _ (List.getElem_mem hi), h3⟩
theorem exists_place {l : Ct} (hs : Sorted l) (n : Bs) : ∀ m, m ≤ l.length → ∃ k, k ≤ m ∧ (∀ t (h : t < l.length), t < k → l[t].key < n) ∧ (∀ t (h : t < l.length), k ≤ t → t < m → ¬ l[t].key < n) := by
  intro m
  induction m with
  | zero => intro _; exact ⟨0, by omega, fun _ _ h => absurd h (by omega), fun _ _ _ h => absurd h (by omega)⟩
  | succ m ih =>
    intro hm
    obtain ⟨k, hk, h1, h2⟩ := ih (by omega)
    by_cases hlt : l[m].key < n
    · refine ⟨m + 1, by omega, fun t ht htm => ?_, fun t _ h3 h4 => absurd h4 (by omega)⟩
      rcases Nat.lt_or_ge t m with h5 | h5
      · exact List.lt_trans (hs.lt m t (by omega) h5) hlt
      · obtain rfl : t = m := by omega
        exact hlt
    · refine ⟨k, by omega, h1, fun t ht h3 h4 => ?_⟩
      rcases Nat.lt_or_ge t m with h5 | h5
      · exact h2 t ht h3 h5
      · obtain rfl : t = m := by omega
        exact hlt
theorem split_eq {l : Ct} (hs : Sorted l) (n : Bs) : l.filter (fun x => decide (x.key < n)) ++ l.filter (fun x => !decide (x.key < n)) = l := by
  obtain ⟨k, hk, h1, h2⟩ := exists_place hs n l.length (Nat.le_refl _)
  obtain ⟨i1, i2⟩ := filter_split (p := fun x => decide (x.key < n)) hk (fun t h ht => decide_eq_true (h1 t h ht)) (fun t h ht => decide_eq_false (h2 t h ht h))
  rw [i1, i2, List.take_append_drop]
theorem findR_none {l : Ct} {n : ByteArray} (h : ¬ (findR l n).isSome = true) : ∀ x ∈ l, x.key ≠ n.toList := by
  intro x hx he
  obtain ⟨i, hi, rfl⟩ := List.mem_iff_getElem.1 hx
  exact h (findR_isSome.2 ⟨i, hi, he⟩)

/-- What Insert has made, where it made it. -/
theorem ins_props {l x : Ct} {r : Rs} (h : insS l r = (0, x)) : VCat l ∧ VCat x ∧ x.length = l.length + 1 ∧ findR x r.name = some r ∧ remS x r.name = (0, l) := by
  unfold insS at h
  split at h
  case isFalse => simp at h
  rename_i hv
  split at h
  case isFalse => simp at h
  split at h
  case isFalse => simp at h
  rename_i hr
  split at h
  case isTrue => simp at h
  rename_i hn
  split at h
  case isTrue => simp at h
  rename_i h8
  simp only [Prod.mk.injEq, true_and] at h
  subst h
  have hne := findR_none hn
  obtain ⟨h1, h2, h3⟩ := vcat_iff.1 hv
  have hgt : ∀ y ∈ l.filter (fun x => !decide (x.key < r.key)), r.key < y.key := by
    intro y hy
    obtain ⟨hy1, hy2⟩ := List.mem_filter.1 hy
    exact lt_of_not (by simpa using hy2) (hne y hy1)
  have hlt : ∀ y ∈ l.filter (fun x => decide (x.key < r.key)), y.key < r.key := by
    intro y hy
    obtain ⟨hy1, hy2⟩ := List.mem_filter.1 hy
    simpa using hy2
  have hvx : VCat (insL l r) := by
    rw [vcat_iff]
    refine ⟨by rw [insL_length]; omega, ?_, ?_⟩
    · intro y hy
      unfold insL at hy
      rw [List.mem_append, List.mem_cons] at hy
      rcases hy with hy | rfl | hy
      · exact h2 y (List.mem_filter.1 hy).1
      · exact hr
      · exact h2 y (List.mem_filter.1 hy).1
    · unfold insL
      rw [List.pairwise_append, List.pairwise_cons]
      refine ⟨h3.filter _, ⟨hgt, h3.filter _⟩, fun a ha b hb => ?_⟩
      rcases List.mem_cons.1 hb with rfl | hb
      · exact hlt a ha
      · exact List.lt_trans (hlt a ha) (hgt b hb)
  have hfind : findR (insL l r) r.name = some r := by
    unfold findR insL
    rw [List.find?_append]
    have : (l.filter (fun x => decide (x.key < r.key))).find? (fun x => x.name.toList == r.name.toList) = none := by
      rw [List.find?_eq_none]
      intro y hy he
      exact hne y (List.mem_filter.1 hy).1 (beq_iff_eq.1 he)
    rw [this]
    simp
  refine ⟨hv, hvx, insL_length, hfind, ?_⟩
  unfold remS
  rw [if_pos hvx, if_pos (by rw [hfind]; rfl)]
  have hrem : remL (insL l r) r.name.toList = l := by
    unfold remL insL
    rw [List.filter_append, List.filter_cons_of_neg (by simp [Rs.key])]
    have k1 : (l.filter (fun x => decide (x.key < r.key))).filter (fun x => !(x.key == r.name.toList)) = l.filter (fun x => decide (x.key < r.key)) := by
      rw [List.filter_eq_self]
      intro y hy
      simp only [Bool.not_eq_true', beq_eq_false_iff_ne]
      exact hne y (List.mem_filter.1 hy).1
    have k2 : (l.filter (fun x => !decide (x.key < r.key))).filter (fun x => !(x.key == r.name.toList)) = l.filter (fun x => !decide (x.key < r.key)) := by
      rw [List.filter_eq_self]
      intro y hy
      simp only [Bool.not_eq_true', beq_eq_false_iff_ne]
      exact hne y (List.mem_filter.1 hy).1
    rw [k1, k2]
    exact split_eq hv.2.2 r.key
  rw [hrem]
theorem ins_none {l x : Ct} {r : Rs} {er : Int} (h : insS l r = (er, x)) (he : er ≠ 0) : x = [] := by
  unfold insS at h
  repeat' split at h
  all_goals first
    | (simp only [Prod.mk.injEq] at h; exact h.2.symm)
    | (simp only [Prod.mk.injEq] at h; exact absurd h.1.symm he)
theorem ins_len {l : Ct} {r : Rs} : (insS l r).2.length ≤ 9 := by
  unfold insS
  split
  · rename_i hv
    have := hv.1
    split <;> (try split) <;> (try split) <;> (try split) <;> simp [insL_length] <;> omega
  · simp
theorem remL_length {l : Ct} {n : Bs} : (remL l n).length ≤ l.length := List.length_filter_le _ _
end Go.Proofs.YtfmbkkpdmpgmdaaDoor
