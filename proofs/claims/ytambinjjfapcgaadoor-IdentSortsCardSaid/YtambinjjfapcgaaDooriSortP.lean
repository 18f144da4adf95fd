/- Plain words: a sorted list without its repetitions. No program here. -/
import Derived.Test.YtambinjjfapcgaaDooriPlainO
import Derived.Lib.SlicesCompact
import Derived.Sort.LotA
namespace Go.Proofs.YtambinjjfapcgaaDoor

instance : Inhabited Pr := ⟨zeroP⟩
theorem LtP_tri (p q : Pr) : LtP p q ∨ p = q ∨ LtP q p := by
  rcases cmpP_cases p q with ⟨h, _⟩ | ⟨h, _⟩ | ⟨h, _⟩
  · exact Or.inl h
  · exact Or.inr (Or.inl h)
  · exact Or.inr (Or.inr h)
theorem cmpP_lt (p q : Pr) : cmpP p q < 0 ↔ LtP p q := by
  rcases cmpP_cases p q with ⟨h, e⟩ | ⟨h, e⟩ | ⟨h, e⟩ <;> rw [e]
  · exact ⟨fun _ => h, fun _ => by decide⟩
  · subst h; exact ⟨fun c => absurd c (by decide), fun c => absurd c (LtP_irrefl _)⟩
  · exact ⟨fun c => absurd c (by decide), fun c => absurd h (LtP_asymm c)⟩
/-- Ascending, each once. -/
def Asc (l : List Pr) : Prop := l.Pairwise LtP
theorem compact_mem (d : Array Pr) : ∀ m x, x ∈ Go.Lib.compactUpTo d m ↔ ∃ j, j < m ∧ d[j]! = x
  | 0, x => by simp [Go.Lib.compactUpTo]
  | m + 1, x => by
    rw [Go.Lib.compactUpTo_succ, List.mem_append, compact_mem d m x]
    by_cases h : Go.Lib.keeps d m = true
    · rw [if_pos h, List.mem_singleton]
      constructor
      · rintro (⟨j, hj, e⟩ | e)
        · exact ⟨j, by omega, e⟩
        · exact ⟨m, by omega, e.symm⟩
      · rintro ⟨j, hj, e⟩
        rcases Nat.lt_or_ge j m with h1 | h1
        · exact Or.inl ⟨j, h1, e⟩
        · have : j = m := by omega
          subst this
          exact Or.inr e.symm
    · rw [if_neg h]
      have hk : ¬ (m = 0 ∨ d[m]! ≠ d[m - 1]!) := by simpa [Go.Lib.keeps] using h
      have h0 : m ≠ 0 := fun e => hk (Or.inl e)
      have he : d[m]! = d[m - 1]! := Classical.byContradiction fun e => hk (Or.inr e)
      constructor
      · rintro (⟨j, hj, e⟩ | e)
        · exact ⟨j, by omega, e⟩
        · cases e
      · rintro ⟨j, hj, e⟩
        rcases Nat.lt_or_ge j m with h1 | h1
        · exact Or.inl ⟨j, h1, e⟩
        · have : j = m := by omega
          subst this
          exact Or.inl ⟨j - 1, by omega, he.symm.trans e⟩
theorem compact_asc (d : Array Pr) (hs : ∀ i j, i < j → j < d.size → ¬ LtP d[j]! d[i]!) : ∀ m, m ≤ d.size → Asc (Go.Lib.compactUpTo d m)
  | 0, _ => by simp [Go.Lib.compactUpTo, Asc]
  | m + 1, hm => by
    have ih := compact_asc d hs m (by omega)
    rw [Go.Lib.compactUpTo_succ]
    by_cases h : Go.Lib.keeps d m = true
    · rw [if_pos h]
      unfold Asc at *
      rw [List.pairwise_append]
      refine ⟨ih, by simp, fun x hx y hy => ?_⟩
      rw [List.mem_singleton.1 hy]
      obtain ⟨j, hj, rfl⟩ := (compact_mem d m x).1 hx
      have hk : m = 0 ∨ d[m]! ≠ d[m - 1]! := by simpa [Go.Lib.keeps] using h
      have hne : d[m]! ≠ d[m - 1]! := hk.resolve_left (by omega)
      rcases LtP_tri d[j]! d[m]! with h1 | h1 | h1
      · exact h1
      · exfalso
        have a1 : ¬ LtP d[m]! d[m - 1]! := hs (m - 1) m (by omega) (by omega)
        rcases Nat.lt_or_ge j (m - 1) with h2 | h2
        · have a2 := hs j (m - 1) h2 (by omega)
          rw [h1] at a2
          rcases LtP_tri d[m]! d[m - 1]! with h3 | h3 | h3
          · exact a1 h3
          · exact hne h3
          · exact a2 h3
        · have : j = m - 1 := by omega
          subst this
          exact hne h1.symm
      · exact absurd h1 (hs j m hj (by omega))
    · rw [if_neg h, List.append_nil]
      exact ih
/-- What SortProcs makes of a list. -/
def sortS (l : List Pr) : List Pr := Go.Lib.compact (l.mergeSort fun x y => !decide (cmpP y x < 0))
theorem sortS_mem (l : List Pr) (x : Pr) : x ∈ sortS l ↔ x ∈ l := by
  unfold sortS Go.Lib.compact
  rw [compact_mem]
  have hp := List.mergeSort_perm l fun x y => !decide (cmpP y x < 0)
  rw [← hp.mem_iff]
  constructor
  · rintro ⟨j, hj, rfl⟩
    rw [getElem!_pos _ j (by simpa using hj)]
    simp
  · intro h
    obtain ⟨j, hj, rfl⟩ := List.getElem_of_mem h
    exact ⟨j, hj, by rw [getElem!_pos _ j (by simpa using hj)]; simp⟩
theorem sortS_asc (l : List Pr) : Asc (sortS l) := by
  unfold sortS Go.Lib.compact
  have hp : (l.mergeSort fun x y => !decide (cmpP y x < 0)).Pairwise fun x y => (!decide (cmpP y x < 0)) = true := by
    apply List.pairwise_mergeSort
    · intro a b c h1 h2
      simp only [Bool.not_eq_true', decide_eq_false_iff_not, cmpP_lt] at *
      intro h3
      rcases LtP_tri b c with h | h | h
      · exact h1 (LtP_trans h h3)
      · subst h; exact h1 h3
      · exact h2 h
    · intro a b
      simp only [Bool.or_eq_true, Bool.not_eq_true', decide_eq_false_iff_not, cmpP_lt]
      rcases LtP_tri a b with h | h | h
      · exact Or.inl (LtP_asymm h)
      · subst h; exact Or.inl (LtP_irrefl _)
      · exact Or.inr (LtP_asymm h)
  generalize (l.mergeSort fun x y => !decide (cmpP y x < 0)) = M at *
  refine compact_asc _ ?_ _ (by simp)
  intro i j hij hj
  have hj' : j < M.length := by simpa using hj
  rw [getElem!_pos _ j hj, getElem!_pos _ i (by omega)]
  have := List.pairwise_iff_getElem.1 hp i j (by omega) hj' hij
  simp only [Bool.not_eq_true', decide_eq_false_iff_not, cmpP_lt] at this
  simpa using this
theorem sortS_len (l : List Pr) : (sortS l).length ≤ l.length := by
  unfold sortS Go.Lib.compact Go.Lib.compactUpTo
  rw [List.length_map]
  refine Nat.le_trans (List.length_filter_le _ _) ?_
  simp
end Go.Proofs.YtambinjjfapcgaaDoor
