/- Plain words: the orders of processes and stamps, Merge, Next. No program here. -/
import Derived.Test.YtambinjjfapcgaaDooriSpec
namespace Go.Proofs.YtambinjjfapcgaaDoor

theorem ordI_cases (a b : Int) : (a < b ∧ ordI a b = -1) ∨ (a = b ∧ ordI a b = 0) ∨ (b < a ∧ ordI a b = 1) := by
  unfold ordI
  split
  · exact Or.inl ⟨by assumption, rfl⟩
  · split
    · exact Or.inr (Or.inr ⟨by assumption, rfl⟩)
    · exact Or.inr (Or.inl ⟨by omega, rfl⟩)
def LtP (p q : Pr) : Prop := p.site < q.site ∨ p.site = q.site ∧ (p.inc < q.inc ∨ p.inc = q.inc ∧ p.num < q.num)
theorem cmpP_cases (p q : Pr) : (LtP p q ∧ cmpP p q = -1) ∨ (p = q ∧ cmpP p q = 0) ∨ (LtP q p ∧ cmpP p q = 1) := by
  unfold cmpP LtP
  rcases ordI_cases p.site q.site with ⟨h, e⟩ | ⟨h, e⟩ | ⟨h, e⟩ <;> rw [e]
  · exact Or.inl ⟨Or.inl h, rfl⟩
  · rw [if_neg (by decide)]
    rcases ordI_cases p.inc q.inc with ⟨h2, e⟩ | ⟨h2, e⟩ | ⟨h2, e⟩ <;> rw [e]
    · exact Or.inl ⟨Or.inr ⟨h, Or.inl h2⟩, rfl⟩
    · rw [if_neg (by decide)]
      rcases ordI_cases p.num q.num with ⟨h3, e⟩ | ⟨h3, e⟩ | ⟨h3, e⟩ <;> rw [e]
      · exact Or.inl ⟨Or.inr ⟨h, Or.inr ⟨h2, h3⟩⟩, rfl⟩
      · refine Or.inr (Or.inl ⟨?_, rfl⟩)
        cases p; cases q
        simp_all
      · exact Or.inr (Or.inr ⟨Or.inr ⟨h.symm, Or.inr ⟨h2.symm, h3⟩⟩, rfl⟩)
    · exact Or.inr (Or.inr ⟨Or.inr ⟨h.symm, Or.inl h2⟩, rfl⟩)
  · exact Or.inr (Or.inr ⟨Or.inl h, rfl⟩)
theorem LtP_irrefl (p : Pr) : ¬ LtP p p := by
  unfold LtP
  omega
theorem LtP_trans {p q r : Pr} (h1 : LtP p q) (h2 : LtP q r) : LtP p r := by
  unfold LtP at *
  omega
theorem LtP_asymm {p q : Pr} (h1 : LtP p q) : ¬ LtP q p := fun h2 => LtP_irrefl p (LtP_trans h1 h2)
theorem cmpP_neg (p q : Pr) : cmpP p q = -cmpP q p := by
  rcases cmpP_cases p q with ⟨h, e⟩ | ⟨h, e⟩ | ⟨h, e⟩ <;> rcases cmpP_cases q p with ⟨h', e'⟩ | ⟨h', e'⟩ | ⟨h', e'⟩ <;> rw [e, e']
  · exact absurd h' (LtP_asymm h)
  · subst h'; exact absurd h (LtP_irrefl _)
  · subst h; exact absurd h' (LtP_irrefl _)
  · rfl
  · subst h; exact absurd h' (LtP_irrefl _)
  · rfl
  · subst h'; exact absurd h (LtP_irrefl _)
  · exact absurd h' (LtP_asymm h)
theorem cmpP_zero (p q : Pr) : cmpP p q = 0 ↔ p = q := by
  rcases cmpP_cases p q with ⟨h, e⟩ | ⟨h, e⟩ | ⟨h, e⟩ <;> rw [e]
  · exact ⟨fun c => absurd c (by decide), fun c => absurd h (by rw [c]; exact LtP_irrefl _)⟩
  · exact ⟨fun _ => h, fun _ => rfl⟩
  · exact ⟨fun c => absurd c (by decide), fun c => absurd h (by rw [c]; exact LtP_irrefl _)⟩
theorem cmpP_le {p q r : Pr} (h1 : ¬ 0 < cmpP p q) (h2 : ¬ 0 < cmpP q r) : cmpP p r ≤ 0 := by
  rcases cmpP_cases p q with ⟨a, e⟩ | ⟨rfl, e⟩ | ⟨a, e⟩
  · rcases cmpP_cases q r with ⟨b, e'⟩ | ⟨rfl, e'⟩ | ⟨b, e'⟩
    · rcases cmpP_cases p r with ⟨c, e''⟩ | ⟨c, e''⟩ | ⟨c, e''⟩
      · omega
      · omega
      · exact absurd c (LtP_asymm (LtP_trans a b))
    · omega
    · omega
  · omega
  · omega
theorem cmpP_ge {p q r : Pr} (h1 : ¬ cmpP p q < 0) (h2 : ¬ cmpP q r < 0) : 0 ≤ cmpP p r := by
  have := cmpP_le (p := r) (q := q) (r := p) (by rw [cmpP_neg]; omega) (by rw [cmpP_neg]; omega)
  rw [cmpP_neg] at this
  omega
theorem nextS_ok (n : Int) : 1 ≤ nextS n ∧ nextS n ≤ 1073741824 ∧ nextS n ≠ n := by
  unfold nextS
  split <;> omega
theorem mergeS_ok {s t : St} (h : (mergeS s t).2 = 0) : cmpT (mergeS s t).1 s = 1 ∧ cmpT (mergeS s t).1 t = 1 := by
  unfold mergeS at h ⊢
  split at h
  · split at h
    · exact absurd h (by decide)
    · next h1 h2 =>
      rw [if_pos h1, if_neg h2]
      have e1 : ordI (max s.time t.time + 1) s.time = 1 := by
        rcases ordI_cases (max s.time t.time + 1) s.time with ⟨a, e⟩ | ⟨a, e⟩ | ⟨a, e⟩
        · omega
        · omega
        · exact e
      have e2 : ordI (max s.time t.time + 1) t.time = 1 := by
        rcases ordI_cases (max s.time t.time + 1) t.time with ⟨a, e⟩ | ⟨a, e⟩ | ⟨a, e⟩
        · omega
        · omega
        · exact e
      unfold cmpT
      rw [e1, e2]
      exact ⟨rfl, rfl⟩
  · exact absurd h (by decide)
end Go.Proofs.YtambinjjfapcgaaDoor
