/- Plain laws: what a graph says where everybody waits for all, or for one; fewer successors. -/
import Derived.Test.YtgdeekghngpcfaaPlainF
import Derived.Test.YtgdeekghngpcfaaMade
import Derived.Test.YtgdeekghngpcfaarKnots
namespace Go.Proofs.Ytgdeekghngpcfaa

theorem Reach1.range {g : Gr} (hv : ValidG g) {x y : Int} (h : Reach1 (succs g) x y) (hx : InR g.length x) : InR g.length y := by
  induction h with
  | one h => exact hv.range _ hx _ h
  | more _ h ih => exact hv.range _ ih _ h
theorem reach_trans {adj : Int → List Int} {x y z : Int} (h : Reach1 adj x y) (h' : Reach1 adj y z) : Reach1 adj x z := by
  induction h' with
  | one h2 => exact .more h h2
  | more _ h2 ih => exact .more ih h2

/-- A set from each of whose nodes a step leads back into it holds a way to a cycle. -/
theorem cycle_in {g : Gr} (hv : ValidG g) {S : Int → Prop} (hs : ∀ x, InR g.length x → S x → ∃ y, y ∈ succs g x ∧ S y) {x : Int} (hx : InR g.length x) (hSx : S x) :
    ∃ y, (y = x ∨ Reach1 (succs g) x y) ∧ Reach1 (succs g) y y := by
  have step : ∀ z : Int, ∃ y : Int, InR g.length z ∧ S z → y ∈ succs g z ∧ S y := fun z => by
    by_cases h : InR g.length z ∧ S z
    · obtain ⟨y, h1, h2⟩ := hs z h.1 h.2
      exact ⟨y, fun _ => ⟨h1, h2⟩⟩
    · exact ⟨0, fun h' => absurd h' h⟩
  obtain ⟨nx, hnx⟩ := Classical.axiomOfChoice step
  let f : Nat → Int := fun k => Nat.rec x (fun _ z => nx z) k
  have hf : ∀ k, InR g.length (f k) ∧ S (f k) := by
    intro k
    induction k with
    | zero => exact ⟨hx, hSx⟩
    | succ k ih =>
      obtain ⟨h1, h2⟩ := hnx (f k) ih
      exact ⟨hv.range _ ih.1 _ h1, h2⟩
  have hstep : ∀ k, f (k + 1) ∈ succs g (f k) := fun k => (hnx (f k) (hf k)).1
  have hpath : ∀ d k, Reach1 (succs g) (f k) (f (k + d + 1)) := by
    intro d
    induction d with
    | zero => intro k; exact .one (hstep k)
    | succ d ih => intro k; exact .more (ih k) (hstep (k + d + 1))
  obtain ⟨i, j, hij, _, he⟩ := pigeon g.length (fun k => (f k).toNat) (fun k _ => by have h1 := (hf k).1.1; have h2 := (hf k).1.2; show (f k).toNat < g.length; omega)
  have hfe : f i = f j := by have h1 := (hf i).1.1; have h2 := (hf j).1.1; have h3 : (f i).toNat = (f j).toNat := he; omega
  have hcy : Reach1 (succs g) (f i) (f i) := by
    have := hpath (j - i - 1) i
    rwa [show i + (j - i - 1) + 1 = j by omega, ← hfe] at this
  refine ⟨f i, ?_, hcy⟩
  cases i with
  | zero => exact .inl rfl
  | succ i =>
    refine .inr ?_
    have := hpath i 0
    rwa [Nat.zero_add] at this

theorem cntD_all {g : Gr} {d : Int → Bool} {x : Int} : cntD g d x = (succs g x).length ↔ ∀ y ∈ succs g x, d y = true := by
  unfold cntD
  rw [List.countP_eq_length]

/-- Where everybody waits for all, a node is stuck just if it is on a cycle or reaches one. -/
theorem stuck_and {g : Gr} (hv : ValidG g) (hall : ∀ x, InR g.length x → kOf g x = (succs g x).length) {x : Int} (hx : InR g.length x) :
    IsStuck g x ↔ Reach1 (succs g) x x ∨ ∃ y, Reach1 (succs g) x y ∧ Reach1 (succs g) y y := by
  constructor
  · rintro ⟨S, hS, hk⟩
    obtain ⟨y, h1, h2⟩ := cycle_in hv (S := fun z => S z = true) (fun z hz hSz => by
      have h3 := hk z hz hSz
      rw [hall z hz] at h3
      have h4 : ¬ ∀ y ∈ succs g z, (!S y) = true := fun h => by
        have := (cntD_all (d := fun y => !S y)).2 h
        omega
      obtain ⟨y, hy⟩ := Classical.not_forall.1 h4
      obtain ⟨hy1, hy2⟩ := Classical.not_imp.1 hy
      exact ⟨y, hy1, by simpa using hy2⟩) hx hS
    rcases h1 with rfl | h1
    · exact .inl h2
    · exact .inr ⟨y, h1, h2⟩
  · intro h
    have key : ∃ y, (y = x ∨ Reach1 (succs g) x y) ∧ Reach1 (succs g) y y := by
      rcases h with h | ⟨y, h1, h2⟩
      · exact ⟨x, .inl rfl, h⟩
      · exact ⟨y, .inr h1, h2⟩
    obtain ⟨c, hc1, hc2⟩ := key
    have hdec : ∀ z, Decidable (z = c ∨ Reach1 (succs g) z c) := fun z => Classical.propDecidable _
    refine ⟨fun z => @decide (z = c ∨ Reach1 (succs g) z c) (hdec z), ?_, fun y hy hSy => ?_⟩
    · refine @decide_eq_true _ (hdec x) ?_
      rcases hc1 with rfl | h
      · exact .inl rfl
      · exact .inr h
    · have hy2 : Reach1 (succs g) y c := by
        rcases @of_decide_eq_true _ (hdec y) hSy with rfl | h
        · exact hc2
        · exact h
      rw [hall y hy]
      have hlt : ¬ cntD g (fun z => !@decide (z = c ∨ Reach1 (succs g) z c) (hdec z)) y = (succs g y).length := fun e => by
        have h2 := cntD_all.1 e
        cases hp : hy2 with
        | one hm =>
          have := h2 c hm
          simp at this
        | more h3 hm =>
          -- the first step of a path from y to c
          obtain ⟨k, hk1, hkp⟩ := reach_pth hy2
          cases hkp with
          | nil => omega
          | @cons k _ z _ hm2 hp2 =>
            have h4 := h2 z hm2
            have h5 : z = c ∨ Reach1 (succs g) z c := by
              cases hp2 with
              | nil => exact .inl rfl
              | cons a b => exact .inr (pth_reach (.cons a b) (by omega))
            rw [@decide_eq_true _ (hdec z) h5] at h4
            cases h4
      have hle : cntD g (fun z => !@decide (z = c ∨ Reach1 (succs g) z c) (hdec z)) y ≤ (succs g y).length := List.countP_le_length
      have hfin : ((cntD g (fun z => !@decide (z = c ∨ Reach1 (succs g) z c) (hdec z)) y : Nat) : Int) < ((succs g y).length : Nat) := by omega
      exact hfin

/-- Where everybody waits for one, a node is stuck just if it waits and reaches nobody who does not. -/
theorem stuck_or {g : Gr} (hv : ValidG g) (hone : ∀ x, InR g.length x → kOf g x = 1 ∨ (kOf g x = 0 ∧ succs g x = [])) {x : Int} (hx : InR g.length x) :
    IsStuck g x ↔ 0 < kOf g x ∧ ∀ y, Reach1 (succs g) x y → 0 < kOf g y := by
  constructor
  · rintro ⟨S, hS, hk⟩
    have hstep : ∀ z, InR g.length z → S z = true → ∀ y ∈ succs g z, S y = true := fun z hz hSz y hy => by
      have h1 := hk z hz hSz
      have h2 : cntD g (fun z => !S z) z = 0 := by rcases hone z hz with h | ⟨h, _⟩ <;> omega
      unfold cntD at h2
      have h3 := List.countP_eq_zero.1 h2 y hy
      simpa using h3
    have hreach : ∀ a b, Reach1 (succs g) a b → InR g.length a → S a = true → InR g.length b ∧ S b = true := by
      intro a b h
      induction h with
      | one h => exact fun ha hSa => ⟨hv.range _ ha _ h, hstep _ ha hSa _ h⟩
      | more _ h ih => intro ha hSa; obtain ⟨h1, h2⟩ := ih ha hSa; exact ⟨hv.range _ h1 _ h, hstep _ h1 h2 _ h⟩
    have hpos : ∀ z, InR g.length z → S z = true → 0 < kOf g z := fun z hz hSz => by
      have := hk z hz hSz
      omega
    exact ⟨hpos x hx hS, fun y hy => by obtain ⟨h1, h2⟩ := hreach x y hy hx hS; exact hpos y h1 h2⟩
  · rintro ⟨h0, hr⟩
    have hdec : ∀ z, Decidable (z = x ∨ Reach1 (succs g) x z) := fun z => Classical.propDecidable _
    refine ⟨fun z => @decide (z = x ∨ Reach1 (succs g) x z) (hdec z), @decide_eq_true _ (hdec x) (.inl rfl), fun y hy hSy => ?_⟩
    have hS := @of_decide_eq_true _ (hdec y) hSy
    have hpos : 0 < kOf g y := by
      rcases hS with rfl | h
      · exact h0
      · exact hr y h
    have hz : cntD g (fun z => !@decide (z = x ∨ Reach1 (succs g) x z) (hdec z)) y = 0 := by
      unfold cntD
      rw [List.countP_eq_zero]
      intro z hz
      have h2 : z = x ∨ Reach1 (succs g) x z := by
        rcases hS with rfl | h
        · exact .inr (.one hz)
        · exact .inr (.more h hz)
      rw [@decide_eq_true _ (hdec z) h2]
      simp
    have hfin : ((cntD g (fun z => !@decide (z = x ∨ Reach1 (succs g) x z) (hdec z)) y : Nat) : Int) < kOf g y := by omega
    exact hfin

/-- A node that waits for fewer of its successors makes nobody stuck who was not. -/
theorem stuck_fewer {g h : Gr} (hl : h.length = g.length) (hs : ∀ x, InR g.length x → succs h x = succs g x) (hk : ∀ x, InR g.length x → kOf h x ≤ kOf g x) {x : Int} (hx : IsStuck h x) : IsStuck g x := by
  obtain ⟨S, hS, hc⟩ := hx
  refine ⟨S, hS, fun y hy hSy => ?_⟩
  have h1 := hc y (by rw [hl]; exact hy) hSy
  have h2 := hk y hy
  unfold cntD at h1 ⊢
  rw [hs y hy] at h1
  omega
/-- Whoever is in a knot waits, if everybody waits for one, and so do all that it reaches. -/
theorem knot_stuck {g : Gr} (hv : ValidG g) (hone : ∀ x, InR g.length x → kOf g x = 1 ∨ (kOf g x = 0 ∧ succs g x = [])) {ls : List (List Int)} (hk : KnotsSpec g ls) : ∀ l ∈ ls, ∀ y ∈ l, InR g.length y ∧ IsStuck g y := by
  obtain ⟨R, hR, rfl⟩ := hk.1 hv
  intro l hl y hy
  obtain ⟨i, hi, rfl⟩ := List.mem_map.1 hl
  obtain ⟨hi1, hi2⟩ := List.mem_filter.1 hi
  have hin := List.mem_range.1 hi1
  unfold knotB at hi2
  rw [decide_eq_true_iff] at hi2
  have hset : ∀ z ∈ R i, InR g.length z ∧ (∀ u, Reach1 (succs g) z u → InR g.length u → u ∈ R i) ∧ ∀ u ∈ R i, Reach1 (succs g) z u := fun z hz => by
    have hzr := ((hR i hin).range z hz).1
    have hzn : z.toNat < g.length := by have h1 := hzr.1; have h2 := hzr.2; omega
    have hz2 := hR z.toNat hzn
    rw [hi2.2 z hz, show ((z.toNat : Nat) : Int) = z by have := hzr.1; omega] at hz2
    refine ⟨hzr, fun u hu hur => ?_, fun u hu => (hz2.range u hu).2⟩
    obtain ⟨f, hf, he⟩ := hz2
    rw [he, mem_idxs]
    exact ⟨hur, (hf u.toNat (by have h1 := hur.1; have h2 := hur.2; omega)).2 (by rwa [show ((u.toNat : Nat) : Int) = u by have := hur.1; omega])⟩
  have hpos : ∀ z ∈ R i, 0 < kOf g z := fun z hz => by
    obtain ⟨h1, _, h3⟩ := hset z hz
    rcases hone z h1 with h | ⟨_, h⟩
    · omega
    · have hre := h3 z hz
      obtain ⟨k, hk1, hp⟩ := reach_pth hre
      cases hp with
      | nil => omega
      | cons hm _ => rw [h] at hm; cases hm
  obtain ⟨h1, h2, _⟩ := hset y hy
  exact ⟨h1, (stuck_or hv hone h1).2 ⟨hpos y hy, fun z hz => hpos z (h2 z hz (hz.range hv h1))⟩⟩
end Go.Proofs.Ytgdeekghngpcfaa
