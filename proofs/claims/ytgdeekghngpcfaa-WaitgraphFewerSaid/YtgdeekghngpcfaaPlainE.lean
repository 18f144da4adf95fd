/- Plain laws: paths of one step or more; the pigeonhole; the reference's distances. -/
import Derived.Test.YtgdeekghngpcfaaPlainD
namespace Go.Proofs.Ytgdeekghngpcfaa

theorem pigeon : ∀ (n : Nat) (f : Nat → Nat), (∀ i, i ≤ n → f i < n) → ∃ i j, i < j ∧ j ≤ n ∧ f i = f j := by
  intro n
  induction n with
  | zero => intro f h; have := h 0 (Nat.le_refl _); omega
  | succ n ih =>
    intro f h
    by_cases hex : ∃ i, i ≤ n ∧ f i = f (n + 1)
    · obtain ⟨i, hi, he⟩ := hex
      exact ⟨i, n + 1, by omega, Nat.le_refl _, he⟩
    · have hno : ∀ i, i ≤ n → f i ≠ f (n + 1) := fun i hi e => hex ⟨i, hi, e⟩
      obtain ⟨i, j, hij, hj, he⟩ := ih (fun i => if f (n + 1) < f i then f i - 1 else f i) (fun i hi => by
        have h1 := h i (by omega); have h2 := h (n + 1) (Nat.le_refl _); have h3 := hno i hi
        show (if f (n + 1) < f i then f i - 1 else f i) < n
        split <;> omega)
      refine ⟨i, j, hij, by omega, ?_⟩
      have h1 := hno i (by omega); have h2 := hno j hj
      split at he <;> split at he <;> omega

/-- Paths put together. -/
theorem Pth.trans {adj : Int → List Int} {k m : Nat} {x y z : Int} (h : Pth adj k x y) (h' : Pth adj m y z) : Pth adj (k + m) x z := by
  induction h with
  | nil x => simpa using h'
  | @cons k x y z hm _ ih => rw [Nat.add_right_comm]; exact .cons hm (ih h')
theorem Pth.snoc {adj : Int → List Int} {k : Nat} {x y z : Int} (h : Pth adj k x y) (hz : z ∈ adj y) : Pth adj (k + 1) x z := h.trans (.cons hz (.nil z))
theorem reach_pth {adj : Int → List Int} {x y : Int} (h : Reach1 adj x y) : ∃ k, 1 ≤ k ∧ Pth adj k x y := by
  induction h with
  | one h => exact ⟨1, Nat.le_refl _, .cons h (.nil _)⟩
  | more _ h ih => obtain ⟨k, hk, hp⟩ := ih; exact ⟨k + 1, by omega, hp.snoc h⟩
theorem reach_of_cons {adj : Int → List Int} {x y z : Int} (h : y ∈ adj x) (h' : Reach1 adj y z) : Reach1 adj x z := by
  induction h' with
  | one h2 => exact .more (.one h) h2
  | more _ h2 ih => exact .more ih h2
theorem pth_reach {adj : Int → List Int} {k : Nat} {x y : Int} (h : Pth adj k x y) (hk : 1 ≤ k) : Reach1 adj x y := by
  induction h with
  | nil => omega
  | @cons k x y z hm hp ih =>
    cases hp with
    | nil => exact .one hm
    | cons hm2 hp2 => exact reach_of_cons hm (ih (by omega))
theorem Pth.range {g : Gr} (hv : ValidG g) {k : Nat} {x y : Int} (h : Pth (succs g) k x y) (hx : InR g.length x) : InR g.length y := by
  induction h with
  | nil => exact hx
  | cons hm _ ih => exact ih (hv.range _ hx _ hm)

/-- The distance from x to the node 'to' is k. -/
def Dst (adj : Int → List Int) (to : Int) (k : Nat) (x : Int) : Prop := Pth adj k x to ∧ ∀ j, Pth adj j x to → k ≤ j
/-- The least length of a path of at least one step from x to the node 'to' is k. -/
def D1 (adj : Int → List Int) (to : Int) (k : Nat) (x : Int) : Prop := 1 ≤ k ∧ Pth adj k x to ∧ ∀ j, 1 ≤ j → Pth adj j x to → k ≤ j

theorem least_of {p : Nat → Prop} {n : Nat} (h : p n) : ∃ k, p k ∧ ∀ j, p j → k ≤ j := by
  induction n using Nat.strongRecOn with
  | _ n ih =>
    by_cases hm : ∃ m, m < n ∧ p m
    · obtain ⟨m, hlt, hp⟩ := hm; exact ih m hlt hp
    · exact ⟨n, h, fun m hp => Nat.le_of_not_lt fun hlt => hm ⟨m, hlt, hp⟩⟩

theorem Dst.step {adj : Int → List Int} {to : Int} {k : Nat} {x : Int} (h : Dst adj to (k + 1) x) : ∃ y, y ∈ adj x ∧ Dst adj to k y := by
  obtain ⟨hp, hmin⟩ := h
  cases hp with
  | cons hm hp => exact ⟨_, hm, hp, fun j hj => by have := hmin (j + 1) (.cons hm hj); omega⟩
theorem Dst.at_ {g : Gr} (hv : ValidG g) {to : Int} : ∀ (d k : Nat) {x : Int}, Dst (succs g) to k x → InR g.length x → d ≤ k → ∃ y, InR g.length y ∧ Dst (succs g) to (k - d) y := by
  intro d
  induction d with
  | zero => intro k x h hx _; exact ⟨x, hx, h⟩
  | succ d ih =>
    intro k x h hx hd
    obtain ⟨k', rfl⟩ : ∃ k', k = k' + 1 := ⟨k - 1, by omega⟩
    obtain ⟨y, hy, h2⟩ := h.step
    obtain ⟨z, hz, h3⟩ := ih k' h2 (hv.range _ hx _ hy) (by omega)
    exact ⟨z, hz, by rwa [show k' + 1 - (d + 1) = k' - d by omega]⟩
theorem Dst.lt {g : Gr} (hv : ValidG g) {to : Int} {k : Nat} {x : Int} (h : Dst (succs g) to k x) (hx : InR g.length x) : k < g.length := by
  refine Nat.lt_of_not_le fun hle => ?_
  have hex : ∀ j, ∃ y : Int, j ≤ k → InR g.length y ∧ Dst (succs g) to j y := fun j => by
    by_cases hj : j ≤ k
    · obtain ⟨y, h1, h2⟩ := Dst.at_ hv (k - j) k h hx (by omega)
      exact ⟨y, fun _ => ⟨h1, by rwa [show k - (k - j) = j by omega] at h2⟩⟩
    · exact ⟨0, fun h => absurd h hj⟩
  obtain ⟨f, hf⟩ := Classical.axiomOfChoice hex
  obtain ⟨i, j, hij, hj, he⟩ := pigeon g.length (fun j => (f j).toNat) (fun i hi => by have h1 := (hf i (by omega)).1; show (f i).toNat < g.length; have h2 := h1.1; have h3 := h1.2; omega)
  have h1 := hf i (by omega)
  have h2 := hf j (by omega)
  have e : f i = f j := by have h3 := h1.1.1; have h4 := h2.1.1; omega
  have := h2.2.2 i (by rw [← e]; exact h1.2.1)
  omega
theorem D1.le {g : Gr} (hv : ValidG g) {to : Int} {k : Nat} {x : Int} (h : D1 (succs g) to k x) (hx : InR g.length x) : k ≤ g.length := by
  obtain ⟨h1, hp, hmin⟩ := h
  cases hp with
  | nil => omega
  | @cons k _ y _ hm hp =>
    have hd : Dst (succs g) to k y := ⟨hp, fun j hj => by have := hmin (j + 1) (by omega) (.cons hm hj); omega⟩
    have := hd.lt hv (hv.range _ hx _ hm)
    omega
theorem D1.unique {adj : Int → List Int} {to : Int} {k k' : Nat} {x : Int} (h : D1 adj to k x) (h' : D1 adj to k' x) : k = k' :=
  Nat.le_antisymm (h.2.2 k' h'.1 h'.2.1) (h'.2.2 k h.1 h.2.1)

def da (d : List Int) (x : Int) : Int := d.getD x.toNat 0
theorem da_set {n : Nat} {fs : List Int} {x y v : Int} (hl : fs.length = n) (hx : InR n x) (hy : InR n y) : da (fs.set x.toNat v) y = if y = x then v else da fs y := by
  unfold da InR at *
  rw [List.getD_eq_getElem?_getD, List.getD_eq_getElem?_getD, List.getElem?_set]
  by_cases h : x.toNat = y.toNat
  · rw [if_pos h, if_pos (by omega), if_pos (by omega)]; rfl
  · rw [if_neg h, if_neg (by omega)]
theorem da_get {n : Nat} {fs : List Int} {x : Int} (hl : fs.length = n) (hx : InR n x) : fs[x.toNat]'(by have := hx.1; have := hx.2; omega) = da fs x := by
  unfold da
  rw [List.getD_eq_getElem?_getD, List.getElem?_eq_getElem (by have := hx.1; have := hx.2; omega)]; rfl

/-- Node x is treated for all paths of at most s steps. -/
def Good (g : Gr) (to : Int) (s : Nat) (d : List Int) (x : Int) : Prop :=
  (da d x = 0 ∧ ∀ j, 1 ≤ j → j ≤ s → ¬ Pth (succs g) j x to) ∨ (1 ≤ da d x ∧ da d x ≤ s ∧ D1 (succs g) to (da d x).toNat x)
/-- In round s the nodes below i are treated. -/
def PInv (g : Gr) (to : Int) (s i : Nat) (d : List Int) : Prop :=
  d.length = g.length ∧ ∀ x, InR g.length x → (x < i → Good g to s d x) ∧ (i ≤ x → Good g to (s - 1) d x)
def DSpec (g : Gr) (to : Int) (d : List Int) : Prop :=
  d.length = g.length ∧ ∀ x, InR g.length x → (da d x = 0 ∧ ∀ j, 1 ≤ j → ¬ Pth (succs g) j x to) ∨ (1 ≤ da d x ∧ da d x ≤ g.length ∧ D1 (succs g) to (da d x).toNat x)

/-- What the reference asks of a successor y in round s. -/
def Hit (to : Int) (s : Nat) (d : List Int) (y : Int) : Prop := (s = 1 ∧ y = to) ∨ (2 ≤ s ∧ da d y = s - 1)

theorem Good.mono {g : Gr} {to : Int} {s : Nat} {d : List Int} {x : Int} (h : Good g to (s - 1) d x) (hd : 1 ≤ da d x) : Good g to s d x := by
  rcases h with ⟨h1, _⟩ | ⟨h1, h2, h3⟩
  · omega
  · exact .inr ⟨h1, by omega, h3⟩

theorem PInv.start (g : Gr) (to : Int) : PInv g to 1 0 (List.replicate g.length 0) := by
  have hz : ∀ x, da (List.replicate g.length 0) x = 0 := fun x => by
    unfold da; rw [List.getD_eq_getElem?_getD, List.getElem?_replicate]; split <;> rfl
  exact ⟨by simp, fun x hx => ⟨fun h => absurd hx.1 (by omega), fun _ => .inl ⟨hz x, fun j h1 h2 => by omega⟩⟩⟩
theorem PInv.next {g : Gr} {to : Int} {s : Nat} {d : List Int} (h : PInv g to s g.length d) : PInv g to (s + 1) 0 d :=
  ⟨h.1, fun x hx => ⟨fun h2 => absurd hx.1 (by omega), fun _ => (h.2 x hx).1 hx.2⟩⟩
theorem PInv.final {g : Gr} {to : Int} {d : List Int} (hv : ValidG g) (h : PInv g to (g.length + 1) 0 d) : DSpec g to d := by
  refine ⟨h.1, fun x hx => ?_⟩
  rcases (h.2 x hx).2 hx.1 with ⟨h1, h2⟩ | ⟨h1, h2, h3⟩
  · refine .inl ⟨h1, fun j hj hp => ?_⟩
    obtain ⟨k, ⟨hk1, hk2⟩, hk3⟩ := least_of (p := fun k => 1 ≤ k ∧ Pth (succs g) k x to) ⟨hj, hp⟩
    have hd : D1 (succs g) to k x := ⟨hk1, hk2, fun j h1 h2 => hk3 j ⟨h1, h2⟩⟩
    exact h2 k hk1 (by have := hd.le hv hx; omega) hk2
  · exact .inr ⟨h1, by omega, h3⟩
/-- Node i has its distance already. -/
theorem PInv.pass {g : Gr} {to : Int} {s i : Nat} {d : List Int} (h : PInv g to s i d) (hd : da d i ≠ 0) : PInv g to s (i + 1) d := by
  refine ⟨h.1, fun x hx => ⟨fun hlt => ?_, fun hle => (h.2 x hx).2 (by omega)⟩⟩
  by_cases e : x = i
  · subst e
    have := (h.2 i hx).2 (by omega)
    refine this.mono ?_
    rcases this with ⟨h1, _⟩ | ⟨h1, _⟩
    · exact absurd h1 hd
    · exact h1
  · exact (h.2 x hx).1 (by omega)
/-- What a successor's distance says. -/
theorem PInv.hit_iff {g : Gr} {to : Int} {s i : Nat} {d : List Int} {y : Int} (hv : ValidG g) (h : PInv g to s i d) (hs : 1 ≤ s) (hi : i < g.length) (hd : da d i = 0) (hy : y ∈ succs g i) : Hit to s d y ↔ Pth (succs g) (s - 1) y to := by
  have hir : InR g.length (i : Int) := ⟨by omega, by omega⟩
  have hyr := hv.range _ hir _ hy
  have hno : ∀ j, 1 ≤ j → j ≤ s - 1 → ¬ Pth (succs g) j i to := by
    rcases (h.2 i hir).2 (by omega) with ⟨_, h2⟩ | ⟨h2, _⟩
    · exact h2
    · omega
  constructor
  · rintro (⟨rfl, rfl⟩ | ⟨h1, h2⟩)
    · exact .nil _
    · have hg : ∃ s', Good g to s' d y := by
        by_cases hlt : y < i
        · exact ⟨_, (h.2 y hyr).1 hlt⟩
        · exact ⟨_, (h.2 y hyr).2 (by omega)⟩
      obtain ⟨s', hg⟩ := hg
      rcases hg with ⟨h3, _⟩ | ⟨_, _, h3⟩
      · omega
      · have h4 := h3.2.1
        rwa [h2, show ((s : Int) - 1).toNat = s - 1 by omega] at h4
  · intro hp
    by_cases h1 : s = 1
    · subst h1
      cases hp
      exact .inl ⟨rfl, rfl⟩
    · refine .inr ⟨by omega, ?_⟩
      have hg : ∃ s', s - 1 ≤ s' ∧ Good g to s' d y := by
        by_cases hlt : y < i
        · exact ⟨_, by omega, (h.2 y hyr).1 hlt⟩
        · exact ⟨_, Nat.le_refl _, (h.2 y hyr).2 (by omega)⟩
      obtain ⟨s', hs', hg⟩ := hg
      rcases hg with ⟨_, h3⟩ | ⟨h2, _, h3⟩
      · exact absurd hp (h3 (s - 1) (by omega) hs')
      · have h4 := h3.2.2 (s - 1) (by omega) hp
        rcases Nat.lt_or_ge (da d y).toNat (s - 1) with h5 | h5
        · exact absurd (.cons hy h3.2.1) (hno ((da d y).toNat + 1) (by omega) (by omega))
        · omega
/-- No successor of i is hit: no path of s steps leaves it. -/
theorem PInv.miss {g : Gr} {to : Int} {s i : Nat} {d : List Int} (hv : ValidG g) (h : PInv g to s i d) (hs : 1 ≤ s) (hi : i < g.length) (hd : da d i = 0) (hno : ∀ y ∈ succs g i, ¬ Hit to s d y) : PInv g to s (i + 1) d := by
  refine ⟨h.1, fun x hx => ⟨fun hlt => ?_, fun hle => (h.2 x hx).2 (by omega)⟩⟩
  by_cases e : x = i
  · subst e
    refine .inl ⟨hd, fun j h1 h2 hp => ?_⟩
    rcases Nat.lt_or_ge j s with h3 | h3
    · rcases (h.2 i hx).2 (by omega) with ⟨_, h4⟩ | ⟨h4, _⟩
      · exact h4 j h1 (by omega) hp
      · omega
    · obtain rfl : j = s := by omega
      obtain ⟨j', rfl⟩ : ∃ j', j = j' + 1 := ⟨j - 1, by omega⟩
      cases hp with
      | cons hm hp => exact hno _ hm ((h.hit_iff hv hs hi hd hm).2 hp)
  · exact (h.2 x hx).1 (by omega)
/-- A successor of i is hit. -/
theorem PInv.mark {g : Gr} {to : Int} {s i : Nat} {d : List Int} {y : Int} (hv : ValidG g) (h : PInv g to s i d) (hs : 1 ≤ s) (hi : i < g.length) (hd : da d i = 0) (hy : y ∈ succs g i) (hh : Hit to s d y) : PInv g to s (i + 1) (d.set i s) := by
  have hir : InR g.length (i : Int) := ⟨by omega, by omega⟩
  have hset := fun z (hz : InR g.length z) => da_set (v := (s : Int)) h.1 hir hz
  simp only [Int.toNat_natCast] at hset
  have hp := (h.hit_iff hv hs hi hd hy).1 hh
  have hself : Good g to s (d.set i s) i := by
    refine .inr ?_
    rw [hset _ hir, if_pos rfl]
    refine ⟨by omega, by omega, ?_⟩
    rw [Int.toNat_natCast]
    refine ⟨hs, ?_, fun j h1 hpj => ?_⟩
    · obtain ⟨s', rfl⟩ : ∃ s', s = s' + 1 := ⟨s - 1, by omega⟩
      exact .cons hy hp
    · refine Nat.le_of_not_lt fun hlt => ?_
      rcases (h.2 i hir).2 (by omega) with ⟨_, h4⟩ | ⟨h4, _⟩
      · exact h4 j h1 (by omega) hpj
      · omega
  have hother : ∀ x, InR g.length x → x ≠ i → ∀ s', Good g to s' d x → Good g to s' (d.set i s) x := fun x hx e s' hg => by
    unfold Good
    rw [hset x hx, if_neg e]
    exact hg
  refine ⟨by simp [h.1], fun x hx => ⟨fun hlt => ?_, fun hle => hother x hx (by omega) _ ((h.2 x hx).2 (by omega))⟩⟩
  by_cases e : x = i
  · subst e; exact hself
  · exact hother x hx e _ ((h.2 x hx).1 (by omega))
end Go.Proofs.Ytgdeekghngpcfaa
