/- Plain laws: the least of the shortest cycles through a node. -/
import Derived.Test.YtgdeekghngpcfaaPlainE
namespace Go.Proofs.Ytgdeekghngpcfaa

/-- y is the first element of l that meets p. -/
def FirstOf (l : List Int) (p : Int → Prop) (y : Int) : Prop := ∃ k, ∃ h : k < l.length, l[k] = y ∧ p y ∧ ∀ j (hj : j < l.length), j < k → ¬ p l[j]
theorem FirstOf.unique {l : List Int} {p : Int → Prop} {y y' : Int} (h : FirstOf l p y) (h' : FirstOf l p y') : y = y' := by
  obtain ⟨k, hk, rfl, hp, hn⟩ := h
  obtain ⟨k', hk', rfl, hp', hn'⟩ := h'
  rcases Nat.lt_trichotomy k k' with h | rfl | h
  · exact absurd hp (hn' k hk h)
  · rfl
  · exact absurd hp' (hn k' hk' h)

/-- c begins a shortest cycle through i, of m steps: its first t nodes. -/
def CycTo (g : Gr) (i : Int) (m t : Nat) (c : List Int) : Prop :=
  c.length = t ∧ (0 < t → c[0]? = some i) ∧ ∀ s x y, c[s]? = some x → c[s + 1]? = some y → FirstOf (succs g x) (D1 (succs g) i (m - 1 - s)) y

theorem CycTo.unique {g : Gr} {i : Int} {m t : Nat} {c c' : List Int} (h : CycTo g i m t c) (h' : CycTo g i m t c') : c = c' := by
  have key : ∀ s, s < t → c[s]? = c'[s]? := by
    intro s
    induction s with
    | zero => intro hs; rw [h.2.1 hs, h'.2.1 hs]
    | succ s ih =>
      intro hs
      have e := ih (by omega)
      have l1 := h.1
      have l2 := h'.1
      have h1 : c[s]? = some (c[s]'(by omega)) := List.getElem?_eq_getElem (by omega)
      have h2 : c[s + 1]? = some (c[s + 1]'(by omega)) := List.getElem?_eq_getElem (by omega)
      have h3 : c'[s + 1]? = some (c'[s + 1]'(by omega)) := List.getElem?_eq_getElem (by omega)
      rw [h2, h3, (h.2.2 s _ _ h1 h2).unique (h'.2.2 s _ _ (by rw [← e, h1]) h3)]
  apply List.ext_getElem?
  intro s
  rcases Nat.lt_or_ge s t with hs | hs
  · exact key s hs
  · rw [List.getElem?_eq_none (by have := h.1; omega), List.getElem?_eq_none (by have := h'.1; omega)]

def CycleSpec (g : Gr) (i : Int) (l : List Int) : Prop :=
  (ValidG g ∧ InR g.length i ∧ Reach1 (succs g) i i → ∃ m, D1 (succs g) i m i ∧ CycTo g i m m l) ∧ (¬ (ValidG g ∧ InR g.length i ∧ Reach1 (succs g) i i) → l = [])
theorem CycleSpec.unique {g : Gr} {i : Int} {l l' : List Int} (h : CycleSpec g i l) (h' : CycleSpec g i l') : l = l' := by
  by_cases hc : ValidG g ∧ InR g.length i ∧ Reach1 (succs g) i i
  · obtain ⟨m, hm, h1⟩ := h.1 hc
    obtain ⟨m', hm', h2⟩ := h'.1 hc
    obtain rfl := hm.unique hm'
    exact h1.unique h2
  · rw [h.2 hc, h'.2 hc]

theorem CycTo.snoc {g : Gr} {i x : Int} {m t : Nat} {c : List Int} (h : CycTo g i m t c) (h0 : t = 0 → x = i) (hs : ∀ y, c[t - 1]? = some y → 0 < t → FirstOf (succs g y) (D1 (succs g) i (m - t)) x) : CycTo g i m (t + 1) (c ++ [x]) := by
  refine ⟨by simp [h.1], fun _ => ?_, fun s a b ha hb => ?_⟩
  · by_cases ht : t = 0
    · have hc : c = [] := List.eq_nil_of_length_eq_zero (by rw [h.1]; exact ht)
      subst hc; rw [h0 ht]; rfl
    · rw [List.getElem?_append_left (by rw [h.1]; omega)]; exact h.2.1 (by omega)
  · have hlt : s + 1 < (c ++ [x]).length := (List.getElem?_eq_some_iff.1 hb).1
    simp only [List.length_append, List.length_singleton, h.1] at hlt
    rw [List.getElem?_append_left (by rw [h.1]; omega)] at ha
    by_cases e : s + 1 = t
    · rw [List.getElem?_append_right (by rw [h.1]; omega), h.1, e, Nat.sub_self] at hb
      have hbx : b = x := by simpa using hb.symm
      subst hbx
      have h2 := hs a (by rw [show t - 1 = s by omega]; exact ha) (by omega)
      rwa [show m - 1 - s = m - t by omega]
    · rw [List.getElem?_append_left (by rw [h.1]; omega)] at hb
      exact h.2.2 s a b ha hb

theorem dst_d1 {adj : Int → List Int} {to x : Int} {k : Nat} (h : Dst adj to k x) (hk : 1 ≤ k) : D1 adj to k x := ⟨hk, h.1, fun j _ hj => h.2 j hj⟩
theorem dst_zero {adj : Int → List Int} {to x : Int} (h : Dst adj to 0 x) : x = to := by have := h.1; cases this; rfl
theorem dst_self {adj : Int → List Int} {to : Int} {k : Nat} (h : Dst adj to k to) : k = 0 := Nat.le_zero.1 (h.2 0 (.nil to))
theorem far_dst {g : Gr} {to x : Int} {fs : List Int} (h : FarSpec g to fs) (hx : InR g.length x) (h0 : 0 ≤ fa fs x) : Dst (succs g) to (fa fs x).toNat x :=
  ⟨(h.2 x hx).1 h0, fun j hj => by have := ((h.2 x hx).2 j hj).2; omega⟩
theorem dst_far {g : Gr} {to x : Int} {fs : List Int} {k : Nat} (h : FarSpec g to fs) (hx : InR g.length x) (hd : Dst (succs g) to k x) : fa fs x = k := by
  obtain ⟨h1, h2⟩ := (h.2 x hx).2 k hd.1
  have := hd.2 _ ((h.2 x hx).1 h1)
  omega
/-- From a node with a path back there is a successor that is one step nearer; none is nearer than that. -/
theorem D1.succ {adj : Int → List Int} {to x : Int} {k : Nat} (h : D1 adj to k x) : (∃ y, y ∈ adj x ∧ Dst adj to (k - 1) y) ∧ ∀ y, y ∈ adj x → ∀ j, Pth adj j y to → k - 1 ≤ j := by
  obtain ⟨h1, hp, hmin⟩ := h
  have h2 : ∀ y, y ∈ adj x → ∀ j, Pth adj j y to → k - 1 ≤ j := fun y hy j hj => by have := hmin (j + 1) (by omega) (.cons hy hj); omega
  refine ⟨?_, h2⟩
  cases hp with
  | nil => omega
  | cons hm hp => exact ⟨_, hm, hp, fun j hj => h2 _ hm j hj⟩

/-- The best successor below place k: the first one of those that are nearest; best < 0: none yet. -/
def Best (l fs : List Int) (k : Nat) (b : Int) : Prop :=
  (b = -1 ∧ ∀ j (h : j < l.length), j < k → fa fs l[j] < 0) ∨
  ∃ t, ∃ h : t < l.length, t < k ∧ b = l[t] ∧ 0 ≤ fa fs b ∧ (∀ j (h : j < l.length), j < k → fa fs l[j] < 0 ∨ fa fs b ≤ fa fs l[j]) ∧ ∀ j (h : j < l.length), j < t → fa fs l[j] < 0 ∨ fa fs b < fa fs l[j]
theorem Best.keep {l fs : List Int} {k : Nat} {b : Int} (h : Best l fs k b) (hk : k < l.length) (hn : fa fs l[k] < 0 ∨ (0 ≤ b ∧ fa fs b ≤ fa fs l[k])) : Best l fs (k + 1) b := by
  rcases h with ⟨hb, h⟩ | ⟨t, ht, htk, hb, h0, h1, h2⟩
  · refine .inl ⟨hb, fun j hj hjk => ?_⟩
    by_cases e : j = k
    · subst e; rcases hn with hn | hn
      · exact hn
      · omega
    · exact h j hj (by omega)
  · refine .inr ⟨t, ht, by omega, hb, h0, fun j hj hjk => ?_, h2⟩
    by_cases e : j = k
    · subst e; exact hn.imp id (·.2)
    · exact h1 j hj (by omega)
theorem Best.take {l fs : List Int} {k : Nat} {b : Int} (h : Best l fs k b) (hk : k < l.length) (hn : 0 ≤ fa fs l[k]) (hb2 : b < 0 ∨ fa fs l[k] < fa fs b) (hr : ∀ y ∈ l, 0 ≤ y) : Best l fs (k + 1) l[k] := by
  rcases h with ⟨hb, h⟩ | ⟨t, ht, htk, hb, h0, h1, h2⟩
  · refine .inr ⟨k, hk, by omega, rfl, hn, fun j hj hjk => ?_, fun j hj hjk => .inl (h j hj hjk)⟩
    by_cases e : j = k
    · subst e; exact .inr (Int.le_refl _)
    · exact .inl (h j hj (by omega))
  · have hlt : fa fs l[k] < fa fs b := by
      rcases hb2 with hb2 | hb2
      · have := hr _ (List.getElem_mem ht); omega
      · exact hb2
    refine .inr ⟨k, hk, by omega, rfl, hn, fun j hj hjk => ?_, fun j hj hjk => ?_⟩
    · by_cases e : j = k
      · subst e; exact .inr (Int.le_refl _)
      · rcases h1 j hj (by omega) with h3 | h3
        · exact .inl h3
        · exact .inr (by omega)
    · rcases h1 j hj (by omega) with h3 | h3
      · exact .inl h3
      · exact .inr (by omega)
/-- What the whole scan finds at a node whose way back takes k steps. -/
theorem Best.found {g : Gr} {to x b : Int} {fs : List Int} {k : Nat} (hv : ValidG g) (hf : FarSpec g to fs) (hx : InR g.length x) (hd : D1 (succs g) to k x) (h : Best (succs g x) fs (succs g x).length b) :
    b ∈ succs g x ∧ Dst (succs g) to (k - 1) b ∧ (2 ≤ k → FirstOf (succs g x) (D1 (succs g) to (k - 1)) b) := by
  obtain ⟨⟨y, hy, hyd⟩, hall⟩ := hd.succ
  have hyr := hv.range x hx y hy
  have hfy := dst_far hf hyr hyd
  obtain ⟨j, hj, rfl⟩ := List.getElem_of_mem hy
  rcases h with ⟨_, h⟩ | ⟨t, ht, htk, rfl, h0, h1, h2⟩
  · have := h j hj hj; omega
  · have hm : (succs g x)[t] ∈ succs g x := List.getElem_mem _
    have hr := hv.range x hx _ hm
    have hdb := far_dst hf hr h0
    have hle := hall _ hm _ hdb.1
    have he : (fa fs (succs g x)[t]).toNat = k - 1 := by
      rcases h1 j hj hj with h3 | h3 <;> omega
    rw [he] at hdb
    refine ⟨hm, hdb, fun hk => ⟨t, ht, rfl, dst_d1 hdb (by omega), fun j' hj' hjt hp => ?_⟩⟩
    have hr' := hv.range x hx _ (List.getElem_mem hj')
    obtain ⟨h4, h5⟩ := (hf.2 _ hr').2 _ hp.2.1
    rcases h2 j' hj' hjt with h6 | h6 <;> omega

theorem rev_reach {g : Gr} {x y : Int} (h : Reach1 (preds g) x y) : Reach1 (succs g) y x := by
  induction h with
  | one h => exact .one (mem_preds.1 h).2
  | more _ h ih => exact reach_of_cons (mem_preds.1 h).2 ih
theorem reach_rev {g : Gr} (hv : ValidG g) {x y : Int} (h : Reach1 (succs g) x y) (hx : InR g.length x) : Reach1 (preds g) y x := by
  have key : InR g.length y ∧ Reach1 (preds g) y x := by
    induction h with
    | one h => exact ⟨hv.range _ hx _ h, .one (mem_preds.2 ⟨hx, h⟩)⟩
    | more _ h ih =>
      obtain ⟨h1, h2⟩ := ih
      exact ⟨hv.range _ h1 _ h, reach_of_cons (mem_preds.2 ⟨h1, h⟩) h2⟩
  exact key.2
theorem d1_of_reach {adj : Int → List Int} {x y : Int} (h : Reach1 adj x y) : ∃ m, D1 adj y m x := by
  obtain ⟨k, h1, h2⟩ := reach_pth h
  obtain ⟨m, ⟨a, b⟩, c⟩ := least_of (p := fun k => 1 ≤ k ∧ Pth adj k x y) ⟨h1, h2⟩
  exact ⟨m, a, b, fun j h1 h2 => c j ⟨h1, h2⟩⟩
theorem preds_range {g : Gr} : ∀ x, InR g.length x → ∀ y ∈ preds g x, InR g.length y := fun _ _ _ hy => (mem_preds.1 hy).1

/-- The state of the program's walk round the cycle: t nodes are out, the next one is x. -/
def Round (g : Gr) (i : Int) (m t : Nat) (c : List Int) (x : Int) : Prop :=
  CycTo g i m t c ∧ t ≤ m ∧ InR g.length x ∧ (t = 0 → x = i) ∧ (0 < t → Dst (succs g) i (m - t) x ∧ (t < m → ∀ y, c[t - 1]? = some y → FirstOf (succs g y) (D1 (succs g) i (m - t)) x))
theorem Round.start (g : Gr) {i : Int} {m : Nat} (hi : InR g.length i) : Round g i m 0 [] i := ⟨⟨rfl, fun h => by omega, fun s x y h => by simp at h⟩, Nat.zero_le _, hi, fun _ => rfl, fun h => by omega⟩
theorem Round.stop {g : Gr} {i x : Int} {m t : Nat} {c : List Int} (h : Round g i m t c x) (ht : 0 < t) (hx : x = i) : CycTo g i m m c := by
  have := dst_self (hx ▸ (h.2.2.2.2 ht).1)
  have e : t = m := by have := h.2.1; omega
  subst e; exact h.1
theorem Round.d1 {g : Gr} {i x : Int} {m t : Nat} {c : List Int} (h : Round g i m t c x) (hm : D1 (succs g) i m i) (hx : t = 0 ∨ x ≠ i) : D1 (succs g) i (m - t) x ∧ t < m := by
  by_cases ht : t = 0
  · subst ht; rw [h.2.2.2.1 rfl]; exact ⟨hm, hm.1⟩
  · have hd := (h.2.2.2.2 (by omega)).1
    have hne : m - t ≠ 0 := fun e => by
      rw [e] at hd
      rcases hx with hx | hx
      · exact ht hx
      · exact hx (dst_zero hd)
    exact ⟨dst_d1 hd (by omega), by omega⟩
theorem Round.next {g : Gr} {i x b : Int} {m t : Nat} {c : List Int} (hv : ValidG g) (h : Round g i m t c x) (hm : D1 (succs g) i m i) (hx : t = 0 ∨ x ≠ i) {fs : List Int} (hf : FarSpec g i fs) (hb : Best (succs g x) fs (succs g x).length b) :
    Round g i m (t + 1) (c ++ [x]) b := by
  obtain ⟨hd, hlt⟩ := h.d1 hm hx
  obtain ⟨b1, b2, b3⟩ := hb.found hv hf h.2.2.1 hd
  refine ⟨h.1.snoc h.2.2.2.1 (fun y hy h0 => (h.2.2.2.2 h0).2 hlt y hy), by omega, hv.range _ h.2.2.1 _ b1, by omega, fun _ => ⟨by rwa [show m - (t + 1) = m - t - 1 by omega], fun hlt2 y hy => ?_⟩⟩
  rw [show t + 1 - 1 = c.length by have := h.1.1; omega, List.getElem?_append_right (Nat.le_refl _), Nat.sub_self] at hy
  have : x = y := by simpa using hy
  subst this
  have := b3 (by omega)
  rwa [show m - (t + 1) = m - t - 1 by omega]
end Go.Proofs.Ytgdeekghngpcfaa
