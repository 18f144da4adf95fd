/- Part 46 of 49 of the proof of waitgraphOf_holds (no condition). -/
import Derived.Test.YtogeihdfmnohnaaGreatDoorK45
import Derived.Test.YtogeihdfmnohnaaGreatDoorK44
set_option linter.unusedVariables false
set_option linter.unusedSimpArgs false
namespace Go.Proofs.YtogeihdfmnohnaaGreatDoor.Wg
def FirstOf (l : List Int) (p : Int → Prop) (y : Int) : Prop := ∃ k, ∃ h : k < l.length, l[k] = y ∧ p y ∧ ∀ j (hj : j < l.length), j < k → ¬ p l[j]
theorem FirstOf.unique {l : List Int} {p : Int → Prop} {y y' : Int} (h : FirstOf l p y) (h' : FirstOf l p y') : y = y' := by
  obtain ⟨k, hk, rfl, hp, hn⟩ := h
  obtain ⟨k', hk', rfl, hp', hn'⟩ := h'
  rcases Nat.lt_trichotomy k k' with h | rfl | h
  · exact absurd hp (hn' k hk h)
  · rfl
  · exact absurd hp' (hn k' hk' h)
def CycTo (g : Gr) (i : Int) (m t : Nat) (c : List Int) : Prop :=
  c.length = t ∧ (0 < t → c[0]? = some i) ∧ ∀ s x y, c[s]? = some x → c[s + 1]? = some y → FirstOf (succs g x) (D1 (succs g) i (m - 1 - s)) y
theorem CycTo.unique {g : Gr} {i : Int} {m t : Nat} {c c' : List Int} (h : CycTo g i m t c) (h' : CycTo g i m t c') : c = c' := by
  have key : ∀ s, s < t → c[s]? = c'[s]? := by
    intro s
    induction s with
    | zero => intro hs; rw [h.2.1 hs, h'.2.1 hs]
    | succ s ih =>
      intro hs
      have e := ih (by omega)
      have l1 := h.1
      have l2 := h'.1
      have h1 : c[s]? = some (c[s]'(by omega)) := List.getElem?_eq_getElem (by omega)
      have h2 : c[s + 1]? = some (c[s + 1]'(by omega)) := List.getElem?_eq_getElem (by omega)
      have h3 : c'[s + 1]? = some (c'[s + 1]'(by omega)) := List.getElem?_eq_getElem (by omega)
      rw [h2, h3, (h.2.2 s _ _ h1 h2).unique (h'.2.2 s _ _ (by rw [← e, h1]) h3)]
  apply List.ext_getElem?
  intro s
  rcases Nat.lt_or_ge s t with hs | hs
  · exact key s hs
  · rw [List.getElem?_eq_none (by have := h.1; omega), List.getElem?_eq_none (by have := h'.1; omega)]
def CycleSpec (g : Gr) (i : Int) (l : List Int) : Prop :=
  (ValidG g ∧ InR g.length i ∧ Reach1 (succs g) i i → ∃ m, D1 (succs g) i m i ∧ CycTo g i m m l) ∧ (¬ (ValidG g ∧ InR g.length i ∧ Reach1 (succs g) i i) → l = [])
theorem CycleSpec.unique {g : Gr} {i : Int} {l l' : List Int} (h : CycleSpec g i l) (h' : CycleSpec g i l') : l = l' := by
  by_cases hc : ValidG g ∧ InR g.length i ∧ Reach1 (succs g) i i
  · obtain ⟨m, hm, h1⟩ := h.1 hc
    obtain ⟨m', hm', h2⟩ := h'.1 hc
    obtain rfl := hm.unique hm'
    exact h1.unique h2
  · rw [h.2 hc, h'.2 hc]
theorem CycTo.snoc {g : Gr} {i x : Int} {m t : Nat} {c : List Int} (h : CycTo g i m t c) (h0 : t = 0 → x = i) (hs : ∀ y, c[t - 1]? = some y → 0 < t → FirstOf (succs g y) (D1 (succs g) i (m - t)) x) : CycTo g i m (t + 1) (c ++ [x]) := by
  refine ⟨by simp [h.1], fun _ => ?_, fun s a b ha hb => ?_⟩
  · by_cases ht : t = 0
    · have hc : c = [] := List.eq_nil_of_length_eq_zero (by rw [h.1]; exact ht)
      subst hc; rw [h0 ht]; rfl
    · rw [List.getElem?_append_left (by rw [h.1]; omega)]; exact h.2.1 (by omega)
  · have hlt : s + 1 < (c ++ [x]).length := (List.getElem?_eq_some_iff.1 hb).1
    simp only [List.length_append, List.length_singleton, h.1] at hlt
    rw [List.getElem?_append_left (by rw [h.1]; omega)] at ha
    by_cases e : s + 1 = t
    · rw [List.getElem?_append_right (by rw [h.1]; omega), h.1, e, Nat.sub_self] at hb
      have hbx : b = x := by simpa using hb.symm
      subst hbx
      have h2 := hs a (by rw [show t - 1 = s by omega]; exact ha) (by omega)
      rwa [show m - 1 - s = m - t by omega]
    · rw [List.getElem?_append_left (by rw [h.1]; omega)] at hb
      exact h.2.2 s a b ha hb
theorem dst_d1 {adj : Int → List Int} {to x : Int} {k : Nat} (h : Dst adj to k x) (hk : 1 ≤ k) : D1 adj to k x := ⟨hk, h.1, fun j _ hj => h.2 j hj⟩
theorem dst_zero {adj : Int → List Int} {to x : Int} (h : Dst adj to 0 x) : x = to := by have := h.1; cases this; rfl
theorem dst_self {adj : Int → List Int} {to : Int} {k : Nat} (h : Dst adj to k to) : k = 0 := Nat.le_zero.1 (h.2 0 (.nil to))
theorem far_dst {g : Gr} {to x : Int} {fs : List Int} (h : FarSpec g to fs) (hx : InR g.length x) (h0 : 0 ≤ fa fs x) : Dst (succs g) to (fa fs x).toNat x :=
  ⟨(h.2 x hx).1 h0, fun j hj => by have := ((h.2 x hx).2 j hj).2; omega⟩
theorem dst_far {g : Gr} {to x : Int} {fs : List Int} {k : Nat} (h : FarSpec g to fs) (hx : InR g.length x) (hd : Dst (succs g) to k x) : fa fs x = k := by
  obtain ⟨h1, h2⟩ := (h.2 x hx).2 k hd.1
  have := hd.2 _ ((h.2 x hx).1 h1)
  omega
theorem D1.succ {adj : Int → List Int} {to x : Int} {k : Nat} (h : D1 adj to k x) : (∃ y, y ∈ adj x ∧ Dst adj to (k - 1) y) ∧ ∀ y, y ∈ adj x → ∀ j, Pth adj j y to → k - 1 ≤ j := by
  obtain ⟨h1, hp, hmin⟩ := h
  have h2 : ∀ y, y ∈ adj x → ∀ j, Pth adj j y to → k - 1 ≤ j := fun y hy j hj => by have := hmin (j + 1) (by omega) (.cons hy hj); omega
  refine ⟨?_, h2⟩
  cases hp with
  | nil => omega
  | cons hm hp => exact ⟨_, hm, hp, fun j hj => h2 _ hm j hj⟩
def Best (l fs : List Int) (k : Nat) (b : Int) : Prop :=
  (b = -1 ∧ ∀ j (h : j < l.length), j < k → fa fs l[j] < 0) ∨
  ∃ t, ∃ h : t < l.length, t < k ∧ b = l[t] ∧ 0 ≤ fa fs b ∧ (∀ j (h : j < l.length), j < k → fa fs l[j] < 0 ∨ fa fs b ≤ fa fs l[j]) ∧ ∀ j (h : j < l.length), j < t → fa fs l[j] < 0 ∨ fa fs b < fa fs l[j]
theorem Best.keep {l fs : List Int} {k : Nat} {b : Int} (h : Best l fs k b) (hk : k < l.length) (hn : fa fs l[k] < 0 ∨ (0 ≤ b ∧ fa fs b ≤ fa fs l[k])) : Best l fs (k + 1) b := by
  rcases h with ⟨hb, h⟩ | ⟨t, ht, htk, hb, h0, h1, h2⟩
  · refine .inl ⟨hb, fun j hj hjk => ?_⟩
    by_cases e : j = k
    · subst e; rcases hn with hn | hn
      · exact hn
      · omega
    · exact h j hj (by omega)
  · refine .inr ⟨t, ht, by omega, hb, h0, fun j hj hjk => ?_, h2⟩
    by_cases e : j = k
    · subst e; exact hn.imp id (·.2)
    · exact h1 j hj (by omega)
theorem Best.take {l fs : List Int} {k : Nat} {b : Int} (h : Best l fs k b) (hk : k < l.length) (hn : 0 ≤ fa fs l[k]) (hb2 : b < 0 ∨ fa fs l[k] < fa fs b) (hr : ∀ y ∈ l, 0 ≤ y) : Best l fs (k + 1) l[k] := by
  rcases h with ⟨hb, h⟩ | ⟨t, ht, htk, hb, h0, h1, h2⟩
  · refine .inr ⟨k, hk, by omega, rfl, hn, fun j hj hjk => ?_, fun j hj hjk => .inl (h j hj hjk)⟩
    by_cases e : j = k
    · subst e; exact .inr (Int.le_refl _)
    · exact .inl (h j hj (by omega))
  · have hlt : fa fs l[k] < fa fs b := by
      rcases hb2 with hb2 | hb2
      · have := hr _ (List.getElem_mem ht); omega
      · exact hb2
    refine .inr ⟨k, hk, by omega, rfl, hn, fun j hj hjk => ?_, fun j hj hjk => ?_⟩
    · by_cases e : j = k
      · subst e; exact .inr (Int.le_refl _)
      · rcases h1 j hj (by omega) with h3 | h3
        · exact .inl h3
        · exact .inr (by omega)
    · rcases h1 j hj (by omega) with h3 | h3
      · exact .inl h3
      · exact .inr (by omega)
theorem Best.found {g : Gr} {to x b : Int} {fs : List Int} {k : Nat} (hv : ValidG g) (hf : FarSpec g to fs) (hx : InR g.length x) (hd : D1 (succs g) to k x) (h : Best (succs g x) fs (succs g x).length b) :
    b ∈ succs g x ∧ Dst (succs g) to (k - 1) b ∧ (2 ≤ k → FirstOf (succs g x) (D1 (succs g) to (k - 1)) b) := by
  obtain ⟨⟨y, hy, hyd⟩, hall⟩ := hd.succ
  have hyr := hv.range x hx y hy
  have hfy := dst_far hf hyr hyd
  obtain ⟨j, hj, rfl⟩ := List.getElem_of_mem hy
  rcases h with ⟨_, h⟩ | ⟨t, ht, htk, rfl, h0, h1, h2⟩
  · have := h j hj hj; omega
  · have hm : (succs g x)[t] ∈ succs g x := List.getElem_mem _
    have hr := hv.range x hx _ hm
    have hdb := far_dst hf hr h0
    have hle := hall _ hm _ hdb.1
    have he : (fa fs (succs g x)[t]).toNat = k - 1 := by
      rcases h1 j hj hj with h3 | h3 <;> omega
    rw [he] at hdb
    refine ⟨hm, hdb, fun hk => ⟨t, ht, rfl, dst_d1 hdb (by omega), fun j' hj' hjt hp => ?_⟩⟩
    have hr' := hv.range x hx _ (List.getElem_mem hj')
    obtain ⟨h4, h5⟩ := (hf.2 _ hr').2 _ hp.2.1
    rcases h2 j' hj' hjt with h6 | h6 <;> omega
theorem rev_reach {g : Gr} {x y : Int} (h : Reach1 (preds g) x y) : Reach1 (succs g) y x := by
  induction h with
  | one h => exact .one (mem_preds.1 h).2
  | more _ h ih => exact reach_of_cons (mem_preds.1 h).2 ih
theorem reach_rev {g : Gr} (hv : ValidG g) {x y : Int} (h : Reach1 (succs g) x y) (hx : InR g.length x) : Reach1 (preds g) y x := by
  have key : InR g.length y ∧ Reach1 (preds g) y x := by
    induction h with
    | one h => exact ⟨hv.range _ hx _ h, .one (mem_preds.2 ⟨hx, h⟩)⟩
    | more _ h ih =>
      obtain ⟨h1, h2⟩ := ih
      exact ⟨hv.range _ h1 _ h, reach_of_cons (mem_preds.2 ⟨h1, h⟩) h2⟩
  exact key.2
theorem d1_of_reach {adj : Int → List Int} {x y : Int} (h : Reach1 adj x y) : ∃ m, D1 adj y m x := by
  obtain ⟨k, h1, h2⟩ := reach_pth h
  obtain ⟨m, ⟨a, b⟩, c⟩ := least_of (p := fun k => 1 ≤ k ∧ Pth adj k x y) ⟨h1, h2⟩
  exact ⟨m, a, b, fun j h1 h2 => c j ⟨h1, h2⟩⟩
theorem preds_range {g : Gr} : ∀ x, InR g.length x → ∀ y ∈ preds g x, InR g.length y := fun _ _ _ hy => (mem_preds.1 hy).1
def Round (g : Gr) (i : Int) (m t : Nat) (c : List Int) (x : Int) : Prop :=
  CycTo g i m t c ∧ t ≤ m ∧ InR g.length x ∧ (t = 0 → x = i) ∧ (0 < t → Dst (succs g) i (m - t) x ∧ (t < m → ∀ y, c[t - 1]? = some y → FirstOf (succs g y) (D1 (succs g) i (m - t)) x))
theorem Round.start (g : Gr) {i : Int} {m : Nat} (hi : InR g.length i) : Round g i m 0 [] i := ⟨⟨rfl, fun h => by omega, fun s x y h => by simp at h⟩, Nat.zero_le _, hi, fun _ => rfl, fun h => by omega⟩
theorem Round.stop {g : Gr} {i x : Int} {m t : Nat} {c : List Int} (h : Round g i m t c x) (ht : 0 < t) (hx : x = i) : CycTo g i m m c := by
  have := dst_self (hx ▸ (h.2.2.2.2 ht).1)
  have e : t = m := by have := h.2.1; omega
  subst e; exact h.1
theorem Round.d1 {g : Gr} {i x : Int} {m t : Nat} {c : List Int} (h : Round g i m t c x) (hm : D1 (succs g) i m i) (hx : t = 0 ∨ x ≠ i) : D1 (succs g) i (m - t) x ∧ t < m := by
  by_cases ht : t = 0
  · subst ht; rw [h.2.2.2.1 rfl]; exact ⟨hm, hm.1⟩
  · have hd := (h.2.2.2.2 (by omega)).1
    have hne : m - t ≠ 0 := fun e => by
      rw [e] at hd
      rcases hx with hx | hx
      · exact ht hx
      · exact hx (dst_zero hd)
    exact ⟨dst_d1 hd (by omega), by omega⟩
theorem Round.next {g : Gr} {i x b : Int} {m t : Nat} {c : List Int} (hv : ValidG g) (h : Round g i m t c x) (hm : D1 (succs g) i m i) (hx : t = 0 ∨ x ≠ i) {fs : List Int} (hf : FarSpec g i fs) (hb : Best (succs g x) fs (succs g x).length b) :
    Round g i m (t + 1) (c ++ [x]) b := by
  obtain ⟨hd, hlt⟩ := h.d1 hm hx
  obtain ⟨b1, b2, b3⟩ := hb.found hv hf h.2.2.1 hd
  refine ⟨h.1.snoc h.2.2.2.1 (fun y hy h0 => (h.2.2.2.2 h0).2 hlt y hy), by omega, hv.range _ h.2.2.1 _ b1, by omega, fun _ => ⟨by rwa [show m - (t + 1) = m - t - 1 by omega], fun hlt2 y hy => ?_⟩⟩
  rw [show t + 1 - 1 = c.length by have := h.1.1; omega, List.getElem?_append_right (Nat.le_refl _), Nat.sub_self] at hy
  have : x = y := by simpa using hy
  subst this
  have := b3 (by omega)
  rwa [show m - (t + 1) = m - t - 1 by omega]
end Go.Proofs.YtogeihdfmnohnaaGreatDoor.Wg
namespace Go.Proofs.YtogeihdfmnohnaaGreatDoor.Wg
open Go.RowKit
def ListsAt (w : World) (B : Nat) (A : Option Addr) (ls : List (List Int)) : Prop :=
  ∀ i (h : i < ls.length), ∃ b off nA ncap, A = some ⟨b, off, none⟩ ∧ b < B ∧ w.cell? ⟨b, off + i, none⟩ = some (.slice nA ls[i].length ncap) ∧ IntsAt w B nA ls[i]
theorem ListsAt.nil (w : World) (B : Nat) (A : Option Addr) : ListsAt w B A [] := fun i h => absurd h (by simp)
theorem ListsAt.below {w w' : World} {B B' B'' : Nat} {A : Option Addr} {ls : List (List Int)} (h : ListsAt w B A ls) (hb : Below B' w w') (hB : B ≤ B') (hB2 : B ≤ B'') : ListsAt w' B'' A ls := by
  intro i hi
  obtain ⟨b, off, nA, ncap, hA, hbB, hc, hn⟩ := h i hi
  exact ⟨b, off, nA, ncap, hA, by omega, by rw [hb.cell (p := ⟨b, _, none⟩) (show b < B' by omega)]; exact hc, hn.below hb hB hB2⟩
def OwnLists (w : World) (base : Nat) (v : Value) (ls : List (List Int)) : Prop :=
  base ≤ w.heap.size ∧ ∃ vs, w.ownsRow base 35 1 v ls.length vs ∧ ∀ i (h : i < ls.length), ∃ nA ncap, vs[i]? = some (.slice nA ls[i].length ncap) ∧ IntsAt w w.heap.size nA ls[i] ∧ (0 < ls[i].length → ∀ a, nA = some a → v.ownBlock ≠ some a.block)
theorem intsInfo : (Tryz.prog.info? 35).map (fun i => (i.zero, i.size, i.bytes)) = some (some (.slice none 0 0), 1, 24) := by kernel_rfl
theorem OwnLists.nil (w : World) (base : Nat) (hb : base ≤ w.heap.size) : OwnLists w base (.slice none 0 0) [] := ⟨hb, [], World.ownsRow_nil _ _ _ _, fun i h => absurd h (by simp)⟩
theorem OwnLists.below {w w' : World} {base : Nat} {v : Value} {ls : List (List Int)} (h : OwnLists w base v ls) (hb : Below w.heap.size w w') : OwnLists w' base v ls := by
  obtain ⟨h0, vs, ⟨h1, h2⟩, h3⟩ := h
  refine ⟨Nat.le_trans h0 hb.size, vs, ⟨h1, ?_⟩, fun i hi => ?_⟩
  · rcases h2 with hn | ⟨g, cap, cur, hv, hg, hh, rest⟩
    · exact .inl hn
    · have hlt := (Array.getElem?_eq_some_iff.1 hh).1
      exact .inr ⟨g, cap, cur, hv, hg, by rw [hb.block g hlt]; exact hh, rest⟩
  · obtain ⟨nA, ncap, e, hi2, hap⟩ := h3 i hi
    exact ⟨nA, ncap, e, hi2.below hb (Nat.le_refl _) hb.size, hap⟩
theorem OwnLists.form {w : World} {base : Nat} {v : Value} {ls : List (List Int)} (h : OwnLists w base v ls) :
    ∃ A cap, v = .slice A ls.length cap ∧ ListsAt w w.heap.size A ls ∧ ls.length ≤ cap ∧ ls.length ≤ 9223372036854775807 := by
  obtain ⟨h0, vs, h1, h3⟩ := h
  rcases h1.2 with ⟨hv, hn⟩ | ⟨g, cap, cur, hv, hg, hh, hnc, hcm, hcs, ht⟩
  · exact ⟨none, 0, by rw [hv, hn], fun j hj => absurd hj (by omega), by omega, by omega⟩
  · refine ⟨_, cap, hv, fun j hj => ?_, hnc, by unfold maxLen at hcm; omega⟩
    obtain ⟨nA, ncap, e, hi2, _⟩ := h3 j hj
    refine ⟨g, 0, nA, ncap, rfl, (Array.getElem?_eq_some_iff.1 hh).1, ?_, hi2⟩
    have h1 : w.cell? ⟨g, 0 + j, none⟩ = cur[0 + j]? := by simp [World.cell?, hh]
    rw [h1, Nat.zero_add, ← e, ← ht, List.getElem?_take_of_lt (by omega), Array.getElem?_toList]
theorem OwnLists.block {w : World} {base : Nat} {v : Value} {ls : List (List Int)} (h : OwnLists w base v ls) : ∀ k, v.ownBlock = some k → base ≤ k ∧ k < w.heap.size := by
  obtain ⟨_, vs, h1, _⟩ := h
  exact h1.lt
theorem pushList {ops : Array Oper} {rest : List Oper} {o : Oper} {a : Act} {Q : Exit → Act → World → Prop} (hgd : o.guard = none) (s x : Operand)
    (ho : o.op = .call { callee := .builtin .append, args := #[s, x], argTypes := #[39, 39] })
    (w : World) (base : Nat) (v : Value) (ls : List (List Int)) (l : List Int) (nA : Option Addr) (ncap : Nat) (hs : a.eval s = v) (hown : OwnLists w base v ls) (hn : IntsAt w w.heap.size nA l) (hap : 0 < l.length → ∀ a, nA = some a → v.ownBlock ≠ some a.block)
    (nb : Nat) (hx : a.eval x = .slice (some ⟨nb, 0, none⟩) 1 1) (hnb : nb = w.heap.size) (hl : ls.length < 1099511627776)
    (h : ∀ v' w', OwnLists w' base v' (ls ++ [l]) → Below base w w' → Spares w w' v v' → wpList Tryz.prog ops Q rest (a.put o.dst v') w') :
    wpList Tryz.prog ops Q (o :: rest) a (w.alloc (.cells #[.slice nA l.length ncap] 35)) := by
  subst hnb
  obtain ⟨i0, hi, hz0, hz1, hz2⟩ := info_parts intsInfo
  obtain ⟨h0, vs, h1, h3⟩ := hown
  refine wpList_append_own_at _ hgd s x 39 ho base 35 i0 (.slice none 0 0) 1 24 Tryz.underlying39 hi hz0 hz1 hz2 rfl (by decide) v ls.length vs hs (h1.alloc _) ⟨w.heap.size, 0, none⟩ 1 1 [.slice nA l.length ncap] hx rfl
    (cell_one_new _ _ _) (by simp [Value.oneCell']) (by unfold maxLen; omega) (by omega) (by simp; omega) ?_
  intro v' w' h4 h5 _ h6
  have hb : Below base w w' := ((Below.refl base w).alloc h0 _).grown h5 (by simp; omega) (fun k hk => (h1.lt k hk).1)
  have hsp : Spares w w' v v' := fun b hb2 hne => ⟨(h5.block b (by simp; omega) (fun e => hne e.symm)).trans (Below.heap_alloc w _ b hb2), by
    rcases h6 with e | e
    · rw [e]; exact hne
    · rw [e]; simp; omega⟩
  have keep : ∀ (mA : Option Addr) (m : List Int), IntsAt w w.heap.size mA m → (0 < m.length → ∀ a, mA = some a → v.ownBlock ≠ some a.block) → IntsAt w' w'.heap.size mA m ∧ (0 < m.length → ∀ a, mA = some a → v'.ownBlock ≠ some a.block) := by
    intro mA m hm hma
    rcases Nat.eq_zero_or_pos m.length with hz | hz
    · exact ⟨fun j hj => by omega, fun h => by omega⟩
    · refine ⟨hm.same (fun a ha hlt => (hsp a.block hlt (hma hz a ha)).1) hb.size, fun _ a ha => ?_⟩
      obtain ⟨b, off, e, hlt, _⟩ := hm 0 hz
      rw [ha] at e
      injection e with e
      subst e
      exact (hsp b hlt (hma hz _ ha)).2
  have hlen : (ls ++ [l]).length = ls.length + 1 := by simp
  refine h v' w' ⟨Nat.le_trans h0 hb.size, vs ++ [.slice nA l.length ncap], by rw [hlen]; exact h4, fun i hi2 => ?_⟩ hb hsp
  have hvs : vs.length = ls.length := by simpa using h1.1
  by_cases e : i < ls.length
  · obtain ⟨mA, mcap, e1, e2, e3⟩ := h3 i e
    obtain ⟨k1, k2⟩ := keep mA _ e2 e3
    rw [List.getElem_append_left e]
    exact ⟨mA, mcap, by rw [List.getElem?_append_left (by omega)]; exact e1, k1, k2⟩
  · have e2 : i = ls.length := by omega
    subst e2
    obtain ⟨k1, k2⟩ := keep nA l hn hap
    have hl1 : (ls ++ [l])[ls.length] = l := by simp
    simp only [hl1]
    exact ⟨nA, ncap, by rw [List.getElem?_append_right (by omega), hvs, Nat.sub_self]; rfl, k1, k2⟩
def RetLists (w : World) (P : List (List Int) → Prop) (e : Ending) (w' : World) : Prop :=
  ∃ A ls cap, e = .returned (.slice A ls.length cap) ∧ ListsAt w' w'.heap.size A ls ∧ P ls ∧ ls.length ≤ 4611686018427387904 ∧ (∀ i (h : i < ls.length), ls[i].length ≤ 4611686018427387904) ∧ Below w.heap.size w w'
end Go.Proofs.YtogeihdfmnohnaaGreatDoor.Wg
namespace Go.Proofs.YtogeihdfmnohnaaGreatDoor.Wg
open Go.RowKit
def knotB (R : Nat → List Int) (i : Nat) : Bool := decide ((R i).head? = some (i : Int) ∧ ∀ y ∈ R i, R y.toNat = R i)
def kn (R : Nat → List Int) (k : Nat) : List (List Int) := ((List.range k).filter (knotB R)).map R
def KnotsSpec (g : Gr) (ls : List (List Int)) : Prop :=
  (ValidG g → ∃ R : Nat → List Int, (∀ i, i < g.length → IsSet g.length (Reach1 (succs g) i) (R i)) ∧ ls = kn R g.length) ∧ (¬ ValidG g → ls = [])
theorem kn_succ (R : Nat → List Int) (k : Nat) : kn R (k + 1) = if knotB R k then kn R k ++ [R k] else kn R k := by
  unfold kn
  rw [List.range_succ, List.filter_append, List.map_append]
  by_cases h : knotB R k = true <;> simp [h]
theorem kn_length (R : Nat → List Int) (k : Nat) : (kn R k).length ≤ k := by
  unfold kn
  have := List.length_filter_le (knotB R) (List.range k)
  simpa using this
theorem IsSet.range {n : Nat} {P : Int → Prop} {l : List Int} (h : IsSet n P l) : ∀ y ∈ l, InR n y ∧ P y := by
  obtain ⟨f, hf, rfl⟩ := h
  intro y hy
  obtain ⟨h1, h2⟩ := List.mem_map.1 hy
  obtain ⟨h3, rfl⟩ := h2
  obtain ⟨h4, h5⟩ := List.mem_filter.1 h3
  exact ⟨⟨Int.natCast_nonneg h1, Int.ofNat_lt.2 (List.mem_range.1 h4)⟩, (hf h1 (List.mem_range.1 h4)).1 h5⟩
theorem IsSet.length_le {n : Nat} {P : Int → Prop} {l : List Int} (h : IsSet n P l) : l.length ≤ n := by
  obtain ⟨f, _, rfl⟩ := h
  exact idxs_length f n
theorem KnotsSpec.unique {g : Gr} {a b : List (List Int)} (h : KnotsSpec g a) (h' : KnotsSpec g b) : a = b := by
  by_cases hv : ValidG g
  · obtain ⟨R, hR, rfl⟩ := h.1 hv
    obtain ⟨R', hR', rfl⟩ := h'.1 hv
    have e : ∀ i, i < g.length → R i = R' i := fun i hi => (hR i hi).unique (hR' i hi)
    unfold kn
    rw [List.filter_congr (q := knotB R') fun i hi => ?_]
    · exact List.map_congr_left fun i hi => e i (List.mem_range.1 (List.mem_filter.1 hi).1)
    · have hi2 := List.mem_range.1 hi
      have hr := (hR i hi2).range
      rw [Bool.eq_iff_iff]
      unfold knotB
      rw [decide_eq_true_iff, decide_eq_true_iff, e i hi2]
      rw [e i hi2] at hr
      refine and_congr Iff.rfl ⟨fun h y hy => ?_, fun h y hy => ?_⟩
      · rw [← e y.toNat (by have := (hr y hy).1; have h1 := this.1; have h2 := this.2; omega)]; exact h y hy
      · rw [e y.toNat (by have := (hr y hy).1; have h1 := this.1; have h2 := this.2; omega)]; exact h y hy
  · rw [h.2 hv, h'.2 hv]
theorem reach_sets (g : Gr) : ∃ R : Nat → List Int, ∀ i : Nat, IsSet g.length (Reach1 (succs g) i) (R i) :=
  ⟨fun i => idxs (fun j => @decide (Reach1 (succs g) i j) (Classical.propDecidable _)) g.length, fun i => ⟨_, fun j _ => by simp, rfl⟩⟩
end Go.Proofs.YtogeihdfmnohnaaGreatDoor.Wg
namespace Go.Proofs.YtogeihdfmnohnaaGreatDoor.Wg
def gA : Gr := [⟨1, [1]⟩, ⟨1, [0]⟩]
def gB : Gr := [⟨1, [1, 2]⟩, ⟨1, [0]⟩, ⟨0, []⟩]
theorem two_cases {x : Int} (h : InR 2 x) : x = 0 ∨ x = 1 := by have h1 := h.1; have h2 := h.2; omega
theorem three_cases {x : Int} (h : InR 3 x) : x = 0 ∨ x = 1 ∨ x = 2 := by have h1 := h.1; have h2 := h.2; omega
theorem fitsA : FitsG gA := by
  refine ⟨by decide, fun i hi => ?_⟩
  have hi2 : i < 2 := hi
  rcases (by omega : i = 0 ∨ i = 1) with rfl | rfl
  all_goals
    refine ⟨by simp [gA], by simp [gA], fun j hj => ?_⟩
    have hj2 : j < 1 := hj
    obtain rfl : j = 0 := by omega
    simp [gA]
theorem fitsB : FitsG gB := by
  refine ⟨by decide, fun i hi => ?_⟩
  have hi2 : i < 3 := hi
  rcases (by omega : i = 0 ∨ i = 1 ∨ i = 2) with rfl | rfl | rfl
  · refine ⟨by simp [gB], by simp [gB], fun j hj => ?_⟩
    have hj2 : j < 2 := hj
    rcases (by omega : j = 0 ∨ j = 1) with rfl | rfl <;> simp [gB]
  · refine ⟨by simp [gB], by simp [gB], fun j hj => ?_⟩
    have hj2 : j < 1 := hj
    obtain rfl : j = 0 := by omega
    simp [gB]
  · exact ⟨by simp [gB], by simp [gB], fun j hj => absurd hj (Nat.not_lt_zero j)⟩
theorem validA : ValidG gA := by
  refine ⟨by decide, fun i hi => ?_⟩
  have hi2 : i < 2 := hi
  rcases (by omega : i = 0 ∨ i = 1) with rfl | rfl
  all_goals
    refine ⟨by simp [gA], by simp [gA], by simp [gA], fun j hj _ => ?_⟩
    have hj2 : j < 1 := hj
    obtain rfl : j = 0 := by omega
    simp [gA]
theorem validB : ValidG gB := by
  refine ⟨by decide, fun i hi => ?_⟩
  have hi2 : i < 3 := hi
  rcases (by omega : i = 0 ∨ i = 1 ∨ i = 2) with rfl | rfl | rfl
  · refine ⟨by simp [gB], by simp [gB], by simp [gB], fun j hj _ => ?_⟩
    have hj2 : j < 2 := hj
    rcases (by omega : j = 0 ∨ j = 1) with rfl | rfl <;> simp [gB]
  · refine ⟨by simp [gB], by simp [gB], by simp [gB], fun j hj _ => ?_⟩
    have hj2 : j < 1 := hj
    obtain rfl : j = 0 := by omega
    simp [gB]
  · exact ⟨by simp [gB], by simp [gB], by simp [gB], fun j hj _ => absurd hj (Nat.not_lt_zero j)⟩
theorem all_set {n : Nat} {P : Int → Prop} (h : ∀ x, InR n x → P x) : IsSet n P (idxs (fun _ => true) n) := ⟨_, fun j hj => by simp [h j ⟨by omega, by omega⟩], rfl⟩
theorem none_set {n : Nat} {P : Int → Prop} (h : ∀ x, InR n x → ¬ P x) : IsSet n P (idxs (fun _ => false) n) := ⟨_, fun j hj => by simp [h j ⟨by omega, by omega⟩], rfl⟩
theorem stuckA {l : List Int} (h : StuckSpec gA l) : l = [0, 1] :=
  (h.1 validA).unique (all_set fun x _ => ⟨fun _ => true, rfl, fun y hy _ => by rcases two_cases hy with rfl | rfl <;> decide⟩)
theorem stuckB {l : List Int} (h : StuckSpec gB l) : l = [] := by
  refine (h.1 validB).unique (none_set fun x hx => ?_)
  rintro ⟨S, hS, hall⟩
  have h2 : S 2 = false := by
    cases h : S 2 with
    | false => rfl
    | true => have := hall 2 ⟨by decide, by decide⟩ h; exact absurd this (by simp [kOf, gB])
  have h0 : S 0 = false := by
    cases h : S 0 with
    | false => rfl
    | true => have := hall 0 ⟨by decide, by decide⟩ h; exact absurd this (by simp [kOf, gB, cntD, succs, List.countP_cons, h2]; omega)
  have h1 : S 1 = false := by
    cases h : S 1 with
    | false => rfl
    | true => have := hall 1 ⟨by decide, by decide⟩ h; exact absurd this (by simp [kOf, gB, cntD, succs, h0])
  rcases three_cases hx with rfl | rfl | rfl
  · rw [h0] at hS; cases hS
  · rw [h1] at hS; cases hS
  · rw [h2] at hS; cases hS
theorem reachA0 : ∀ x, InR 2 x → Reach1 (succs gA) 0 x := fun x hx => by
  have h01 : Reach1 (succs gA) 0 1 := .one (by decide)
  rcases two_cases hx with rfl | rfl
  · exact .more h01 (by decide)
  · exact h01
theorem reachA1 : ∀ x, InR 2 x → Reach1 (succs gA) 1 x := fun x hx => by
  have h10 : Reach1 (succs gA) 1 0 := .one (by decide)
  rcases two_cases hx with rfl | rfl
  · exact h10
  · exact .more h10 (by decide)
theorem reachB0 : ∀ x, InR 3 x → Reach1 (succs gB) 0 x := fun x hx => by
  have h01 : Reach1 (succs gB) 0 1 := .one (by decide)
  rcases three_cases hx with rfl | rfl | rfl
  · exact .more h01 (by decide)
  · exact h01
  · exact .one (by decide)
theorem reachB1 : ∀ x, InR 3 x → Reach1 (succs gB) 1 x := fun x hx => reach_of_cons (y := 0) (by decide) (reachB0 x hx)
theorem reachB2 : ∀ x, InR 3 x → ¬ Reach1 (succs gB) 2 x := fun x _ h => by
  have : ∀ y z, Reach1 (succs gB) y z → y = 2 → False := by
    intro y z h
    induction h with
    | one h => intro e; subst e; simp [succs, gB] at h
    | more _ _ ih => exact ih
  exact this 2 x h rfl
theorem reachB_spec {l : List Int} (h : ReachSpec gB 0 l) : l = [0, 1, 2] := (h.1 ⟨validB, by decide, by decide⟩).unique (all_set reachB0)
theorem cycleA {l : List Int} (h : CycleSpec gA 1 l) : l.length = 2 ∧ l[0]? = some 1 := by
  obtain ⟨m, hm, hc⟩ := h.1 ⟨validA, ⟨by decide, by decide⟩, reachA1 1 ⟨by decide, by decide⟩⟩
  have h2 : Pth (succs gA) 2 1 1 := .cons (y := 0) (by decide) (.cons (y := 1) (by decide) (.nil 1))
  have hle := hm.2.2 2 (by omega) h2
  have h1 : m ≠ 1 := by
    rintro rfl
    have := hm.2.1
    cases this with
    | cons h1 h2 => cases h2 with
      | nil => exact absurd h1 (by decide)
  have hpos := hm.1
  obtain rfl : m = 2 := by omega
  exact ⟨hc.1, hc.2.1 (by omega)⟩
theorem knotsA {ls : List (List Int)} (h : KnotsSpec gA ls) : ls = [[0, 1]] := by
  obtain ⟨R, hR, rfl⟩ := h.1 validA
  have r0 : R 0 = [0, 1] := (hR 0 (by decide)).unique (all_set reachA0)
  have r1 : R 1 = [0, 1] := (hR 1 (by decide)).unique (all_set reachA1)
  show kn R 2 = _
  rw [kn_succ, kn_succ]
  have k0 : knotB R 0 = true := by unfold knotB; rw [r0]; simp [r0, r1]
  have k1 : knotB R 1 = false := by unfold knotB; rw [r1]; simp
  rw [k0, k1, r0]
  rfl
theorem knotsB {ls : List (List Int)} (h : KnotsSpec gB ls) : ls = [] := by
  obtain ⟨R, hR, rfl⟩ := h.1 validB
  have r0 : R 0 = [0, 1, 2] := (hR 0 (by decide)).unique (all_set reachB0)
  have r1 : R 1 = [0, 1, 2] := (hR 1 (by decide)).unique (all_set reachB1)
  have r2 : R 2 = [] := (hR 2 (by decide)).unique (none_set reachB2)
  show kn R 3 = _
  rw [kn_succ, kn_succ, kn_succ]
  have k0 : knotB R 0 = false := by unfold knotB; rw [r0]; simp [r0, r1, r2]
  have k1 : knotB R 1 = false := by unfold knotB; rw [r1]; simp
  have k2 : knotB R 2 = false := by unfold knotB; rw [r2]; simp
  rw [k0, k1, k2]
  rfl
end Go.Proofs.YtogeihdfmnohnaaGreatDoor.Wg
