/- Rows of the call's own: their beginnings; stores of whole elements; stores behind the end. -/
import Derived.Test.YtambinjjfapcgaaDoorRows2
import Derived.Laws.OwnMore
namespace Go.Proofs.YtambinjjfapcgaaDoor
open Go.RowKit
section
variable {α : Type} {E : El α} {w w' : World} {l : List α} {base : Nat} {e : TypeId} {size : Nat} {xs : List Value} {g n cap : Nat}

theorem set_in {xs : List Value} {j : Nat} {v : Value} (r : List Value) (h : j + 1 + r.length ≤ xs.length) : (xs.set j v).take (j + 1) ++ r ++ (xs.set j v).drop (j + 1 + r.length) = xs.take j ++ v :: r ++ xs.drop (j + (v :: r).length) := by
  have h1 : (xs.set j v).take (j + 1) = xs.take j ++ [v] := by
    rw [List.set_eq_take_append_cons_drop, if_pos (by omega), List.take_append, List.length_take, Nat.min_eq_left (by omega), List.take_of_length_le (by rw [List.length_take]; omega), show j + 1 - j = 1 by omega]
    rfl
  have h2 : (xs.set j v).drop (j + 1 + r.length) = xs.drop (j + (v :: r).length) := by
    rw [List.drop_set_of_lt (by omega), List.length_cons]
    congr 1
    omega
  rw [h1, h2]
  simp
/-- Cells stored one behind another: in the row. -/
theorem ownsRow_in : ∀ (vs : List Value) (j : Nat) (w : World) (xs : List Value), w.ownsRow base e size (.slice (some ⟨g, 0, none⟩) n cap) n xs → j + vs.length ≤ xs.length →
    (w.setCells g j vs).ownsRow base e size (.slice (some ⟨g, 0, none⟩) n cap) n (xs.take j ++ vs ++ xs.drop (j + vs.length))
  | [], j, w, xs, h, _ => by simpa [World.setCells] using h
  | v :: r, j, w, xs, h, hl => by
    have hl' : j + 1 + r.length ≤ xs.length := by simp at hl; omega
    rw [World.setCells, ← set_in r hl']
    exact ownsRow_in r (j + 1) _ _ (h.stored j v).1 (by simpa using hl')
/-- .. behind it. -/
theorem ownsRow_off : ∀ (vs : List Value) (j : Nat) (w : World) (xs : List Value), w.ownsRow base e size (.slice (some ⟨g, 0, none⟩) n cap) n xs → xs.length ≤ j →
    (w.setCells g j vs).ownsRow base e size (.slice (some ⟨g, 0, none⟩) n cap) n xs
  | [], j, w, xs, h, _ => by simpa [World.setCells] using h
  | v :: r, j, w, xs, h, hl => by
    rw [World.setCells]
    have := (h.stored j v).1
    rw [List.set_eq_of_length_le hl] at this
    exact ownsRow_off r (j + 1) _ _ this (by omega)
theorem setCells_other : ∀ (vs : List Value) (j : Nat) (w : World) (b : Nat), b ≠ g → (w.setCells g j vs).heap[b]? = w.heap[b]?
  | [], _, _, _, _ => rfl
  | v :: r, j, w, b, h => by
    rw [World.setCells, setCells_other r (j + 1) _ b h]
    exact heap_setCell_other w ⟨g, j, none⟩ b v h
theorem setCells_size : ∀ (vs : List Value) (j : Nat) (w : World), (w.setCells g j vs).heap.size = w.heap.size
  | [], _, _ => rfl
  | v :: r, j, w => by
    rw [World.setCells, setCells_size r (j + 1)]
    simp [World.setCell]
theorem setCells_below {B : Nat} (hg : B ≤ g) : ∀ (vs : List Value) (j : Nat) (w' : World), Below B w w' → Below B w (w'.setCells g j vs)
  | [], _, _, h => h
  | v :: r, j, w', h => by
    rw [World.setCells]
    exact setCells_below hg r (j + 1) _ (h.setCell hg v)
/-- The beginning of a row of the call's own. -/
theorem OwnRows.cut (h : OwnRows E e w base (.slice (some ⟨g, 0, none⟩) l.length cap) l) {k : Nat} (hk : k ≤ l.length) : OwnRows E e w base (.slice (some ⟨g, 0, none⟩) k cap) (l.take k) := by
  obtain ⟨h0, xs, ⟨h1, h2⟩, h3⟩ := h
  refine ⟨h0, xs.take (k * E.n), ?_, h3.take k⟩
  rw [List.length_take, Nat.min_eq_left hk]
  have hle : k * E.n ≤ l.length * E.n := Nat.mul_le_mul_right _ hk
  refine ⟨by rw [List.length_take, h1, Nat.min_eq_left hle], ?_⟩
  rcases h2 with ⟨hv, _⟩ | ⟨g', cap', cur, hv, hg, hh, hnc, hcm, hcs, ht⟩
  · cases hv
  · injection hv with e1 _ e3
    injection e1 with e1
    injection e1 with e1
    subst e1
    subst e3
    refine .inr ⟨_, _, cur, rfl, hg, hh, by omega, hcm, hcs, ?_⟩
    rw [← ht, List.take_take, Nat.min_eq_left hle]
/-- A store of one element. -/
theorem OwnRows.setRow (h : OwnRows E e w base (.slice (some ⟨g, 0, none⟩) l.length cap) l) {i : Nat} (hi : i < l.length) {y : α} {cs : List Value}
    (hy : E.rep (w.setCells g (i * E.n) cs) (Oth (w.setCells g (i * E.n) cs) (.slice (some ⟨g, 0, none⟩) l.length cap)) y cs) :
    OwnRows E e (w.setCells g (i * E.n) cs) base (.slice (some ⟨g, 0, none⟩) l.length cap) (l.set i y) := by
  have hl := E.len hy
  refine h.setAll hi hy (setCells_size _ _ _) (fun b hb => setCells_other _ _ _ _ fun e => hb.2 (by rw [e]; rfl)) fun xs hx => ?_
  have := ownsRow_in cs (i * E.n) w xs hx (by
    rw [hl, hx.1]
    have := Nat.mul_le_mul_right E.n (show i + 1 ≤ l.length from hi)
    rw [Nat.add_mul, Nat.one_mul] at this
    exact this)
  rwa [hl] at this
/-- Stores behind the end of a row. -/
theorem OwnRows.off (h : OwnRows E e w base (.slice (some ⟨g, 0, none⟩) l.length cap) l) (vs : List Value) {j : Nat} (hj : l.length * E.n ≤ j) : OwnRows E e (w.setCells g j vs) base (.slice (some ⟨g, 0, none⟩) l.length cap) l := by
  obtain ⟨h0, xs, h1, h3⟩ := h
  refine ⟨by rw [setCells_size]; exact h0, xs, ownsRow_off vs j w xs h1 (by rw [h1.1]; exact hj), h3.same (fun b hb => setCells_other _ _ _ _ fun e => hb.2 (by rw [e]; rfl)) fun b hb => ⟨by rw [setCells_size]; exact hb.1, hb.2⟩⟩
/-- Every cell of a row is there, and none is frozen. -/
theorem OwnRows.cellAt (h : OwnRows E e w base (.slice (some ⟨g, 0, none⟩) l.length cap) l) {j : Nat} (hj : j < cap * E.n) : (w.cell? ⟨g, j, none⟩).isSome = true ∧ w.frozen? ⟨g, j, none⟩ = false := by
  obtain ⟨h0, xs, ⟨h1, h2⟩, h3⟩ := h
  rcases h2 with ⟨hv, _⟩ | ⟨g', cap', cur, hv, hg, hh, hnc, hcm, hcs, ht⟩
  · cases hv
  · injection hv with e1 _ e3
    injection e1 with e1
    injection e1 with e1
    subst e1
    subst e3
    refine ⟨?_, frozen_of_row w _ j cur e hh⟩
    have : w.cell? ⟨g, j, none⟩ = cur[j]? := by simp [World.cell?, hh]
    rw [this, Array.getElem?_eq_getElem (by rw [hcs]; exact hj)]
    rfl
end
end Go.Proofs.YtambinjjfapcgaaDoor
