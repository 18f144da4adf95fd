/- A row of the call's own through slices.SortFunc at structs (the kit's words HoldsK, sortWorldK). -/
import Derived.Test.YtambinjjfapcgaaDoorRows3
import Derived.Shelf.SlSortCmp.NoneTotal
namespace Go.Proofs.YtambinjjfapcgaaDoor
open Go.RowKit Go.Sort Go.Lib
section
variable {α : Type}

theorem flat_get (f : α → List Value) (k : Nat) (hk : ∀ x, (f x).length = k) (h0 : 0 < k) : ∀ (l : List α) (t : Nat), ((l.map f).flatten)[t]? = (l[t / k]?).bind fun x => (f x)[t % k]?
  | [], t => by simp
  | x :: l, t => by
    rw [List.map_cons, List.flatten_cons]
    rcases Nat.lt_or_ge t k with h | h
    · rw [List.getElem?_append_left (by rw [hk]; exact h), Nat.div_eq_of_lt h, Nat.mod_eq_of_lt h]
      rfl
    · rw [List.getElem?_append_right (by rw [hk]; exact h), hk, flat_get f k hk h0 l (t - k)]
      obtain ⟨u, rfl⟩ : ∃ u, t = u + k := ⟨t - k, by omega⟩
      rw [Nat.add_sub_cancel, Nat.add_div_right _ h0, Nat.add_mod_right]
      rfl
theorem flatK_toList [Inhabited α] (f : α → List Value) (k : Nat) (hk : ∀ x, (f x).length = k) (h0 : 0 < k) (l : List α) : (flatK f k l.toArray).toList = (l.map f).flatten := by
  apply List.ext_getElem?
  intro t
  rw [flat_get f k hk h0]
  rcases Nat.lt_or_ge t (l.length * k) with h | h
  · have hd : t / k < l.length := (Nat.div_lt_iff_lt_mul h0).2 h
    have hm : t % k < k := Nat.mod_lt _ h0
    rw [Array.getElem?_toList, Array.getElem?_eq_getElem (by simpa using h), ← getElem!_pos _ t (by simpa using h), get_flatK _ _ _ _ (by simpa using h), getElem!_pos _ (t / k) (by simpa using hd), List.getElem?_eq_getElem hd, Option.bind_some, getElem!_pos _ (t % k) (by rw [hk]; exact hm), List.getElem?_eq_getElem (by rw [hk]; exact hm)]
    rfl
  · have hd : l.length ≤ t / k := by
      rw [Nat.le_div_iff_mul_le h0]
      exact h
    rw [List.getElem?_eq_none hd, Array.getElem?_toList, Array.getElem?_eq_none (by simpa using h)]
    rfl
variable {n : Nat} {pos : 0 < n} {f : α → List Value} {len : ∀ x, (f x).length = n} {one : ∀ x, ∀ u ∈ f x, u.oneCell' = true} {w : World} {S : Nat → Prop} {base : Nat} {e : TypeId} {g cap : Nat} {l : List α}
theorem Reps.plain : ∀ {l : List α} {xs : List Value}, Reps (El.plain n pos f len one) w S l xs → xs = (l.map f).flatten
  | [], xs, h => h
  | x :: l, xs, h => by
    obtain ⟨cs, rest, rfl, h1, h2⟩ := h
    rw [Reps.plain h2, show cs = f x from h1]
    rfl
theorem Reps.plain_mk : ∀ (l : List α), Reps (El.plain n pos f len one) w S l (l.map f).flatten
  | [] => rfl
  | x :: l => ⟨f x, (l.map f).flatten, rfl, rfl, Reps.plain_mk l⟩
/-- A row of the call's own, in the sort's words. -/
theorem OwnRows.holdsK [Inhabited α] (h : OwnRows (El.plain n pos f len one) e w base (.slice (some ⟨g, 0, none⟩) l.length cap) l) : HoldsK f n w g 0 l.toArray := by
  intro t ht
  rw [size_flatK] at ht
  have ht' : t < l.length * n := ht
  have hcapn : l.length ≤ cap := by
    obtain ⟨A, cap', hA, _, hc, _⟩ := h.form
    injection hA with _ _ e3
    omega
  have hcell := h.cellAt (j := t) (Nat.lt_of_lt_of_le ht' (Nat.mul_le_mul_right _ hcapn))
  rw [Nat.zero_add]
  refine ⟨?_, hcell.2⟩
  obtain ⟨h0, xs, ⟨h1, h2⟩, h3⟩ := h
  rcases h2 with ⟨hv, _⟩ | ⟨g', cap', cur, hv, hg, hh, hnc, hcm, hcs, htk⟩
  · cases hv
  · injection hv with e1 _ e3
    injection e1 with e1
    injection e1 with e1
    subst e1
    subst e3
    have hx := Reps.plain h3
    have hlt : t < cur.size := by rw [hcs]; exact Nat.lt_of_lt_of_le ht' (Nat.mul_le_mul_right _ hcapn)
    have hc : w.cell? ⟨g, t, none⟩ = cur[t]? := by simp [World.cell?, hh]
    have hxt : cur[t]? = xs[t]? := by
      rw [← htk, List.getElem?_take, if_pos (show t < l.length * (El.plain n pos f len one).n from ht'), Array.getElem?_toList]
    rw [hc, hxt, hx, ← flatK_toList f n len pos l, Array.getElem?_toList, Array.getElem?_eq_getElem (by simpa using ht'), ← getElem!_pos _ t (by simpa using ht')]
    rfl
theorem getElem?_mapBlock (w : World) (b : Nat) (f : Array Value → Array Value) (k : Nat) : (mapBlock w b f).heap[k]? = if b = k then (w.heap[k]?).map (onCells f) else w.heap[k]? := by
  simp [mapBlock, Array.getElem?_modify]
/-- .. and back: the row holds the new list. -/
theorem OwnRows.sorted [Inhabited α] (h : OwnRows (El.plain n pos f len one) e w base (.slice (some ⟨g, 0, none⟩) l.length cap) l) (hg : g < w.heap.size) {l' : List α} (hl : l'.length = l.length) (m : Nat) (os : Array Obj) :
    OwnRows (El.plain n pos f len one) e (sortWorldK f n w g 0 m l'.toArray os) base (.slice (some ⟨g, 0, none⟩) l.length cap) l' := by
  obtain ⟨h0, xs, ⟨h1, h2⟩, h3⟩ := h
  have hsz : w.heap.size ≤ (sortWorldK f n w g 0 m l'.toArray os).heap.size := by
    simp [sortWorldK, grow, putRowK, putRow, mapBlock]
  refine ⟨Nat.le_trans h0 hsz, (l'.map f).flatten, ?_, Reps.plain_mk l'⟩
  rw [hl]
  have hfl : ((l'.map f).flatten).length = l.length * n := by
    rw [← flatK_toList f n len pos l', Array.length_toList, size_flatK]
    simp [hl]
  refine ⟨hfl, ?_⟩
  rcases h2 with ⟨hv, _⟩ | ⟨g', cap', cur, hv, hgb, hh, hnc, hcm, hcs, htk⟩
  · cases hv
  · injection hv with e1 _ e3
    injection e1 with e1
    injection e1 with e1
    subst e1
    subst e3
    have hF : (flatK f n l'.toArray).size = l.length * n := by simp [hl]
    have hle : l.length * n ≤ cap * n := Nat.mul_le_mul_right _ hnc
    refine .inr ⟨g, cap, putCells id 0 (flatK f n l'.toArray) cur, rfl, hgb, ?_, hnc, hcm, by simp [putCells, hcs], ?_⟩
    · show (w.heap.modify g (onCells (putCells id 0 (flatK f n l'.toArray))) ++ os)[g]? = _
      rw [Array.getElem?_append_left (by simpa using hg), Array.getElem?_modify, if_pos rfl, hh]
      rfl
    · rw [← flatK_toList f n len pos l']
      apply List.ext_getElem?
      intro t
      rw [List.getElem?_take]
      show (if t < l.length * n then _ else _) = _
      split
      · next ht =>
        rw [Array.getElem?_toList, Array.getElem?_toList]
        unfold putCells
        rw [Array.getElem?_mapIdx, Array.getElem?_eq_getElem (by rw [hcs]; exact Nat.lt_of_lt_of_le ht hle), Option.map_some, if_pos ⟨Nat.zero_le _, by rw [hF]; omega⟩, Array.getElem?_eq_getElem (by rw [hF]; exact ht), Nat.sub_zero, ← getElem!_pos _ t (by rw [hF]; exact ht)]
        rfl
      · next ht =>
        rw [Array.getElem?_toList, Array.getElem?_eq_none (by rw [hF]; omega)]
theorem below_sorted [Inhabited α] {w0 : World} {B : Nat} (hb : Go.RowKit.Below B w0 w) (hg : B ≤ g) (hg2 : g < w.heap.size) (m : Nat) (d : Array α) (os : Array Obj) : Go.RowKit.Below B w0 (sortWorldK f n w g 0 m d os) := by
  refine hb.trans ⟨rfl, rfl, rfl, by simp [sortWorldK, grow, putRowK, putRow, mapBlock], fun k hk => ?_⟩
  show (w.heap.modify g (onCells (putCells id 0 (flatK f n d))) ++ os)[k]? = _
  rw [Array.getElem?_append_left (by simp; omega), Array.getElem?_modify, if_neg (by omega)]
end
end Go.Proofs.YtambinjjfapcgaaDoor
