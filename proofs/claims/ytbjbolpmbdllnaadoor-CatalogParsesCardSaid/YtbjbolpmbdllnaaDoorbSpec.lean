/- Plain words: what Insert, Remove, At return. -/
import Derived.Test.YtbjbolpmbdllnaaDoorbFindP
import Derived.Test.YtbjbolpmbdllnaaDoorbPlace
namespace Go.Proofs.YtbjbolpmbdllnaaDoor
open Go.RowKit

/-- l with r at its place. -/
def insL (l : Ct) (r : Rs) : Ct := l.filter (fun x => decide (x.key < r.key)) ++ r :: l.filter (fun x => !decide (x.key < r.key))
/-- l without the resources of this name. -/
def remL (l : Ct) (n : Bs) : Ct := l.filter (fun x => !(x.key == n))
def atL (l : Ct) (s : Int) : Ct := l.filter (fun x => decide (x.home = s))

open Classical in
noncomputable def insS (l : Ct) (r : Rs) : Int × Ct :=
  if VCat l then (if nameB r.key = true then (if resB r = true then (if (findR l r.name).isSome = true then (11, []) else if l.length = 8 then (4, []) else (0, insL l r)) else (1, [])) else (9, [])) else (2, [])
open Classical in
noncomputable def remS (l : Ct) (n : ByteArray) : Int × Ct :=
  if VCat l then (if (findR l n).isSome = true then (0, remL l n.toList) else (10, [])) else (2, [])

theorem filter_split {l : Ct} {k : Nat} {p : Rs → Bool} (hk : k ≤ l.length) (h1 : ∀ t (h : t < l.length), t < k → p l[t] = true) (h2 : ∀ t (h : t < l.length), k ≤ t → p l[t] = false) :
    l.filter p = l.take k ∧ l.filter (fun x => !p x) = l.drop k := by
  induction l generalizing k with
  | nil => simp
  | cons a r ih =>
    cases k with
    | zero =>
      have ha := h2 0 (by simp) (Nat.zero_le _)
      simp only [List.getElem_cons_zero] at ha
      obtain ⟨i1, i2⟩ := ih (k := 0) (Nat.zero_le _) (fun t ht h => absurd h (by omega)) (fun t ht _ => by have := h2 (t + 1) (by simpa using ht) (by omega); simpa using this)
      simp [ha, i1, i2]
    | succ k =>
      have ha := h1 0 (by simp) (by omega)
      simp only [List.getElem_cons_zero] at ha
      obtain ⟨i1, i2⟩ := ih (k := k) (by simpa using hk) (fun t ht h => by have := h1 (t + 1) (by simpa using ht) (by omega); simpa using this) (fun t ht h => by have := h2 (t + 1) (by simpa using ht) (by omega); simpa using this)
      simp [ha, i1, i2]
theorem insL_eq {l : Ct} {r : Rs} {k : Nat} (hk : k ≤ l.length) (h1 : ∀ t (h : t < l.length), t < k → l[t].key < r.key) (h2 : ∀ t (h : t < l.length), k ≤ t → ¬ l[t].key < r.key) : insL l r = l.take k ++ r :: l.drop k := by
  obtain ⟨i1, i2⟩ := filter_split (p := fun x => decide (x.key < r.key)) hk (fun t h ht => decide_eq_true (h1 t h ht)) (fun t h ht => decide_eq_false (h2 t h ht))
  unfold insL
  rw [i1, i2]
theorem filter_but {l : Ct} {k : Nat} {p : Rs → Bool} (hk : k < l.length) (h : ∀ t (ht : t < l.length), p l[t] = (decide (t ≠ k))) : l.filter p = l.take k ++ l.drop (k + 1) := by
  induction l generalizing k with
  | nil => simp at hk
  | cons a r ih =>
    have ha := h 0 (by simp)
    simp only [List.getElem_cons_zero] at ha
    cases k with
    | zero =>
      have hr : r.filter p = r := by
        rw [List.filter_eq_self]
        intro x hx
        obtain ⟨i, hi, rfl⟩ := List.mem_iff_getElem.1 hx
        have := h (i + 1) (by simpa using hi)
        simpa using this
      have : p a = false := by rw [ha]; simp
      rw [List.filter_cons_of_neg (by simp [this]), hr]
      simp
    | succ k =>
      have : p a = true := by rw [ha]; simp
      rw [List.filter_cons_of_pos this, ih (k := k) (by simpa using hk) (fun t ht => by have := h (t + 1) (by simpa using ht); simpa using this)]
      simp
theorem findR_isSome {l : Ct} {n : ByteArray} : (findR l n).isSome = true ↔ ∃ i, ∃ h : i < l.length, l[i].key = n.toList := by
  unfold findR
  rw [List.find?_isSome]
  constructor
  · rintro ⟨x, hx, he⟩
    obtain ⟨i, hi, rfl⟩ := List.mem_iff_getElem.1 hx
    exact ⟨i, hi, beq_iff_eq.1 he⟩
  · rintro ⟨i, hi, he⟩
    exact ⟨l[i], List.getElem_mem hi, beq_iff_eq.2 he⟩
theorem place_found {l : Ct} {n : ByteArray} {k : Nat} (hs : Sorted l) (h1 : ∀ t (h : t < l.length), t < k → l[t].key < n.toList) (h2 : ∀ t (h : t < l.length), k ≤ t → ¬ l[t].key < n.toList) :
    (∃ h : k < l.length, l[k].key = n.toList) ↔ (findR l n).isSome = true := by
  rw [findR_isSome]
  constructor
  · rintro ⟨h, he⟩
    exact ⟨k, h, he⟩
  · rintro ⟨i, hi, he⟩
    rcases Nat.lt_trichotomy i k with hlt | rfl | hgt
    · exact absurd (h1 i hi hlt) (by rw [he]; exact List.lt_irrefl _)
    · exact ⟨hi, he⟩
    · exact absurd (hs.lt i k hi hgt) (by rw [he]; exact h2 k (by omega) (Nat.le_refl _))
theorem remL_eq {l : Ct} {n : ByteArray} {k : Nat} (hs : Sorted l) (h : k < l.length) (he : l[k].key = n.toList) : remL l n.toList = l.take k ++ l.drop (k + 1) := by
  refine filter_but h fun t ht => ?_
  rw [← he]
  by_cases e : t = k
  · subst e; simp
  · simp only [e, ne_eq, not_false_eq_true, decide_true, Bool.not_eq_true', beq_eq_false_iff_ne]
    exact fun h2 => e (hs.inj ht h h2)
theorem find_key {l : Ct} {n : ByteArray} {r : Rs} (h : findR l n = some r) : r.key = n.toList := by
  unfold findR at h
  have := List.find?_some h
  simpa [Rs.key] using this
theorem findR_at {l : Ct} {n : ByteArray} {k : Nat} (hs : Sorted l) (h : k < l.length) (he : l[k].key = n.toList) : findR l n = some l[k] := by
  unfold findR
  refine find_take (fun i hi hik => ?_) h (beq_iff_eq.2 he)
  rw [beq_eq_false_iff_ne]
  intro e
  have : i = k := hs.inj hi h (by rw [he]; exact e)
  omega

theorem take_succ_filter {l : Ct} {p : Rs → Bool} {k : Nat} (h : k < l.length) : (l.take (k + 1)).filter p = (l.take k).filter p ++ (if p l[k] = true then [l[k]] else []) := by
  rw [List.take_succ_eq_append_getElem h, List.filter_append]
  by_cases hp : p l[k] = true <;> simp [hp]
theorem filter_take_le {l : Ct} {p : Rs → Bool} {k : Nat} : ((l.take k).filter p).length ≤ k := Nat.le_trans (List.length_filter_le _ _) (List.length_take_le _ _)


theorem insL_all {l : Ct} {r : Rs} {k : Nat} (h : ∀ i (hi : i < l.length), i < k → l[i].key < r.key) : insL (l.take k) r = l.take k ++ [r] := by
  have hall : ∀ x ∈ l.take k, x.key < r.key := by
    intro x hx
    obtain ⟨i, hi, rfl⟩ := List.mem_iff_getElem.1 hx
    rw [List.getElem_take]
    rw [List.length_take] at hi
    exact h i (by omega) (by omega)
  unfold insL
  have e1 : (l.take k).filter (fun x => decide (x.key < r.key)) = l.take k := by
    rw [List.filter_eq_self]
    intro x hx
    exact decide_eq_true (hall x hx)
  have e2 : (l.take k).filter (fun x => !decide (x.key < r.key)) = [] := by
    rw [List.filter_eq_nil_iff]
    intro x hx
    simp [hall x hx]
  rw [e1, e2]
theorem insL_more {l : Ct} {r : Rs} {k : Nat} (hk : k < l.length) (h : ¬ l[k].key < r.key) : insL (l.take (k + 1)) r = insL (l.take k) r ++ [l[k]] := by
  unfold insL
  rw [take_succ_filter hk, take_succ_filter hk]
  simp [h]
theorem lt_of_not {a b : Bs} (h : ¬ a < b) (hne : a ≠ b) : b < a := by
  rcases List.le_iff_lt_or_eq.1 (List.not_lt.1 h) with h1 | h1
  · exact h1
  · exact absurd h1.symm hne
theorem insL_length {l : Ct} {r : Rs} : (insL l r).length = l.length + 1 := by
  unfold insL
  have h : ∀ l : Ct, (l.filter (fun x => decide (x.key < r.key))).length + (l.filter (fun x => !decide (x.key < r.key))).length = l.length := by
    intro l
    induction l with
    | nil => rfl
    | cons a t ih => by_cases ha : a.key < r.key <;> simp [ha] <;> omega
  have := h l
  simp only [List.length_append, List.length_cons]
  omega

/-- The call returns a catalog of its own and an error's number, and leaves alone what was there. -/
def RetLE (w : World) (p : Int × Ct) (e : Ending) (w' : World) : Prop :=
  ∃ v, e = .returned (.tuple #[v, .int .i64 p.1]) ∧ OwnRows resE 36 w' w.heap.size v p.2 ∧ Below w.heap.size w w'
theorem RetLE.no {w w' : World} {p : Int × Ct} {e : Ending} (n : Int) (hp : p = (n, [])) (he : e = .returned (.tuple #[.slice none 0 0, .int .i64 n])) (hb : Below w.heap.size w w') : RetLE w p e w' := by
  subst hp
  exact ⟨_, he, OwnRows.nil _ _ _ _ hb.size, hb⟩
theorem resT : ElT Tryd.prog resE 22 36 := ElT.mk' Tryd.underlying22 (.agg #[.string { data := #[] }, .int .i64 0, .int .i64 0, .int .i64 0]) 4 40 (by kernel_rfl) rfl rfl (by decide)
theorem resTB : ElTB Tryd.prog resE 22 36 40 := ElTB.mk' Tryd.underlying22 (.agg #[.string { data := #[] }, .int .i64 0, .int .i64 0, .int .i64 0]) 4 40 (by kernel_rfl) rfl rfl
theorem resInfo : (Tryd.prog.info? 36).map (fun i => (i.zero, i.size, i.bytes)) = some (some (.agg #[.string { data := #[] }, .int .i64 0, .int .i64 0, .int .i64 0]), 4, 40) := by kernel_rfl
theorem mkRes (c : Nat) (hc : c ≤ 1000000) (w : World) : (Instr.makeSlice 22 (.int .i64 0) (.int .i64 (c : Int))).run Tryd.prog w = .ok (.slice (some ⟨w.heap.size, 0, none⟩) 0 c) (w.alloc (.cells (madeCells #[.string { data := #[] }, .int .i64 0, .int .i64 0, .int .i64 0] (c * 4)) 36)) := by
  obtain ⟨i0, hi, hz0, hz1, hz2⟩ := info_parts resInfo
  have hr := run_make (P := Tryd.prog) w 22 36 i0 _ Tryd.underlying22 hi hz0 .i64 .i64 0 c (by omega) (by omega) (by rw [hz2]; omega) (by omega)
  rw [hz1] at hr
  simpa [Value.cells] using hr
end Go.Proofs.YtbjbolpmbdllnaaDoor
