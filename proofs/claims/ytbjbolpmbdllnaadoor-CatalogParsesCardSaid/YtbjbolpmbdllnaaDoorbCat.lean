/- Plain words: resources and catalogs. -/
import Derived.Test.YtbjbolpmbdllnaaDoorbName
import Derived.Sort.Walk0
namespace Go.Proofs.YtbjbolpmbdllnaaDoor
open Go.RowKit

/-- A resource. -/
structure Rs where
  name : ByteArray
  kind : Int
  units : Int
  home : Int
deriving Inhabited
abbrev Ct := List Rs
def Rs.key (r : Rs) : Bs := r.name.toList
def Rs.cells (r : Rs) : List Value := [.string r.name, .int .i64 r.kind, .int .i64 r.units, .int .i64 r.home]
def Rs.val (r : Rs) : Value := .agg #[.string r.name, .int .i64 r.kind, .int .i64 r.units, .int .i64 r.home]
def resE : El Rs := El.plain 4 (by decide) Rs.cells (fun _ => rfl) (by intro x u hu; simp [Rs.cells] at hu; rcases hu with rfl | rfl | rfl | rfl <;> rfl)
def Rs.Fit (r : Rs) : Prop := r.name.size ≤ maxLen ∧ I64 r.kind ∧ I64 r.units ∧ I64 r.home

theorem toList_inj {a b : ByteArray} (h : a.toList = b.toList) : a = b := by
  rw [ByteArray.toList_eq, ByteArray.toList_eq] at h
  have h2 : a.data = b.data := Array.toList_inj.1 h
  cases a
  cases b
  simpa using h2

/-- Kind and units fit. -/
def shapedB (r : Rs) : Bool := (decide (r.kind = 1) && decide (r.units = 1)) || (decide (r.kind = 2) && decide (1 ≤ r.units) && decide (r.units ≤ 8))
def resB (r : Rs) : Bool := nameB r.key && shapedB r && decide (0 ≤ r.home) && decide (r.home < 4)
/-- l is sorted by names, strictly. -/
def Sorted (l : Ct) : Prop := ∀ i (h : i + 1 < l.length), l[i].key < l[i + 1].key
/-- l is a valid catalog. -/
def VCat (l : Ct) : Prop := l.length ≤ 8 ∧ (∀ i (h : i < l.length), resB l[i] = true) ∧ Sorted l
theorem VCat.nil : VCat [] := ⟨by simp, fun i h => absurd h (by simp), fun i h => absurd h (by simp)⟩

theorem Sorted.lt {l : Ct} (h : Sorted l) : ∀ j i (hj : j < l.length) (hi : i < j), l[i].key < l[j].key := by
  intro j
  induction j with
  | zero => intro i _ hi; omega
  | succ j ih =>
    intro i hj hi
    have h1 := h j hj
    by_cases e : i = j
    · subst e; exact h1
    · exact List.lt_trans (ih i (by omega) (by omega)) h1
theorem Sorted.inj {l : Ct} (h : Sorted l) {i j : Nat} (hi : i < l.length) (hj : j < l.length) (e : l[i].key = l[j].key) : i = j := by
  rcases Nat.lt_trichotomy i j with hlt | he | hgt
  · exact absurd (h.lt j i hj hlt) (by rw [e]; exact List.lt_irrefl _)
  · exact he
  · exact absurd (h.lt i j hi hgt) (by rw [e]; exact List.lt_irrefl _)
end Go.Proofs.YtbjbolpmbdllnaaDoor
