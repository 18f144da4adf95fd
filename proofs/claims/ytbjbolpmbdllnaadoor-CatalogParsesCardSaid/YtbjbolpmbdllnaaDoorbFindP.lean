/- What Find finds: plain words. -/
import Derived.Test.YtbjbolpmbdllnaaDoorbValid
namespace Go.Proofs.YtbjbolpmbdllnaaDoor
open Go.RowKit

def Rs.zero : Rs := ⟨{ data := #[] }, 0, 0, 0⟩
/-- The first resource of this name. -/
def findR (l : Ct) (n : ByteArray) : Option Rs := l.find? fun r => r.name.toList == n.toList
def retFind (o : Option Rs) : Value := .tuple #[(o.getD Rs.zero).val, .bool o.isSome]

theorem find_take {l : Ct} {p : Rs → Bool} {k : Nat} (h : ∀ i (hi : i < l.length), i < k → p l[i] = false) (hk : k < l.length) (hp : p l[k] = true) : l.find? p = some l[k] := by
  induction l generalizing k with
  | nil => simp at hk
  | cons a r ih =>
    cases k with
    | zero => simp only [List.getElem_cons_zero] at hp; rw [List.find?_cons, hp]; rfl
    | succ k =>
      have h0 := h 0 (by simp) (by omega)
      simp only [List.getElem_cons_zero] at h0
      rw [List.find?_cons, h0]
      simp only [List.getElem_cons_succ] at hp ⊢
      exact ih (fun i hi hik => by have := h (i + 1) (by simpa using hi) (by omega); simpa using this) (by simpa using hk) hp
theorem find_no {l : Ct} {p : Rs → Bool} (h : ∀ i (hi : i < l.length), p l[i] = false) : l.find? p = none := by
  rw [List.find?_eq_none]
  intro x hx
  obtain ⟨i, hi, rfl⟩ := List.mem_iff_getElem.1 hx
  simp [h i hi]

end Go.Proofs.YtbjbolpmbdllnaaDoor
