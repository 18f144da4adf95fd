/- More on rows: a row that is not empty; stores into a row of the call's own. -/
import Derived.Test.YtebhcchdcpechaaDoorGrow
namespace Go.Proofs.YtebhcchdcpechaaDoor
open Go.RowKit
section
variable {α : Type} {E : El α} {w w' : World} {l : List α} {v : Value} {base : Nat} {e : TypeId}

/-- A row that is not empty: its block, its cells. -/
theorem OwnRows.addr (h : OwnRows E e w base v l) (h0 : 0 < l.length) :
    ∃ g cap, v = .slice (some ⟨g, 0, none⟩) l.length cap ∧ base ≤ g ∧ g < w.heap.size ∧ l.length ≤ cap ∧ cap ≤ maxLen ∧ (∀ j, w.frozen? ⟨g, j, none⟩ = false) ∧ RowsAt E w (Lo w.heap.size) (some ⟨g, 0, none⟩) l := by
  obtain ⟨A, cap, hA, hr, hc, hm⟩ := h.form
  have h2 := h
  obtain ⟨_, xs, h1, _⟩ := h2
  rcases h1.2 with ⟨hv, hn⟩ | ⟨g, cap', cur, hv, hg, hh, hnc, hcm, hcs, ht⟩
  · omega
  · rw [hv] at hA
    injection hA with e1 e2 e3
    subst e1
    subst e3
    exact ⟨g, cap', hv, hg, (Array.getElem?_eq_some_iff.1 hh).1, hc, hm, fun j => frozen_of_row w g j cur e hh, hr⟩
/-- A store into an element of one cell. -/
theorem OwnRows.set1 {g cap : Nat} (h : OwnRows E e w base (.slice (some ⟨g, 0, none⟩) l.length cap) l) (hn : E.n = 1) {i : Nat} (hi : i < l.length) {y : α} {u : Value}
    (hy : E.rep (w.setCell ⟨g, i, none⟩ u) (Oth (w.setCell ⟨g, i, none⟩ u) (.slice (some ⟨g, 0, none⟩) l.length cap)) y [u]) :
    OwnRows E e (w.setCell ⟨g, i, none⟩ u) base (.slice (some ⟨g, 0, none⟩) l.length cap) (l.set i y) := by
  refine h.setAll hi hy (by simp [World.setCell]) (fun b hb => ?_) fun xs hx => ?_
  · have : b ≠ g := fun e => hb.2 (by rw [e]; rfl)
    exact heap_setCell_other w ⟨g, i, none⟩ b u this
  · have hl : i < xs.length := by rw [hx.1, hn]; omega
    rw [hn, Nat.mul_one] at *
    have := (hx.stored i u).1
    rwa [List.set_eq_take_append_cons_drop, if_pos hl, ← List.singleton_append, ← List.append_assoc] at this
end
/-! Below, from the call's own beginning -/
theorem Below.al {a w : World} (h : Below a.heap.size a w) (o : Obj) : Below a.heap.size a (w.alloc o) := h.alloc h.size o
theorem Below.tr {a b c : World} (h : Below a.heap.size a b) (k : Below b.heap.size b c) : Below a.heap.size a c := h.trans (k.mono h.size)
theorem Below.st {a w : World} {p : Addr} {u : Value} (h : Below a.heap.size a w) (hp : a.heap.size ≤ p.block) : Below a.heap.size a (w.setCell p u) := h.setCell hp u
theorem bcell {W w1 : World} (hb : Below W.heap.size W w1) : (∀ b o, b < W.heap.size → w1.cell? ⟨b, o, none⟩ = W.cell? ⟨b, o, none⟩) ∧ (∀ b o, b < W.heap.size → w1.frozen? ⟨b, o, none⟩ = W.frozen? ⟨b, o, none⟩) :=
  ⟨fun b o h => hb.cell (p := ⟨b, o, none⟩) h, fun b o h => hb.frozen (p := ⟨b, o, none⟩) h⟩
theorem strE_one (w : World) (S : Nat → Prop) (s : ByteArray) : strE.rep w S s [.string s] := rfl
theorem intE_one (w : World) (S : Nat → Prop) (n : Int) : intE.rep w S n [.int .i64 n] := rfl
theorem boolE_one (w : World) (S : Nat → Prop) (n : Bool) : boolE.rep w S n [.bool n] := rfl
theorem str_cell {w : World} {S : Nat → Prop} {A : Option Addr} {l : List ByteArray} {i : Nat} {x : ByteArray} (h : RowsAt strE w S A l) (hi : i < l.length) (hx : l[i] = x) :
    ∃ b off, A = some ⟨b, off, none⟩ ∧ S b ∧ w.cell? ⟨b, off + i, none⟩ = some (.string x) := by
  obtain ⟨b, off, cs, hA, hS, hc, hd⟩ := h.getx hi hx
  have hc' : cs = [.string x] := hc
  subst hc'
  have := hd 0 (show 0 < 1 by decide)
  exact ⟨b, off, hA, hS, by simpa [show strE.n = 1 from rfl] using this⟩
end Go.Proofs.YtebhcchdcpechaaDoor
