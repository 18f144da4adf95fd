/- More on rows: a row that is not empty; stores into a row of the call's own. -/
import Derived.Test.YtambinjjfapcgaaDoorGrow
namespace Go.Proofs.YtambinjjfapcgaaDoor
open Go.RowKit
section
variable {α : Type} {E : El α} {w w' : World} {l : List α} {v : Value} {base : Nat} {e : TypeId}

/-- A row that is not empty: its block, its cells. -/
theorem OwnRows.addr (h : OwnRows E e w base v l) (h0 : 0 < l.length) :
    ∃ g cap, v = .slice (some ⟨g, 0, none⟩) l.length cap ∧ base ≤ g ∧ g < w.heap.size ∧ l.length ≤ cap ∧ cap ≤ maxLen ∧ (∀ j, w.frozen? ⟨g, j, none⟩ = false) ∧ RowsAt E w (Lo w.heap.size) (some ⟨g, 0, none⟩) l := by
  obtain ⟨A, cap, hA, hr, hc, hm⟩ := h.form
  have h2 := h
  obtain ⟨_, xs, h1, _⟩ := h2
  rcases h1.2 with ⟨hv, hn⟩ | ⟨g, cap', cur, hv, hg, hh, hnc, hcm, hcs, ht⟩
  · omega
  · rw [hv] at hA
    injection hA with e1 e2 e3
    subst e1
    subst e3
    exact ⟨g, cap', hv, hg, (Array.getElem?_eq_some_iff.1 hh).1, hc, hm, fun j => frozen_of_row w g j cur e hh, hr⟩
/-- A row as a value: nil only where it is empty. -/
theorem OwnRows.form2 (h : OwnRows E e w base v l) :
    ∃ A cap, v = .slice A l.length cap ∧ (A = none → l.length = 0 ∧ cap = 0) ∧ RowsAt E w (Lo w.heap.size) A l ∧ l.length ≤ cap ∧ cap ≤ maxLen := by
  obtain ⟨A, cap, hA, hr, hc, hm⟩ := h.form
  refine ⟨A, cap, hA, fun hn => ?_, hr, hc, hm⟩
  subst hn
  obtain ⟨_, xs, h1, _⟩ := h
  rcases h1.2 with ⟨hv, hn⟩ | ⟨g, cap', cur, hv, _⟩
  · rw [hv] at hA
    injection hA with _ e2 e3
    exact ⟨e2.symm, e3.symm⟩
  · rw [hv] at hA
    injection hA with e1
    cases e1
/-- A store into an element of one cell. -/
theorem OwnRows.set1 {g cap : Nat} (h : OwnRows E e w base (.slice (some ⟨g, 0, none⟩) l.length cap) l) (hn : E.n = 1) {i : Nat} (hi : i < l.length) {y : α} {u : Value}
    (hy : E.rep (w.setCell ⟨g, i, none⟩ u) (Oth (w.setCell ⟨g, i, none⟩ u) (.slice (some ⟨g, 0, none⟩) l.length cap)) y [u]) :
    OwnRows E e (w.setCell ⟨g, i, none⟩ u) base (.slice (some ⟨g, 0, none⟩) l.length cap) (l.set i y) := by
  refine h.setAll hi hy (by simp [World.setCell]) (fun b hb => ?_) fun xs hx => ?_
  · have : b ≠ g := fun e => hb.2 (by rw [e]; rfl)
    exact heap_setCell_other w ⟨g, i, none⟩ b u this
  · have hl : i < xs.length := by rw [hx.1, hn]; omega
    rw [hn, Nat.mul_one] at *
    have := (hx.stored i u).1
    rwa [List.set_eq_take_append_cons_drop, if_pos hl, ← List.singleton_append, ← List.append_assoc] at this
end
/-! Below, from the call's own beginning -/
theorem Below.al {a w : World} (h : Below a.heap.size a w) (o : Obj) : Below a.heap.size a (w.alloc o) := h.alloc h.size o
theorem Below.tr {a b c : World} (h : Below a.heap.size a b) (k : Below b.heap.size b c) : Below a.heap.size a c := h.trans (k.mono h.size)
theorem Below.st {a w : World} {p : Addr} {u : Value} (h : Below a.heap.size a w) (hp : a.heap.size ≤ p.block) : Below a.heap.size a (w.setCell p u) := h.setCell hp u
theorem bcell {W w1 : World} (hb : Below W.heap.size W w1) : (∀ b o, b < W.heap.size → w1.cell? ⟨b, o, none⟩ = W.cell? ⟨b, o, none⟩) ∧ (∀ b o, b < W.heap.size → w1.frozen? ⟨b, o, none⟩ = W.frozen? ⟨b, o, none⟩) :=
  ⟨fun b o h => hb.cell (p := ⟨b, o, none⟩) h, fun b o h => hb.frozen (p := ⟨b, o, none⟩) h⟩
theorem strE_one (w : World) (S : Nat → Prop) (s : ByteArray) : strE.rep w S s [.string s] := rfl
theorem intE_one (w : World) (S : Nat → Prop) (n : Int) : intE.rep w S n [.int .i64 n] := rfl
theorem boolE_one (w : World) (S : Nat → Prop) (n : Bool) : boolE.rep w S n [.bool n] := rfl
theorem str_cell {w : World} {S : Nat → Prop} {A : Option Addr} {l : List ByteArray} {i : Nat} {x : ByteArray} (h : RowsAt strE w S A l) (hi : i < l.length) (hx : l[i] = x) :
    ∃ b off, A = some ⟨b, off, none⟩ ∧ S b ∧ w.cell? ⟨b, off + i, none⟩ = some (.string x) := by
  obtain ⟨b, off, cs, hA, hS, hc, hd⟩ := h.getx hi hx
  have hc' : cs = [.string x] := hc
  subst hc'
  have := hd 0 (show 0 < 1 by decide)
  exact ⟨b, off, hA, hS, by simpa [show strE.n = 1 from rfl] using this⟩

/-- append of one element, just laid into a block of its own, onto a slice that came in and has no room: a new row. -/
theorem pushGrowB {α : Type} {E : El α} {P : Program} {t e : TypeId} {by_ : Nat} (T : ElTB P E t e by_) {ops : Array Oper} {rest : List Oper} {o : Oper} {a : Act} {Q : Exit → Act → World → Prop} (hgd : o.guard = none) (s x : Operand)
    (ho : o.op = .call { callee := .builtin .append, args := #[s, x], argTypes := #[t, t] })
    (w : World) (A : Option Addr) (cap n : Nat) (l : List α) (hn : l.length = n) (y : α) (cs : List Value) (ca : Array Value) (hca : ca = cs.toArray) (hs : a.eval s = .slice A n cap) (hcap : cap ≤ n) (hA : A = none → n = 0 ∧ cap = 0) (hr : RowsAt E w (Lo w.heap.size) A l)
    (nb : Nat) (hx : a.eval x = .slice (some ⟨nb, 0, none⟩) 1 1) (hnb : nb = w.heap.size) (hy : E.rep w (Lo w.heap.size) y cs) (hl : n < maxLen) (hlb : (n + 1) * by_ ≤ 140737488355328)
    (h : ∀ v' w', OwnRows E e w' w.heap.size v' (l ++ [y]) → Below w.heap.size w w' → wpList P ops Q rest (a.put o.dst v') w') :
    wpList P ops Q (o :: rest) a (w.alloc (.cells ca e)) := by
  subst hn
  subst hnb
  subst hca
  obtain ⟨i0, z, hi, hz0, hz1, hz2, hz3⟩ := T.info
  obtain ⟨xs, h1, h2⟩ := hr
  have hkeep : ∀ b, b < w.heap.size → (w.alloc (.cells cs.toArray e)).heap[b]? = w.heap[b]? := fun b hb => Below.heap_alloc w _ b hb
  refine wpList_append_grows (w.alloc (.cells cs.toArray e)) hgd s x t ho e i0 z E.n by_ T.under hi hz0 hz1 hz3 hz2 E.pos A l.length cap xs hs hA h1.length ?_ ⟨w.heap.size, 0, none⟩ 1 1 cs hx (by rw [E.len hy, Nat.one_mul]) ?_ (E.one hy) (by omega) (by omega) hlb ?_
  · intro b hb j u hu
    rcases Nat.eq_zero_or_pos l.length with h0 | h0
    · have hxl := h1.length
      rw [h0, Nat.zero_mul] at hxl
      rw [List.eq_nil_of_length_eq_zero hxl] at hu
      cases hu
    · obtain ⟨b', off, hA', hb', hc⟩ := h2 h0
      rw [hA'] at hb
      injection hb with hb
      subst hb
      rw [addr_add]
      exact (World.cell?_alloc_lt w _ ⟨b', off + j, none⟩ hb').trans (hc j u hu)
  · intro j u hu
    rw [addr_add]
    exact cellOfNew w cs e j u hu
  · intro v' w' hown hg
    have hsz : w.heap.size < (w.alloc (.cells cs.toArray e)).heap.size := by simp
    have hb1 : Below (w.alloc (.cells cs.toArray e)).heap.size (w.alloc (.cells cs.toArray e)) w' := (Below.refl _ _).grown hg (Nat.le_refl _) (fun k hk => by cases hk)
    have hb : Below w.heap.size w w' := Below.tr (Below.al (Below.refl _ _) _) hb1
    have hoth : ∀ b, b < w.heap.size → Oth w' v' b := fun b hlt => ⟨Nat.lt_of_lt_of_le hlt hb.size, fun e => by have := (hown.lt b e).1; omega⟩
    refine h v' w' ?_ hb
    have ho2 : OwnRows E e w' (w.alloc (.cells cs.toArray e)).heap.size v' (l ++ [y]) :=
      ⟨hb1.size, xs ++ cs, by rw [List.length_append]; exact hown, (h1.same (fun b hlt => hb.block b hlt) hoth).append (Reps.single (E.same hy (fun b hlt => hb.block b hlt) hoth))⟩
    exact ho2.older (by simp)
end Go.Proofs.YtambinjjfapcgaaDoor
