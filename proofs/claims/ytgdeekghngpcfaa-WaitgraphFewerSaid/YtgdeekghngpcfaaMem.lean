/- Words for memory: slices that read as lists of numbers, of truth values, of nodes; what a call leaves alone. -/
import Derived.Test.YtgdeekghngpcfaaRows
import Derived.WalkKit
import Derived.WalkSpells
import Derived.WalkLawsBesides
import Derived.Lib.Hide
import Derived.Deep.QuietTactic
import Derived.BigQuiet
import Derived.Deep.LoopGhost
namespace Go.Proofs.Ytgdeekghngpcfaa
open Go.RowKit

theorem below_drewN {B : Nat} {a w : World} (h : Below B a w) (n : Nat) : Below B a (w.drewN n) := ⟨h.os, h.tape, h.output, h.size, h.block⟩
theorem ret_bool {a b : Bool} (h : a = b) : Ending.returned (.bool a) = .returned (.bool b) := by rw [h]
theorem ret_int {k : IntKind} {a b : Int} (h : a = b) : Ending.returned (.int k a) = .returned (.int k b) := by rw [h]

/-- n values f 0, f 1, .. lie in w from A on, in a block below B. -/
def Seq (w : World) (B : Nat) (A : Option Addr) (n : Nat) (f : (j : Nat) → j < n → Value) : Prop :=
  ∀ j (h : j < n), ∃ b off, A = some ⟨b, off, none⟩ ∧ b < B ∧ w.cell? ⟨b, off + j, none⟩ = some (f j h)

theorem Seq.below {w w' : World} {B B' B'' n : Nat} {A : Option Addr} {f : (j : Nat) → j < n → Value} (h : Seq w B A n f) (hb : Below B' w w') (hB : B ≤ B') (hB2 : B ≤ B'') : Seq w' B'' A n f := by
  intro j hj
  obtain ⟨b, off, hA, hbB, hc⟩ := h j hj
  exact ⟨b, off, hA, by omega, by rw [hb.cell (p := ⟨b, off + j, none⟩) (show b < B' by omega)]; exact hc⟩

/-- The slice with base A reads in w, in blocks below B, as the list l of numbers. -/
def IntsAt (w : World) (B : Nat) (A : Option Addr) (l : List Int) : Prop := Seq w B A l.length fun j h => .int .i64 l[j]
def BoolsAt (w : World) (B : Nat) (A : Option Addr) (l : List Bool) : Prop := Seq w B A l.length fun j h => .bool l[j]

theorem IntsAt.below {w w' : World} {B B' B'' : Nat} {A : Option Addr} {l : List Int} (h : IntsAt w B A l) (hb : Below B' w w') (hB : B ≤ B') (hB2 : B ≤ B'') : IntsAt w' B'' A l := Seq.below h hb hB hB2
theorem BoolsAt.below {w w' : World} {B B' B'' : Nat} {A : Option Addr} {l : List Bool} (h : BoolsAt w B A l) (hb : Below B' w w') (hB : B ≤ B') (hB2 : B ≤ B'') : BoolsAt w' B'' A l := Seq.below h hb hB hB2
theorem BoolsAt.get {w : World} {B : Nat} {A : Option Addr} {l : List Bool} (h : BoolsAt w B A l) {j : Nat} (hj : j < l.length) {x : Bool} (hx : l[j] = x) :
    ∃ b off, A = some ⟨b, off, none⟩ ∧ b < B ∧ w.cell? ⟨b, off + j, none⟩ = some (.bool x) := by subst hx; exact h j hj
theorem IntsAt.get {w : World} {B : Nat} {A : Option Addr} {l : List Int} (h : IntsAt w B A l) {j : Nat} (hj : j < l.length) {x : Int} (hx : l[j] = x) :
    ∃ b off, A = some ⟨b, off, none⟩ ∧ b < B ∧ w.cell? ⟨b, off + j, none⟩ = some (.int .i64 x) := by subst hx; exact h j hj
theorem IntsAt.nil (w : World) (B : Nat) (A : Option Addr) : IntsAt w B A [] := fun j h => absurd h (by simp)
theorem BoolsAt.nil (w : World) (B : Nat) (A : Option Addr) : BoolsAt w B A [] := fun j h => absurd h (by simp)

/-- A node of a graph. -/
structure Nd where
  k : Int
  next : List Int
abbrev Gr := List Nd

/-- The slice with base A reads in w, in blocks below B, as the graph g. -/
def GraphAt (w : World) (B : Nat) (A : Option Addr) (g : Gr) : Prop :=
  ∀ i (h : i < g.length), ∃ b off nA ncap, A = some ⟨b, off, none⟩ ∧ b < B ∧ w.cell? ⟨b, off + i * 2, none⟩ = some (.int .i64 g[i].k) ∧
    w.cell? ⟨b, off + i * 2 + 1, none⟩ = some (.slice nA g[i].next.length ncap) ∧ IntsAt w B nA g[i].next

theorem GraphAt.below {w w' : World} {B B' B'' : Nat} {A : Option Addr} {g : Gr} (h : GraphAt w B A g) (hb : Below B' w w') (hB : B ≤ B') (hB2 : B ≤ B'') : GraphAt w' B'' A g := by
  intro i hi
  obtain ⟨b, off, nA, ncap, hA, hbB, hc1, hc2, hn⟩ := h i hi
  exact ⟨b, off, nA, ncap, hA, by omega, by rw [hb.cell (p := ⟨b, _, none⟩) (show b < B' by omega)]; exact hc1,
    by rw [hb.cell (p := ⟨b, _, none⟩) (show b < B' by omega)]; exact hc2, hn.below hb hB hB2⟩

/-- The integers of a graph are Go ints, its lists are short. -/
def FitsG (g : Gr) : Prop := g.length ≤ 40 ∧ ∀ i (h : i < g.length), g[i].next.length ≤ 40 ∧ (-9223372036854775808 ≤ g[i].k ∧ g[i].k ≤ 9223372036854775807) ∧
  ∀ j (h2 : j < g[i].next.length), -9223372036854775808 ≤ g[i].next[j] ∧ g[i].next[j] ≤ 9223372036854775807

/-- The call returns v and leaves alone what was there. -/
def Ret (w : World) (v : Value) (e : Ending) (w' : World) : Prop := e = .returned v ∧ Below w.heap.size w w'
/-- The call returns a truth value of which P says the truth, and leaves alone what was there. -/
def RetB (w : World) (P : Prop) (e : Ending) (w' : World) : Prop := ∃ r : Bool, e = .returned (.bool r) ∧ (r = true ↔ P) ∧ Below w.heap.size w w'
/-- As RetB; the call only reads. -/
def RetBQ (w : World) (P : Prop) (e : Ending) (w' : World) : Prop := ∃ r : Bool, e = .returned (.bool r) ∧ (r = true ↔ P) ∧ ∃ n, w' = w.drewN n
theorem RetBQ.true_ {w w' : World} {P : Prop} {e : Ending} (he : e = .returned (.bool true)) (hP : P) (hb : ∃ n, w' = w.drewN n) : RetBQ w P e w' := ⟨true, he, by simp [hP], hb⟩
theorem RetBQ.false_ {w w' : World} {P : Prop} {e : Ending} (he : e = .returned (.bool false)) (hP : ¬ P) (hb : ∃ n, w' = w.drewN n) : RetBQ w P e w' := ⟨false, he, by simp [hP], hb⟩
theorem RetBQ.below {w w' : World} {P : Prop} {e : Ending} (h : RetBQ w P e w') : RetB w P e w' := by
  obtain ⟨r, h1, h2, n, rfl⟩ := h
  exact ⟨r, h1, h2, below_drewN (Below.refl _ _) n⟩
theorem RetBQ.yes {w w' : World} {P : Prop} {e : Ending} (h : RetBQ w P e w') (hP : P) : e = .returned (.bool true) ∧ ∃ n, w' = w.drewN n := by
  obtain ⟨r, h1, h2, h3⟩ := h
  rw [h2.2 hP] at h1
  exact ⟨h1, h3⟩
theorem RetBQ.no {w w' : World} {P : Prop} {e : Ending} (h : RetBQ w P e w') (hP : ¬ P) : e = .returned (.bool false) ∧ ∃ n, w' = w.drewN n := by
  obtain ⟨r, h1, h2, h3⟩ := h
  cases r with
  | false => exact ⟨h1, h3⟩
  | true => exact absurd (h2.1 rfl) hP

/-- The list l lies in w' in memory that w did not have. -/
def NewInts (w w' : World) (A : Option Addr) (l : List Int) : Prop := IntsAt w' w'.heap.size A l ∧ (0 < l.length → ∀ a, A = some a → w.heap.size ≤ a.block)
theorem NewInts.nil (w w' : World) (A : Option Addr) : NewInts w w' A [] := ⟨IntsAt.nil _ _ _, fun h => absurd h (by simp)⟩
theorem NewInts.older {w0 w w' : World} {A : Option Addr} {l : List Int} (h : NewInts w w' A l) (hs : w0.heap.size ≤ w.heap.size) : NewInts w0 w' A l := ⟨h.1, fun h0 a ha => Nat.le_trans hs (h.2 h0 a ha)⟩
/-- The call returns a list of numbers that meets P, in new memory, and leaves alone what was there. -/
def RetInts (w : World) (P : List Int → Prop) (e : Ending) (w' : World) : Prop :=
  ∃ A l cap, e = .returned (.slice A l.length cap) ∧ NewInts w w' A l ∧ P l ∧ l.length ≤ 4611686018427387904 ∧ Below w.heap.size w w'

/-- The call returns the list l of numbers, in memory below B0 or new, and leaves alone what was there. -/
def RetIntsL (w : World) (B0 : Nat) (l : List Int) (e : Ending) (w' : World) : Prop :=
  ∃ A cap, e = .returned (.slice A l.length cap) ∧ IntsAt w' w'.heap.size A l ∧ (0 < l.length → ∀ a, A = some a → a.block < B0 ∨ w.heap.size ≤ a.block) ∧ Below w.heap.size w w'
/-- The list lies in a block that has not turned. -/
theorem IntsAt.same {w w' : World} {B B' : Nat} {A : Option Addr} {l : List Int} (h : IntsAt w B A l) (hk : ∀ a, A = some a → a.block < B → w'.heap[a.block]? = w.heap[a.block]?) (hB : B ≤ B') : IntsAt w' B' A l := by
  intro j hj
  obtain ⟨b, off, hA, hb, hc⟩ := h.get hj rfl
  exact ⟨b, off, hA, by omega, (World.cell?_of_block (w := w) (a := ⟨b, off + j, none⟩) (hk ⟨b, off, none⟩ hA hb)).trans hc⟩
theorem IntsAt.mono {w : World} {B B' : Nat} {A : Option Addr} {l : List Int} (h : IntsAt w B A l) (hB : B ≤ B') : IntsAt w B' A l := h.same (fun _ _ _ => rfl) hB
theorem RetB.true_ {w w' : World} {P : Prop} {e : Ending} (he : e = .returned (.bool true)) (hP : P) (hb : Below w.heap.size w w') : RetB w P e w' := ⟨true, he, by simp [hP], hb⟩
theorem RetB.false_ {w w' : World} {P : Prop} {e : Ending} (he : e = .returned (.bool false)) (hP : ¬ P) (hb : Below w.heap.size w w') : RetB w P e w' := ⟨false, he, by simp [hP], hb⟩
end Go.Proofs.Ytgdeekghngpcfaa
