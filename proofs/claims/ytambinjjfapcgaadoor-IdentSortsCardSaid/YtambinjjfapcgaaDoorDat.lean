/- Words for data of whatever type in memory: elements of several cells, slices of them, slices of slices; rows that the call itself makes. -/
import Derived.WalkKit
import Derived.WalkSpells
import Derived.WalkLawsBesides
import Derived.Lib.Hide
import Derived.Deep.QuietTactic
import Derived.BigQuiet
import Derived.Deep.LoopGhost
import Derived.Maps.AppendAt
import Derived.Deep.Slices
import Derived.Deep.Fields
import Derived.ChangeSame
import Derived.OpenShut
import Derived.Laws.OwnMore
namespace Go.Proofs.YtambinjjfapcgaaDoor
open Go.RowKit Go.WideShapes Go.ChangeShapes Go.Deep

/-- How values of a type lie in memory: n cells; 'rep w S x cs': the cells cs bear x, all that they lead to lies in the blocks S. -/
structure El (α : Type) where
  n : Nat
  pos : 0 < n
  rep : World → (Nat → Prop) → α → List Value → Prop
  len : ∀ {w : World} {S : Nat → Prop} {x : α} {cs : List Value}, rep w S x cs → cs.length = n
  one : ∀ {w : World} {S : Nat → Prop} {x : α} {cs : List Value}, rep w S x cs → ∀ u ∈ cs, u.oneCell' = true
  same : ∀ {w w' : World} {S S' : Nat → Prop} {x : α} {cs : List Value}, rep w S x cs → (∀ b, S b → w'.heap[b]? = w.heap[b]?) → (∀ b, S b → S' b) → rep w' S' x cs

section
variable {α : Type} {E : El α} {w w' : World} {S S' : Nat → Prop} {A : Option Addr} {l l' : List α} {xs ys : List Value} {v : Value} {base B : Nat} {e : TypeId}

def Reps (E : El α) (w : World) (S : Nat → Prop) : List α → List Value → Prop
  | [], xs => xs = []
  | x :: l, xs => ∃ cs rest, xs = cs ++ rest ∧ E.rep w S x cs ∧ Reps E w S l rest

theorem Reps.length : ∀ {l : List α} {xs : List Value}, Reps E w S l xs → xs.length = l.length * E.n
  | [], xs, h => by rw [show xs = [] from h]; simp
  | x :: l, xs, h => by
    obtain ⟨cs, rest, rfl, h1, h2⟩ := h
    rw [List.length_append, E.len h1, Reps.length h2, List.length_cons, Nat.add_mul, Nat.one_mul, Nat.add_comm]
theorem Reps.one : ∀ {l : List α} {xs : List Value}, Reps E w S l xs → ∀ u ∈ xs, u.oneCell' = true
  | [], xs, h => by rw [show xs = [] from h]; simp
  | x :: l, xs, h => by
    obtain ⟨cs, rest, rfl, h1, h2⟩ := h
    intro u hu
    rcases List.mem_append.1 hu with hu | hu
    · exact E.one h1 u hu
    · exact Reps.one h2 u hu
theorem Reps.same : ∀ {l : List α} {xs : List Value}, Reps E w S l xs → (∀ b, S b → w'.heap[b]? = w.heap[b]?) → (∀ b, S b → S' b) → Reps E w' S' l xs
  | [], xs, h, _, _ => h
  | x :: l, xs, h, hk, hS => by
    obtain ⟨cs, rest, rfl, h1, h2⟩ := h
    exact ⟨cs, rest, rfl, E.same h1 hk hS, Reps.same h2 hk hS⟩
theorem Reps.append : ∀ {l l' : List α} {xs ys : List Value}, Reps E w S l xs → Reps E w S l' ys → Reps E w S (l ++ l') (xs ++ ys)
  | [], l', xs, ys, h, k => by rw [show xs = [] from h]; exact k
  | x :: l, l', xs, ys, h, k => by
    obtain ⟨cs, rest, rfl, h1, h2⟩ := h
    exact ⟨cs, rest ++ ys, by simp, h1, Reps.append h2 k⟩
theorem Reps.single {x : α} {cs : List Value} (h : E.rep w S x cs) : Reps E w S [x] cs := ⟨cs, [], by simp, h, rfl⟩
theorem Reps.drop : ∀ {l : List α} {xs : List Value} (k : Nat), Reps E w S l xs → Reps E w S (l.drop k) (xs.drop (k * E.n))
  | l, xs, 0, h => by simpa using h
  | [], xs, k + 1, h => by rw [show xs = [] from h]; simp [Reps]
  | x :: l, xs, k + 1, h => by
    obtain ⟨cs, rest, rfl, h1, h2⟩ := h
    have e1 : (cs ++ rest).drop ((k + 1) * E.n) = rest.drop (k * E.n) := by
      rw [List.drop_append, E.len h1, List.drop_eq_nil_of_le (by rw [E.len h1, Nat.add_mul]; omega), Nat.add_mul, Nat.one_mul, Nat.add_sub_cancel, List.nil_append]
    rw [e1]
    exact Reps.drop k h2
theorem Reps.take : ∀ {l : List α} {xs : List Value} (k : Nat), Reps E w S l xs → Reps E w S (l.take k) (xs.take (k * E.n))
  | l, xs, 0, h => by simp [Reps]
  | [], xs, k + 1, h => by rw [show xs = [] from h]; simp [Reps]
  | x :: l, xs, k + 1, h => by
    obtain ⟨cs, rest, rfl, h1, h2⟩ := h
    have e1 : (cs ++ rest).take ((k + 1) * E.n) = cs ++ rest.take (k * E.n) := by
      rw [List.take_append, E.len h1, List.take_of_length_le (by rw [E.len h1, Nat.add_mul]; omega), Nat.add_mul, Nat.one_mul, Nat.add_sub_cancel]
    rw [e1]
    exact ⟨cs, _, rfl, h1, Reps.take k h2⟩
theorem Reps.get : ∀ {l : List α} {xs : List Value}, Reps E w S l xs → ∀ i (h : i < l.length), ∃ cs, E.rep w S l[i] cs ∧ ∀ j, j < E.n → xs[i * E.n + j]? = cs[j]?
  | [], xs, h, i, hi => absurd hi (by simp)
  | x :: l, xs, h, 0, hi => by
    obtain ⟨cs, rest, rfl, h1, h2⟩ := h
    exact ⟨cs, h1, fun j hj => by rw [Nat.zero_mul, Nat.zero_add, List.getElem?_append_left (by rw [E.len h1]; exact hj)]⟩
  | x :: l, xs, h, i + 1, hi => by
    obtain ⟨cs, rest, rfl, h1, h2⟩ := h
    obtain ⟨cs', h3, h4⟩ := Reps.get h2 i (by simpa using hi)
    refine ⟨cs', by simpa using h3, fun j hj => ?_⟩
    rw [← h4 j hj, List.getElem?_append_right (by rw [E.len h1, Nat.add_mul]; omega), E.len h1, Nat.add_mul, Nat.one_mul]
    congr 1
    omega
theorem Reps.set : ∀ {l : List α} {xs : List Value} {i : Nat} {y : α} {cs : List Value}, Reps E w S l xs → E.rep w S y cs → i < l.length → Reps E w S (l.set i y) (xs.take (i * E.n) ++ cs ++ xs.drop (i * E.n + E.n))
  | [], xs, i, y, cs, h, hy, hi => absurd hi (by simp)
  | x :: l, xs, 0, y, cs, h, hy, hi => by
    obtain ⟨cs', rest, rfl, h1, h2⟩ := h
    refine ⟨cs, rest, ?_, hy, h2⟩
    rw [Nat.zero_mul, List.take_zero, List.nil_append, Nat.zero_add, List.drop_append, E.len h1, List.drop_eq_nil_of_le (by rw [E.len h1]; omega), Nat.sub_self, List.drop_zero, List.nil_append]
  | x :: l, xs, i + 1, y, cs, h, hy, hi => by
    obtain ⟨cs', rest, rfl, h1, h2⟩ := h
    refine ⟨cs', rest.take (i * E.n) ++ cs ++ rest.drop (i * E.n + E.n), ?_, h1, Reps.set h2 hy (by simpa using hi)⟩
    have hl := E.len h1
    rw [List.take_append, List.drop_append, hl, List.take_of_length_le (by rw [hl, Nat.add_mul]; omega), List.drop_eq_nil_of_le (by rw [hl, Nat.add_mul]; omega)]
    rw [show (i + 1) * E.n - E.n = i * E.n by rw [Nat.add_mul]; omega, show (i + 1) * E.n + E.n - E.n = i * E.n + E.n by rw [Nat.add_mul]; omega]
    simp

/-- The cells from A on read, in blocks S, as the list l. -/
def RowsAt (E : El α) (w : World) (S : Nat → Prop) (A : Option Addr) (l : List α) : Prop :=
  ∃ xs, Reps E w S l xs ∧ (0 < l.length → ∃ b off, A = some ⟨b, off, none⟩ ∧ S b ∧ ∀ j u, xs[j]? = some u → w.cell? ⟨b, off + j, none⟩ = some u)

theorem RowsAt.nil (E : El α) (w : World) (S : Nat → Prop) (A : Option Addr) : RowsAt E w S A [] := ⟨[], rfl, fun h => absurd h (by simp)⟩
theorem RowsAt.same (h : RowsAt E w S A l) (hk : ∀ b, S b → w'.heap[b]? = w.heap[b]?) (hS : ∀ b, S b → S' b) : RowsAt E w' S' A l := by
  obtain ⟨xs, h1, h2⟩ := h
  refine ⟨xs, h1.same hk hS, fun h0 => ?_⟩
  obtain ⟨b, off, hA, hb, hc⟩ := h2 h0
  exact ⟨b, off, hA, hS b hb, fun j u hu => (World.cell?_of_block (w := w) (a := ⟨b, off + j, none⟩) (hk b hb)).trans (hc j u hu)⟩
theorem RowsAt.mono (h : RowsAt E w S A l) (hS : ∀ b, S b → S' b) : RowsAt E w S' A l := h.same (fun _ _ => rfl) hS
theorem RowsAt.get (h : RowsAt E w S A l) {i : Nat} (hi : i < l.length) :
    ∃ b off cs, A = some ⟨b, off, none⟩ ∧ S b ∧ E.rep w S l[i] cs ∧ ∀ j, j < E.n → w.cell? ⟨b, off + i * E.n + j, none⟩ = cs[j]? := by
  obtain ⟨xs, h1, h2⟩ := h
  obtain ⟨b, off, hA, hb, hc⟩ := h2 (by omega)
  obtain ⟨cs, h3, h4⟩ := h1.get i hi
  refine ⟨b, off, cs, hA, hb, h3, fun j hj => ?_⟩
  have hj2 : j < cs.length := by rw [E.len h3]; exact hj
  have h5 := h4 j hj
  rw [List.getElem?_eq_getElem hj2] at h5 ⊢
  rw [Nat.add_assoc]
  exact hc _ _ h5
theorem RowsAt.getx (h : RowsAt E w S A l) {i : Nat} {x : α} (hi : i < l.length) (hx : l[i] = x) :
    ∃ b off cs, A = some ⟨b, off, none⟩ ∧ S b ∧ E.rep w S x cs ∧ ∀ j, j < E.n → w.cell? ⟨b, off + i * E.n + j, none⟩ = cs[j]? := by subst hx; exact h.get hi
theorem RowsAt.take (h : RowsAt E w S A l) (k : Nat) : RowsAt E w S A (l.take k) := by
  obtain ⟨xs, h1, h2⟩ := h
  refine ⟨_, h1.take k, fun h0 => ?_⟩
  obtain ⟨b, off, hA, hb, hc⟩ := h2 (by rw [List.length_take] at h0; omega)
  exact ⟨b, off, hA, hb, fun j u hu => hc j u (by rw [List.getElem?_take] at hu; split at hu; exact hu; cases hu)⟩
theorem RowsAt.drop {b off : Nat} (h : RowsAt E w S (some ⟨b, off, none⟩) l) (k : Nat) : RowsAt E w S (some ⟨b, off + k * E.n, none⟩) (l.drop k) := by
  obtain ⟨xs, h1, h2⟩ := h
  refine ⟨_, h1.drop k, fun h0 => ?_⟩
  obtain ⟨b', off', hA, hb, hc⟩ := h2 (by rw [List.length_drop] at h0; omega)
  injection hA with hA
  injection hA with e1 e2
  subst e1
  subst e2
  exact ⟨b, _, rfl, hb, fun j u hu => by rw [Nat.add_assoc]; exact hc _ u (by rw [List.getElem?_drop] at hu; exact hu)⟩

/-- The blocks below B. -/
def Lo (B : Nat) (b : Nat) : Prop := b < B
/-- The blocks of w that are not v's own. -/
def Oth (w : World) (v : Value) (b : Nat) : Prop := b < w.heap.size ∧ v.ownBlock ≠ some b
theorem RowsAt.below {B B' B'' : Nat} (h : RowsAt E w (Lo B) A l) (hb : Below B' w w') (hB : B ≤ B') (hB2 : B ≤ B'') : RowsAt E w' (Lo B'') A l :=
  h.same (fun b hl => hb.block b (Nat.lt_of_lt_of_le hl hB)) fun _ hl => Nat.lt_of_lt_of_le hl hB2
theorem El.below {x : α} {cs : List Value} {B B' B'' : Nat} (h : E.rep w (Lo B) x cs) (hb : Below B' w w') (hB : B ≤ B') (hB2 : B ≤ B'') : E.rep w' (Lo B'') x cs :=
  E.same h (fun b hl => hb.block b (Nat.lt_of_lt_of_le hl hB)) fun _ hl => Nat.lt_of_lt_of_le hl hB2

/-- v is a slice of the call's own, from block base on, that holds the list l; none of what its elements lead to lies in its block. -/
def OwnRows (E : El α) (e : TypeId) (w : World) (base : Nat) (v : Value) (l : List α) : Prop :=
  base ≤ w.heap.size ∧ ∃ xs, w.ownsRow base e E.n v l.length xs ∧ Reps E w (Oth w v) l xs

theorem OwnRows.nil (E : El α) (e : TypeId) (w : World) (base : Nat) (hb : base ≤ w.heap.size) : OwnRows E e w base (.slice none 0 0) [] := ⟨hb, [], World.ownsRow_nil _ _ _ _, rfl⟩
theorem OwnRows.block (h : OwnRows E e w base v l) : ∀ k, v.ownBlock = some k → base ≤ k ∧ k < w.heap.size := by
  obtain ⟨_, xs, h1, _⟩ := h
  exact h1.lt
theorem OwnRows.keep (h : OwnRows E e w base v l) (hk : ∀ b, b < w.heap.size → w'.heap[b]? = w.heap[b]?) (hs : w.heap.size ≤ w'.heap.size) : OwnRows E e w' base v l := by
  obtain ⟨h0, xs, ⟨h1, h2⟩, h3⟩ := h
  refine ⟨Nat.le_trans h0 hs, xs, ⟨h1, ?_⟩, h3.same (fun b hb => hk b hb.1) fun b hb => ⟨Nat.lt_of_lt_of_le hb.1 hs, hb.2⟩⟩
  rcases h2 with hn | ⟨g, cap, cur, hv, hg, hh, rest⟩
  · exact .inl hn
  · exact .inr ⟨g, cap, cur, hv, hg, by rw [hk g (Array.getElem?_eq_some_iff.1 hh).1]; exact hh, rest⟩
theorem OwnRows.below (h : OwnRows E e w base v l) (hb : Below B w w') (hB : w.heap.size ≤ B) : OwnRows E e w' base v l := h.keep (fun b hlt => hb.block b (by omega)) hb.size
theorem OwnRows.drewN (h : OwnRows E e w base v l) (n : Nat) : OwnRows E e (w.drewN n) base v l := h.keep (fun _ _ => rfl) (Nat.le_refl _)
theorem OwnRows.alloc (h : OwnRows E e w base v l) (o : Obj) : OwnRows E e (w.alloc o) base v l := h.keep (fun b hlt => Below.heap_alloc w o b hlt) (by simp)
theorem OwnRows.older (h : OwnRows E e w base v l) {base' : Nat} (hb : base' ≤ base) : OwnRows E e w base' v l := by
  obtain ⟨h0, xs, ⟨h1, h2⟩, h3⟩ := h
  refine ⟨Nat.le_trans hb h0, xs, ⟨h1, ?_⟩, h3⟩
  rcases h2 with hn | ⟨g, cap, cur, hv, hg, rest⟩
  · exact .inl hn
  · exact .inr ⟨g, cap, cur, hv, Nat.le_trans hb hg, rest⟩
theorem OwnRows.form (h : OwnRows E e w base v l) :
    ∃ A cap, v = .slice A l.length cap ∧ RowsAt E w (Lo w.heap.size) A l ∧ l.length ≤ cap ∧ cap ≤ maxLen := by
  obtain ⟨h0, xs, h1, h3⟩ := h
  have hc : ∀ g, v.ownBlock = some g → ∀ j u, xs[j]? = some u → w.cell? ((⟨g, 0, none⟩ : Addr).add j) = some u := fun g hg => h1.cells hg
  rcases h1.2 with ⟨hv, hn⟩ | ⟨g, cap, cur, hv, hg, hh, hnc, hcm, hcs, ht⟩
  · have hl : l = [] := List.eq_nil_of_length_eq_zero hn
    subst hl
    exact ⟨none, 0, hv, RowsAt.nil _ _ _ _, by simp, by simp [maxLen]⟩
  · refine ⟨_, cap, hv, ⟨xs, h3.same (fun _ _ => rfl) (fun b hb => hb.1), fun _ => ⟨g, 0, rfl, (Array.getElem?_eq_some_iff.1 hh).1, fun j u hu => ?_⟩⟩, hnc, hcm⟩
    have := hc g (by rw [hv]; rfl) j u hu
    have e : (⟨g, 0, none⟩ : Addr).add j = ⟨g, 0 + j, none⟩ := by unfold Addr.add; split <;> simp_all
    rwa [e] at this
/-- All that the row leads to, and itself, lies from base on. -/
theorem OwnRows.len (h : OwnRows E e w base v l) : l.length ≤ maxLen := by
  obtain ⟨A, cap, _, _, h1, h2⟩ := h.form
  omega

/-- What lay below the row's base is not in its block. -/
theorem OwnRows.oth (h : OwnRows E e w base v l) {b : Nat} (hb : b < base) : Oth w v b := ⟨Nat.lt_of_lt_of_le hb h.1, fun e => by have := (h.block b e).1; omega⟩
/-- What a push leaves of every block that was there and is not the row's own. -/
def Spares (w w' : World) (v v' : Value) : Prop := ∀ b, Oth w v b → w'.heap[b]? = w.heap[b]? ∧ v'.ownBlock ≠ some b

/-- The type t is a slice of e, and e's cells are E's. -/
structure ElTB (P : Program) (E : El α) (t e : TypeId) (by_ : Nat) : Prop where
  under : P.underlying t = some (.slice e)
  info : ∃ i z, P.info? e = some i ∧ i.zero = some z ∧ i.size = E.n ∧ z.cells.size = E.n ∧ i.bytes = by_
theorem ElTB.mk' {P : Program} {t e : TypeId} (hu : P.underlying t = some (.slice e)) (z : Value) (n by_ : Nat) (hi : (P.info? e).map (fun i => (i.zero, i.size, i.bytes)) = some (some z, n, by_)) (hn : n = E.n) (hz : z.cells.size = n) : ElTB P E t e by_ := by
  obtain ⟨i, h, h0, h1, h2⟩ := info_parts hi
  exact ⟨hu, i, z, h, h0, h1.trans hn, hz.trans hn, h2⟩
/-- The same, its elements of at most 1024 bytes. -/
def ElT (P : Program) (E : El α) (t e : TypeId) : Prop := ∃ by_, ElTB P E t e by_ ∧ by_ ≤ 1024
theorem ElT.mk' {P : Program} {t e : TypeId} (hu : P.underlying t = some (.slice e)) (z : Value) (n by_ : Nat) (hi : (P.info? e).map (fun i => (i.zero, i.size, i.bytes)) = some (some z, n, by_)) (hn : n = E.n) (hz : z.cells.size = n) (hb : by_ ≤ 1024) : ElT P E t e := ⟨by_, ElTB.mk' hu z n by_ hi hn hz, hb⟩

theorem run_append_of_nil {P : Program} (w : World) (base : Nat) (t ty e : TypeId) (i : TypeInfo) (size : Nat) (ht : P.underlying t = some (.slice e)) (hi : P.info? e = some i)
    (v : Value) (n : Nat) (xs : List Value) (hown : w.ownsRow base e size v n xs) (c : Nat) : (Builtin.append_ #[t, t] ty #[v, .slice none 0 c]).run P w = .ok v w := by
  rcases hown.2 with ⟨rfl, rfl⟩ | ⟨g, cap, cur, rfl, _, _, hnc, _⟩
  · simp [Builtin.append_, run_underlying ht, sizeOf, typeInfo, hi, Builtin.lenOf, Builtin.firstCells]
  · simp [Builtin.append_, run_underlying ht, sizeOf, typeInfo, hi, Builtin.lenOf, Builtin.firstCells, hnc, storeCells]
theorem addr_add (b off j : Nat) : (Addr.mk b off none).add j = ⟨b, off + j, none⟩ := by
  unfold Addr.add
  by_cases h : j = 0 <;> simp [h]

/-- append of a slice whose elements lie outside the row's own block. -/
theorem run_pushR {P : Program} {t e : TypeId} {by_ : Nat} (T : ElTB P E t e by_) (w : World) (ty : TypeId) (base : Nat) (v : Value) (l ns : List α) (A : Option Addr) (c : Nat) (hown : OwnRows E e w base v l)
    (xs : List Value) (hx : Reps E w (Oth w v) ns xs) (hA : 0 < ns.length → ∃ b off, A = some ⟨b, off, none⟩ ∧ ∀ j u, xs[j]? = some u → w.cell? ⟨b, off + j, none⟩ = some u) (hl : l.length + ns.length ≤ maxLen) (hlb : (l.length + ns.length) * by_ ≤ 140737488355328) :
    ∃ v' w', (Builtin.append_ #[t, t] ty #[v, .slice A ns.length c]).run P w = .ok v' w' ∧ OwnRows E e w' base v' (l ++ ns) ∧ Below base w w' ∧ Spares w w' v v' := by
  obtain ⟨i0, z, hi, hz0, hz1, hz2, hz3⟩ := T.info
  obtain ⟨h0, us, h1, h3⟩ := hown
  rcases A with _ | ad
  · have hn : ns = [] := by
      cases ns with
      | nil => rfl
      | cons a r => obtain ⟨_, _, h, _⟩ := hA (by simp); cases h
    subst hn
    exact ⟨v, w, run_append_of_nil w base t ty e i0 E.n T.under hi v l.length _ h1 c, by simpa using ⟨h0, us, h1, h3⟩, Below.refl _ _, fun b hb => ⟨rfl, hb.2⟩⟩
  · have hxl := hx.length
    have hcells : ∀ j u, xs[j]? = some u → w.cell? (ad.add j) = some u := by
      intro j u hu
      rcases Nat.eq_zero_or_pos ns.length with hz | hz
      · rw [hz, Nat.zero_mul] at hxl
        have : xs = [] := List.eq_nil_of_length_eq_zero hxl
        subst this
        cases hu
      · obtain ⟨b, off, h, hc⟩ := hA hz
        injection h with h
        subst h
        rw [addr_add]
        exact hc j u hu
    obtain ⟨v', w', hrun, k1, k2, _, k4⟩ := run_append_own_at (P := P) w base t ty e i0 z E.n i0.bytes T.under hi hz0 hz1 rfl hz2 E.pos v l.length _ h1 ad ns.length c xs
      hxl hcells hx.one hl (by rw [hz3]; exact hlb) h0
    have hb : Below base w w' := (Below.refl base w).grown k2 h0 (fun k hk => (h1.lt k hk).1)
    have hsp : Spares w w' v v' := fun b hb2 => ⟨k2.block b hb2.1 (fun e => hb2.2 e.symm), by
      rcases k4 with e | e
      · rw [e]; exact hb2.2
      · rw [e]
        intro h
        injection h with h
        have := hb2.1
        omega⟩
    have keep : ∀ {m : List α} {ms : List Value}, Reps E w (Oth w v) m ms → Reps E w' (Oth w' v') m ms := fun hm =>
      hm.same (fun b hb2 => (hsp b hb2).1) fun b hb2 => ⟨Nat.lt_of_lt_of_le hb2.1 hb.size, (hsp b hb2).2⟩
    exact ⟨v', w', hrun, ⟨Nat.le_trans h0 hb.size, us ++ xs, by rw [List.length_append]; exact k1, (keep h3).append (keep hx)⟩, hb, hsp⟩

/-- append of many, at the operation. -/
theorem pushRB {P : Program} {t e : TypeId} {by_ : Nat} (T : ElTB P E t e by_) {ops : Array Oper} {rest : List Oper} {o : Oper} {a : Act} {Q : Exit → Act → World → Prop} (hgd : o.guard = none) (s x : Operand)
    (ho : o.op = .call { callee := .builtin .append, args := #[s, x], argTypes := #[t, t] })
    (w : World) (base : Nat) (v : Value) (l ns : List α) (n : Nat) (hn : ns.length = n) (A : Option Addr) (c : Nat) (hs : a.eval s = v) (hown : OwnRows E e w base v l) (hx : a.eval x = .slice A n c) (hr : RowsAt E w (Oth w v) A ns) (hl : l.length + n ≤ maxLen) (hlb : (l.length + n) * by_ ≤ 140737488355328)
    (h : ∀ v' w', OwnRows E e w' base v' (l ++ ns) → Below base w w' → Spares w w' v v' → wpList P ops Q rest (a.put o.dst v') w') :
    wpList P ops Q (o :: rest) a w := by
  subst hn
  refine wpList_plain hgd fun K hK => ?_
  obtain ⟨xs, hx1, hx2⟩ := hr
  obtain ⟨v', w', hrun, h1, h2, h3⟩ := run_pushR T w o.type base v l ns A c hown xs hx1 (fun h0 => by
    obtain ⟨b, off, hA, _, hc⟩ := hx2 h0
    exact ⟨b, off, hA, hc⟩) hl hlb
  unfold Oper.wp execOp
  simp only [ho, resolve, invoke, builtin, Sem.run_bind, Sem.run_pure, Result.andThen_ok, List.map_toArray, List.map_cons, List.map_nil, hs, hx, hrun]
  exact hK _ _ (h v' w' h1 h2 h3)

theorem le_bytes {n by_ : Nat} (hb : by_ ≤ 1024) (h : n ≤ 68719476736) : n ≤ maxLen ∧ n * by_ ≤ 140737488355328 := ⟨by unfold maxLen; omega, Nat.le_trans (Nat.mul_le_mul h hb) (by omega)⟩
theorem pushR {P : Program} {t e : TypeId} (T : ElT P E t e) {ops : Array Oper} {rest : List Oper} {o : Oper} {a : Act} {Q : Exit → Act → World → Prop} (hgd : o.guard = none) (s x : Operand)
    (ho : o.op = .call { callee := .builtin .append, args := #[s, x], argTypes := #[t, t] })
    (w : World) (base : Nat) (v : Value) (l ns : List α) (n : Nat) (hn : ns.length = n) (A : Option Addr) (c : Nat) (hs : a.eval s = v) (hown : OwnRows E e w base v l) (hx : a.eval x = .slice A n c) (hr : RowsAt E w (Oth w v) A ns) (hl : l.length + n ≤ 68719476736)
    (h : ∀ v' w', OwnRows E e w' base v' (l ++ ns) → Below base w w' → Spares w w' v v' → wpList P ops Q rest (a.put o.dst v') w') :
    wpList P ops Q (o :: rest) a w := by
  obtain ⟨by_, T, hb⟩ := T
  exact pushRB T hgd s x ho w base v l ns n hn A c hs hown hx hr (le_bytes hb hl).1 (le_bytes hb hl).2 h
theorem cellOfNew (w : World) (cs : List Value) (e : TypeId) (j : Nat) (u : Value) (hu : cs[j]? = some u) : (w.alloc (.cells cs.toArray e)).cell? ⟨w.heap.size, 0 + j, none⟩ = some u := by
  have : (w.alloc (.cells cs.toArray e)).heap[w.heap.size]? = some (.cells cs.toArray e (0, 0)) := heap_alloc_new w _
  rw [cell_of_row _ _ _ _ _ _ this, Nat.zero_add, List.getElem?_toArray]
  exact hu

/-- append of one element, which the statement has just laid into a block of its own. -/
theorem pushOneB {P : Program} {t e : TypeId} {by_ : Nat} (T : ElTB P E t e by_) {ops : Array Oper} {rest : List Oper} {o : Oper} {a : Act} {Q : Exit → Act → World → Prop} (hgd : o.guard = none) (s x : Operand)
    (ho : o.op = .call { callee := .builtin .append, args := #[s, x], argTypes := #[t, t] })
    (w : World) (base : Nat) (v : Value) (l : List α) (y : α) (cs : List Value) (ca : Array Value) (hca : ca = cs.toArray) (hs : a.eval s = v) (hown : OwnRows E e w base v l) (nb : Nat) (hx : a.eval x = .slice (some ⟨nb, 0, none⟩) 1 1) (hnb : nb = w.heap.size) (hy : E.rep w (Oth w v) y cs) (hl : l.length < maxLen) (hlb : (l.length + 1) * by_ ≤ 140737488355328)
    (h : ∀ v' w', OwnRows E e w' base v' (l ++ [y]) → Below base w w' → Spares w w' v v' → wpList P ops Q rest (a.put o.dst v') w') :
    wpList P ops Q (o :: rest) a (w.alloc (.cells ca e)) := by
  subst hnb
  subst hca
  have hsz : w.heap.size ≤ (w.alloc (.cells cs.toArray e)).heap.size := by simp
  have hkeep : ∀ b, b < w.heap.size → (w.alloc (.cells cs.toArray e)).heap[b]? = w.heap[b]? := fun b hb => Below.heap_alloc w _ b hb
  have hy' : E.rep (w.alloc (.cells cs.toArray e)) (Oth (w.alloc (.cells cs.toArray e)) v) y cs := E.same hy (fun b hb => hkeep b hb.1) fun b hb => ⟨Nat.lt_of_lt_of_le hb.1 hsz, hb.2⟩
  have hnot : v.ownBlock ≠ some w.heap.size := fun e => by have := (hown.block _ e).2; omega
  refine pushRB T hgd s x ho _ base v l [y] 1 rfl _ 1 hs (hown.alloc _) hx ⟨cs, Reps.single hy', fun _ => ⟨w.heap.size, 0, rfl, ⟨by simp, hnot⟩, fun j u hu => cellOfNew w cs e j u hu⟩⟩ hl hlb ?_
  intro v' w' h1 h2 h3
  refine h v' w' h1 (((Below.refl base w).alloc hown.1 _).trans h2) fun b hb => ?_
  obtain ⟨e1, e2⟩ := h3 b ⟨Nat.lt_of_lt_of_le hb.1 hsz, hb.2⟩
  exact ⟨e1.trans (hkeep b hb.1), e2⟩

theorem pushOne {P : Program} {t e : TypeId} (T : ElT P E t e) {ops : Array Oper} {rest : List Oper} {o : Oper} {a : Act} {Q : Exit → Act → World → Prop} (hgd : o.guard = none) (s x : Operand)
    (ho : o.op = .call { callee := .builtin .append, args := #[s, x], argTypes := #[t, t] })
    (w : World) (base : Nat) (v : Value) (l : List α) (y : α) (cs : List Value) (ca : Array Value) (hca : ca = cs.toArray) (hs : a.eval s = v) (hown : OwnRows E e w base v l) (nb : Nat) (hx : a.eval x = .slice (some ⟨nb, 0, none⟩) 1 1) (hnb : nb = w.heap.size) (hy : E.rep w (Oth w v) y cs) (hl : l.length < 68719476736)
    (h : ∀ v' w', OwnRows E e w' base v' (l ++ [y]) → Below base w w' → Spares w w' v v' → wpList P ops Q rest (a.put o.dst v') w') :
    wpList P ops Q (o :: rest) a (w.alloc (.cells ca e)) := by
  obtain ⟨by_, T, hb⟩ := T
  exact pushOneB T hgd s x ho w base v l y cs ca hca hs hown nb hx hnb hy (by have := (le_bytes hb (show l.length + 1 ≤ 68719476736 by omega)).1; omega) (le_bytes hb (by omega)).2 h
/-- A row that has just been made empty, with room for c. -/
theorem OwnRows.made (E : El α) (e : TypeId) (w : World) (base : Nat) (cur : Array Value) (cap : Nat) (hb : base ≤ w.heap.size) (hm : cap ≤ maxLen) (hs : cur.size = cap * E.n) : OwnRows E e (w.alloc (.cells cur e)) base (.slice (some ⟨w.heap.size, 0, none⟩) 0 cap) [] :=
  ⟨by simp; omega, [], World.ownsRow_made w cur cap hb hm hs, rfl⟩
/-- A literal of one element. -/
theorem OwnRows.one (w : World) (base : Nat) (y : α) (cs : List Value) (hb : base ≤ w.heap.size) (hy : E.rep w (Lo w.heap.size) y cs) : OwnRows E e (w.alloc (.cells cs.toArray e)) base (.slice (some ⟨w.heap.size, 0, none⟩) 1 1) [y] :=
  ⟨by simp; omega, cs, by simpa using World.ownsRow_lit (e := e) (size := E.n) w cs.toArray 1 hb (by simp [maxLen]) (by simpa using E.len hy),
    Reps.single (E.same hy (fun b hb => Below.heap_alloc w _ b hb) fun b hb => ⟨by simp; exact Nat.lt_succ_of_lt hb, fun e => by injection e with e; have : b < w.heap.size := hb; simp at e; omega⟩)⟩

/-- A store of one element's cell. -/
theorem OwnRows.setAll (h : OwnRows E e w base v l) {i : Nat} (hi : i < l.length) {y : α} {cs : List Value} (hy : E.rep w' (Oth w' v) y cs) (hs : w'.heap.size = w.heap.size)
    (hk : ∀ b, Oth w v b → w'.heap[b]? = w.heap[b]?) (hrow : ∀ xs, w.ownsRow base e E.n v l.length xs → w'.ownsRow base e E.n v l.length (xs.take (i * E.n) ++ cs ++ xs.drop (i * E.n + E.n))) : OwnRows E e w' base v (l.set i y) := by
  obtain ⟨h0, xs, h1, h3⟩ := h
  refine ⟨by omega, _, by rw [List.length_set]; exact hrow xs h1, Reps.set (h3.same hk fun b hb => ⟨by rw [hs]; exact hb.1, hb.2⟩) hy hi⟩
end

/-! Elements -/
/-- Elements whose cells do not lead anywhere. -/
def El.plain {α : Type} (n : Nat) (pos : 0 < n) (f : α → List Value) (len : ∀ x, (f x).length = n) (one : ∀ x, ∀ u ∈ f x, u.oneCell' = true) : El α where
  n := n
  pos := pos
  rep := fun _ _ x cs => cs = f x
  len := fun h => by rw [h]; exact len _
  one := fun h => by rw [h]; exact one _
  same := fun h _ _ => h
def intE : El Int := El.plain 1 (by decide) (fun x => [.int .i64 x]) (fun _ => rfl) (by intro x u hu; simp at hu; subst hu; rfl)
def boolE : El Bool := El.plain 1 (by decide) (fun x => [.bool x]) (fun _ => rfl) (by intro x u hu; simp at hu; subst hu; rfl)
def strE : El ByteArray := El.plain 1 (by decide) (fun x => [.string x]) (fun _ => rfl) (by intro x u hu; simp at hu; subst hu; rfl)
/-- Slices of elements. -/
def El.sl {α : Type} (E : El α) : El (List α) where
  n := 1
  pos := by decide
  rep := fun w S l cs => ∃ A cap, cs = [.slice A l.length cap] ∧ l.length ≤ cap ∧ cap ≤ maxLen ∧ RowsAt E w S A l
  len := fun h => by obtain ⟨A, cap, rfl, _⟩ := h; rfl
  one := fun h => by obtain ⟨A, cap, rfl, _⟩ := h; intro u hu; simp at hu; subst hu; rfl
  same := fun h hk hS => by
    obtain ⟨A, cap, e, h1, h2, h3⟩ := h
    exact ⟨A, cap, e, h1, h2, h3.same hk hS⟩

/-! Reading an argument -/
/-- Whatever reads as type t is a value of E that fits. -/
def Opens {α : Type} (P : Program) (E : El α) (t : TypeId) (fits : α → Prop) : Prop :=
  ∀ {H : Type} {enc : TypeId × Value → H} {w : World} {base : Nat} {spare : Nat → Bool} {held : Bool} {fuel : Nat} {cs : List Value} {x : DataW H × List MemPlace}, DataW.trod enc P w base spare held fuel t cs = some x → ∃ y, E.rep w (Lo w.heap.size) y cs ∧ fits y

theorem wf_i64 {n : Int} (h : (Lit.int .i64 n).wf = true) : -9223372036854775808 ≤ n ∧ n ≤ 9223372036854775807 := by
  have := bounds_i64 h
  omega
/-- n is a Go int. -/
def I64 (n : Int) : Prop := -9223372036854775808 ≤ n ∧ n ≤ 9223372036854775807
theorem opens_int {P : Program} {t : TypeId} (ht : P.underlying t = some (.int .i64)) : Opens P intE t I64 := by
  intro H enc w base spare held fuel cs x h
  obtain ⟨n, e, _, hw⟩ := DataW.trod_int ht h
  exact ⟨n, e, wf_i64 hw⟩
theorem opens_bool {P : Program} {t : TypeId} (ht : P.underlying t = some .bool) : Opens P boolE t (fun _ => True) := by
  intro H enc w base spare held fuel cs x h
  obtain ⟨n, e, _⟩ := DataW.trod_bool ht h
  exact ⟨n, e, trivial⟩
theorem opens_str {P : Program} {t : TypeId} (ht : P.underlying t = some .string) : Opens P strE t (fun s => s.size ≤ maxLen) := by
  intro H enc w base spare held fuel cs x h
  obtain ⟨n, e, _, hw⟩ := DataW.trod_string ht h
  exact ⟨n, e, hw⟩
theorem cell_plain {w : World} {a : Addr} {v : Value} (h : w.cell? (a.add 0) = some v) : ∃ b off, a = ⟨b, off, none⟩ := by
  obtain ⟨b, off, spot⟩ := a
  have hspot : spot = none := by simpa [Addr.add] using World.cell?_spot h
  subst hspot
  exact ⟨b, off, rfl⟩
theorem reps_of {α : Type} {E : El α} {w : World} {S : Nat → Prop} {fits : α → Prop} {b : Nat} : ∀ (n off : Nat), (∀ i, i < n → ∃ y cs, E.rep w S y cs ∧ fits y ∧ ∀ j u, cs[j]? = some u → w.cell? ⟨b, off + i * E.n + j, none⟩ = some u) →
    ∃ l xs, l.length = n ∧ Reps E w S l xs ∧ (∀ y ∈ l, fits y) ∧ ∀ j u, xs[j]? = some u → w.cell? ⟨b, off + j, none⟩ = some u
  | 0, off, _ => ⟨[], [], rfl, rfl, by simp, by simp⟩
  | n + 1, off, h => by
    obtain ⟨y, cs, h1, h2, h3⟩ := h 0 (by omega)
    obtain ⟨l, xs, k1, k2, k3, k4⟩ := reps_of (E := E) (fits := fits) n (off + E.n) (fun i hi => by
      obtain ⟨y, cs, h1, h2, h3⟩ := h (i + 1) (by omega)
      exact ⟨y, cs, h1, h2, fun j u hu => by have := h3 j u hu; rwa [Nat.add_mul, Nat.one_mul, show off + (i * E.n + E.n) + j = off + E.n + i * E.n + j by omega] at this⟩)
    refine ⟨y :: l, cs ++ xs, by simp [k1], ⟨cs, xs, rfl, h1, k2⟩, ?_, ?_⟩
    · intro z hz
      rcases List.mem_cons.1 hz with rfl | hz
      · exact h2
      · exact k3 z hz
    · intro j u hu
      have hl := E.len h1
      rcases Nat.lt_or_ge j E.n with hj | hj
      · rw [List.getElem?_append_left (by omega)] at hu
        have := h3 j u hu
        rwa [Nat.zero_mul, Nat.add_zero] at this
      · rw [List.getElem?_append_right (by omega), hl] at hu
        have := k4 _ u hu
        rwa [show off + E.n + (j - E.n) = off + j by omega] at this
theorem Opens.sl {α : Type} {P : Program} {E : El α} {t e : TypeId} {fits : α → Prop} (ho : Opens P E e fits) (ht : P.underlying t = some (.slice e)) (hC : P.cellsOf e = E.n) : Opens P E.sl t (fun l => l.length ≤ maxLen ∧ ∀ y ∈ l, fits y) := by
  intro H enc w base spare held fuel cs x h
  rcases open_slice ht h with ⟨rfl, _⟩ | ⟨a, len, cap, m, n, D, Pl, rfl, hb, hl, hm, hmm, _, hi⟩
  · exact ⟨[], ⟨none, 0, rfl, by simp, by simp [maxLen], RowsAt.nil _ _ _ _⟩, by simp [maxLen], by simp⟩
  · have hml : len ≤ m := by rw [hmm]; split <;> omega
    rcases Nat.eq_zero_or_pos len with h0 | h0
    · subst h0
      exact ⟨[], ⟨some a, cap, rfl, by simp, hm, RowsAt.nil _ _ _ _⟩, by simp [maxLen], by simp⟩
    · have hplain : ∃ b off, a = ⟨b, off, none⟩ := by
        obtain ⟨cs', hc, _⟩ := hi 0 (by omega)
        obtain ⟨_, hcl, hat⟩ := World.cells?_some hc
        have hp := E.pos
        have h1 := hat 0 (by omega)
        rw [Nat.zero_mul, List.getElem?_eq_getElem (by omega)] at h1
        have e0 : (a.add 0).add 0 = a.add 0 := by rw [Go.Deep.add_add]
        rw [e0] at h1
        exact cell_plain h1
      obtain ⟨b, off, rfl⟩ := hplain
      have hel : ∀ i, i < len → ∃ y cs, E.rep w (Lo w.heap.size) y cs ∧ fits y ∧ ∀ j u, cs[j]? = some u → w.cell? ⟨b, off + i * E.n + j, none⟩ = some u := by
        intro i hil
        obtain ⟨cs', hc, hd⟩ := hi i (by omega)
        obtain ⟨y, hy, hf⟩ := ho hd
        obtain ⟨_, hcl, hat⟩ := World.cells?_some hc
        refine ⟨y, cs', hy, hf, fun j u hu => ?_⟩
        have hj : j < cs'.length := (List.getElem?_eq_some_iff.1 hu).1
        have h1 := hat j (by omega)
        rw [hu, addr_add, addr_add, hC] at h1
        exact h1
      obtain ⟨l, xs, k1, k2, k3, k4⟩ := reps_of len off hel
      subst k1
      refine ⟨l, ⟨_, cap, rfl, hl, hm, xs, k2, fun _ => ⟨b, off, rfl, ?_, k4⟩⟩, by omega, k3⟩
      have hxl := k2.length
      have hp := E.pos
      have : 0 < xs.length := by rw [hxl]; exact Nat.mul_pos h0 hp
      exact World.block_lt_of_cell? w _ (k4 0 _ (List.getElem?_eq_getElem this))
end Go.Proofs.YtambinjjfapcgaaDoor
